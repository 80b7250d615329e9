/- WHAT IS PROVED OF FORMULAS: lists in memory, memory that is only added to, the usual loops. -/
import Derived.Test.YtegnpplffhkjhaaKxR
set_option linter.unusedVariables false
set_option linter.unusedSimpArgs false
namespace Go.Kx

/-- All of H stands in H' as it stood. -/
def Ext (H H' : PH) : Prop := ∀ b o, H b = some o → H' b = some o
theorem Ext.refl (H : PH) : Ext H H := fun _ _ h => h
theorem Ext.trans {A B C : PH} (h : Ext A B) (k : Ext B C) : Ext A C := fun b o hb => k b o (h b o hb)
theorem Ext.upd {H : PH} {b : Nat} {o : Obj} (hb : H b = none) : Ext H (H.upd b o) := fun c x hc => by
  rw [PH.upd_other _ _ (fun e => by subst e; rw [hb] at hc; cases hc)]; exact hc
theorem Ext.put {H0 H : PH} (h : Ext H0 H) {b : Nat} {o : Obj} (hb : H0 b = none) : Ext H0 (H.upd b o) := fun c x hc => by
  rw [PH.upd_other _ _ (fun e => by subst e; rw [hb] at hc; cases hc)]; exact h c x hc
theorem Ext.none {A B : PH} (h : Ext A B) {b : Nat} (hb : B b = none) : A b = none := by
  cases ha : A b with
  | none => rfl
  | some o => rw [h b o ha] at hb; cases hb
theorem Ext.cell {A B : PH} (h : Ext A B) {a : Addr} {v : Value} (hc : cellAt A a = some v) : cellAt B a = some v := by
  unfold cellAt at hc ⊢
  split at hc
  · rename_i c e f hb; rw [h _ _ hb]; exact hc
  · cases hc
theorem Ext.newA {H : PH} {o : Obj} {a : Addr} {H' : PH} (h : NewA H o a H') : Ext H H' := by obtain ⟨b, hb, rfl, rfl⟩ := h; exact .upd hb
theorem Ext.newS {H : PH} {o : Obj} {n c : Nat} {r : Sl} {H' : PH} (h : NewS H o n c r H') : Ext H H' := by obtain ⟨b, hb, rfl, rfl⟩ := h; exact .upd hb

/-! ### Lists -/
def ListAt {α : Type} (enc : α → Value) (H : PH) (s : Sl) (l : List α) : Prop :=
  s.len = l.length ∧ s.len ≤ s.cap ∧ ∀ i x, l[i]? = some x → ∃ a, s.a = some a ∧ a.spot = none ∧ cellAt H (a.add i) = some (enc x)
abbrev Ints (H : PH) (s : Sl) (l : List Int) : Prop := ListAt (Value.int .i64) H s l
abbrev Bytes (H : PH) (s : Sl) (l : List Int) : Prop := ListAt (Value.int .u8) H s l
theorem ListAt.ext {α : Type} {enc : α → Value} {A B : PH} {s : Sl} {l : List α} (h : ListAt enc A s l) (hx : Ext A B) : ListAt enc B s l :=
  ⟨h.1, h.2.1, fun i x hi => let ⟨a, ha, hs, hc⟩ := h.2.2 i x hi; ⟨a, ha, hs, hx.cell hc⟩⟩
theorem ListAt.nil {α : Type} {enc : α → Value} {H : PH} : ListAt enc H Sl.nil ([] : List α) := ⟨rfl, Nat.le_refl _, fun i x h => by simp at h⟩
theorem ListAt.lenI {α : Type} {enc : α → Value} {H : PH} {s : Sl} {l : List α} (h : ListAt enc H s l) : (s.len : Int) = l.length := by rw [h.1]

/-- A cell of a list is read. -/
theorem idx_ld {α : Type} {enc : α → Value} {H : PH} {s : Sl} {l : List α} {i : Int} {K : α → Prop} (h : ListAt enc H s l) (h0 : 0 ≤ i) (h1 : i < l.length) (hK : ∀ x, l[i.toNat]? = some x → K x) :
    mIdx s 1 i fun a => mLd enc H a K := by
  have hlt : i.toNat < l.length := by omega
  obtain ⟨a, ha, hs, hc⟩ := h.2.2 i.toNat l[i.toNat] (by simp [hlt])
  exact ⟨_, ⟨a, ha, h0, by rw [h.1]; omega, rfl⟩, _, by simpa using hc, hK _ (by simp [hlt])⟩

theorem cellsAt_of_row {H : PH} {b off n : Nat} {cs : List Value} {e : TypeId} {fz : Nat × Nat} (hb : H b = some (.cells cs.toArray e fz)) (h : off + n ≤ cs.length) : cellsAt H ⟨b, off, none⟩ n = some ((cs.drop off).take n) := by
  unfold cellsAt
  split
  · rename_i h0; subst h0; simp
  · simp [hb, h]
theorem cellAt_of_row {H : PH} {b off : Nat} {cs : List Value} {e : TypeId} {fz : Nat × Nat} (hb : H b = some (.cells cs.toArray e fz)) : cellAt H ⟨b, off, none⟩ = cs[off]? := by
  simp [cellAt, hb]

/-- The cells of a list, read at once. -/
theorem ListAt.cells {α : Type} {enc : α → Value} {H : PH} {s : Sl} {l : List α} (h : ListAt enc H s l) : sliceCells H s 1 = some (l.map enc) := by
  unfold sliceCells
  cases ha : s.a with
  | none =>
    have : l = [] := by
      cases l with
      | nil => rfl
      | cons x l => obtain ⟨a, h1, _⟩ := h.2.2 0 x rfl; rw [ha] at h1; cases h1
    subst this; simp
  | some a =>
    simp only [Nat.mul_one, h.1]
    unfold cellsAt
    by_cases h0 : l.length = 0
    · have : l = [] := List.length_eq_zero_iff.1 h0
      simp [this]
    · rw [if_neg h0]
      have hx : ∀ i, i < l.length → ∃ x, l[i]? = some x ∧ cellAt H (a.add i) = some (enc x) := fun i hi => by
        obtain ⟨a', h1, h2, h3⟩ := h.2.2 i l[i] (by simp [hi])
        rw [ha] at h1; cases h1
        exact ⟨l[i], by simp [hi], h3⟩
      obtain ⟨x0, _, hc0⟩ := hx 0 (by omega)
      obtain ⟨a', ha', hsp, _⟩ := h.2.2 0 l[0] (by simp)
      rw [ha] at ha'; cases ha'
      rw [add_zero'] at hc0
      have hc0' := hc0
      unfold cellAt at hc0
      cases hb : H a.block with
      | none => rw [hb] at hc0; cases hc0
      | some o =>
        cases o with
        | cells c e f =>
          have hci : ∀ i x, l[i]? = some x → c[a.off + i]? = some (enc x) := fun i x hi => by
            obtain ⟨a', h1, _, h3⟩ := h.2.2 i x hi
            rw [ha] at h1; cases h1
            unfold cellAt at h3
            rw [add_block, hb] at h3
            simp only [add_spot _ _ hsp, add_off] at h3
            simpa using h3
          have hle : a.off + l.length ≤ c.size := by
            have h1 := hci (l.length - 1) l[l.length - 1] (by simp)
            have := (Array.getElem?_eq_some_iff.1 h1).1
            omega
          simp only [hsp, Option.isSome_none, Bool.false_eq_true, if_false, hle, if_true, Option.some.injEq]
          apply List.ext_getElem?
          intro i
          rw [List.getElem?_take]
          by_cases hi : i < l.length
          · rw [if_pos hi, List.getElem?_drop, Array.getElem?_toList, hci i l[i] (by simp [hi]), List.getElem?_map, List.getElem?_eq_getElem hi]; rfl
          · rw [if_neg hi, List.getElem?_eq_none (by simp; omega)]
        | _ => rw [hb] at hc0; cases hc0

/-! ### Vectors of the call's own -/
/-- s is nil and l empty, or s has a row of its own that begins with l. -/
def Vec {α : Type} (enc : α → Value) (H : PH) (s : Sl) (l : List α) : Prop :=
  (s = Sl.nil ∧ l = []) ∨ ∃ b sp e, s = ⟨some ⟨b, 0, none⟩, l.length, l.length + sp.length⟩ ∧ H b = some (row (l.map enc ++ sp) e)
def Sl.has (s : Sl) (b : Nat) : Prop := ∃ a, s.a = some a ∧ a.block = b
theorem Vec.list {α : Type} {enc : α → Value} {H : PH} {s : Sl} {l : List α} (h : Vec enc H s l) : ListAt enc H s l := by
  rcases h with ⟨rfl, rfl⟩ | ⟨b, sp, e, rfl, hb⟩
  · exact .nil
  · refine ⟨rfl, by simp, fun i x hi => ⟨_, rfl, rfl, ?_⟩⟩
    have hlt : i < l.length := (List.getElem?_eq_some_iff.1 hi).1
    rw [add_mk, cellAt_of_row hb, Nat.zero_add, List.getElem?_append_left (by simpa using hlt), List.getElem?_map, hi]; rfl
theorem Vec.ext {α : Type} {enc : α → Value} {A B : PH} {s : Sl} {l : List α} (h : Vec enc A s l) (hx : Ext A B) : Vec enc B s l := by
  rcases h with h | ⟨b, sp, e, h1, hb⟩
  · exact .inl h
  · exact .inr ⟨b, sp, e, h1, hx _ _ hb⟩
theorem Vec.ofNew {α : Type} {enc : α → Value} {H H' : PH} {s : Sl} {l : List α} {e : TypeId} (h : NewS H (row (l.map enc) e) l.length l.length s H') : Vec enc H' s l := by
  obtain ⟨b, hb, rfl, rfl⟩ := h
  exact .inr ⟨b, [], e, by simp, by simp⟩

/-- 'append' to a vector of the call's own. -/
theorem app_vec {α : Type} {enc : α → Value} {H : PH} {e m : Nat} {zs : List Value} {s x : Sl} {l ys : List α} {K : Sl → PH → Prop} (hs : Vec enc H s l) (hx : ListAt enc H x ys) (hc : ∀ y, cellV (enc y) = true) (hz : zs.length = 1)
    (hb : (4 * (l.length + ys.length) + 4096) * m ≤ 2 ^ 48)
    (hK : ∀ r H', Vec enc H' r (l ++ ys) → (∀ c o, H c = some o → ¬ s.has c → H' c = some o) → (∀ c, r.has c → s.has c ∨ H c = none) → K r H') : mApp H e 1 m zs s x K := by
  refine ⟨ys.map enc, hx.cells, by simp [hx.1], by simp [hc], ?_⟩
  have hsl := hs.list
  split
  · rename_i hle
    rcases hs with ⟨rfl, rfl⟩ | ⟨b, sp, e', rfl, hbk⟩
    · have hy : ys = [] := by
        have := hx.1; simp at hle; rw [hle] at this
        exact List.length_eq_zero_iff.1 this.symm
      subst hy
      refine ⟨rfl, hK _ _ (.inl ⟨by simp [hx.1], rfl⟩) (fun c o h _ => h) fun c hc => ?_⟩
      obtain ⟨a, ha, _⟩ := hc; cases ha
    · simp only at hle ⊢
      have hyl : ys.length ≤ sp.length := by rw [hx.1] at hle; omega
      refine ⟨b, 0, _, e', rfl, hbk, by simp; omega, hK _ _ (.inr ⟨b, sp.drop ys.length, e', ?_, ?_⟩) (fun c o hc hn => ?_) fun c hc => ?_⟩
      · simp [hx.1]; omega
      · simp only [PH.upd_same, Nat.zero_add, Nat.mul_one]
        rw [putAt_eq _ _ _ (by simp; omega)]
        have e1 : List.take l.length (l.map enc ++ sp) = l.map enc := by rw [List.take_append_of_le_length (by simp), List.take_of_length_le (by simp)]
        have e2 : List.drop (l.length + (ys.map enc).length) (l.map enc ++ sp) = sp.drop ys.length := by
          rw [List.drop_append, List.drop_of_length_le (by simp), List.nil_append, List.length_map, List.length_map, Nat.add_sub_cancel_left]
        rw [e1, e2]; simp
      · rw [PH.upd_other _ _ (fun e => hn ⟨_, rfl, e.symm⟩)]; exact hc
      · obtain ⟨a, ha, hab⟩ := hc; cases ha; exact .inl ⟨_, rfl, hab⟩
  · refine ⟨l.map enc, hsl.cells, by rw [hsl.1, hx.1]; exact hb, hsl.2.1, fun b c hbn hcc => ?_⟩
    refine hK _ _ (.inr ⟨b, zeros (c - (s.len + x.len)) zs, e, ?_, ?_⟩) (fun c' o hc' _ => ?_) fun c' hc' => ?_
    · rw [zeros_length, hz, List.length_append, hsl.1, hx.1]; simp; rw [hsl.1, hx.1] at hcc; omega
    · simp
    · rw [PH.upd_other _ _ (fun e => by subst e; rw [hbn] at hc'; cases hc')]; exact hc'
    · obtain ⟨a, ha, hab⟩ := hc'; cases ha; subst hab; exact .inr hbn

/-! ### Control -/
theorem mIf_intro {c : Bool} {a b : Prop} (h1 : c = true → a) (h2 : c = false → b) : mIf c a b := ⟨h1, h2⟩
theorem mJoin_intro {σ : Type} {k : σ → PH → Prop} {body : (σ → PH → Prop) → Prop} (h : body k) : mJoin k body := h
theorem mLoop_intro {σ : Type} {body : σ → PH → (σ → PH → Prop) → Prop} {s0 : σ} {H0 : PH} (I : σ → PH → Prop) (μ : σ → PH → Nat) (h0 : I s0 H0)
    (h : ∀ s H, I s H → body s H fun s' H' => I s' H' ∧ μ s' H' < μ s H) (hmono : ∀ s H (K K' : σ → PH → Prop), (∀ s' H', K s' H' → K' s' H') → body s H K → body s H K') : mLoop body s0 H0 :=
  ⟨fun m s H => I s H ∧ μ s H = m, ⟨_, h0, rfl⟩, fun m s H ⟨hI, hm⟩ => hmono s H _ _ (fun s' H' ⟨a, b⟩ => ⟨_, hm ▸ b, a, rfl⟩) (h s H hI)⟩
/-- A loop: J m: what holds at its head while at most m rounds are to come. -/
theorem mLoop_of {σ : Type} {body : σ → PH → (σ → PH → Prop) → Prop} {s0 : σ} {H0 : PH} (J : Nat → σ → PH → Prop) (m0 : Nat) (h0 : J m0 s0 H0)
    (h : ∀ m s H (again : σ → PH → Prop), J m s H → (∀ m' s' H', m' < m → J m' s' H' → again s' H') → body s H again) : mLoop body s0 H0 :=
  ⟨J, ⟨m0, h0⟩, fun m s H hJ => h m s H _ hJ fun m' s' H' hlt hJ' => ⟨m', hlt, hJ'⟩⟩
/-- A loop that counts to n: J k: what holds behind k rounds. -/
theorem mLoop_count {σ : Type} {body : σ → PH → (σ → PH → Prop) → Prop} {s0 : σ} {H0 : PH} (n : Nat) (J : Nat → σ → PH → Prop) (h0 : J 0 s0 H0)
    (h : ∀ k s H (again : σ → PH → Prop), k ≤ n → J k s H → (k < n → ∀ s' H', J (k + 1) s' H' → again s' H') → body s H again) : mLoop body s0 H0 :=
  mLoop_of (fun m s H => ∃ k, k ≤ n ∧ m = n - k ∧ J k s H) n ⟨0, Nat.zero_le _, rfl, h0⟩ fun m s H again ⟨k, hk, hm, hJ⟩ ha =>
    h k s H again hk hJ fun hlt s' H' hJ' => ha (n - (k + 1)) s' H' (by omega) ⟨k + 1, hlt, rfl, hJ'⟩
end Go.Kx

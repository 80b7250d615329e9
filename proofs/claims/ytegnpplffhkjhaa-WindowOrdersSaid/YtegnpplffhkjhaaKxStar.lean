/- THINGS IN MEMORY, APART FROM EACH OTHER: a list of them, each with its own blocks. -/
import Derived.Test.YtegnpplffhkjhaaKxS
set_option linter.unusedVariables false
set_option linter.unusedSimpArgs false
namespace Go.Kx

theorem VecN.has_some {α : Type} {enc : α → List Value} {sz : Nat} {H : PH} {s : Sl} {l : List α} (h : VecN enc sz H s l) {c : Nat} (hc : s.has c) : ∃ o, H c = some o := by
  rcases h with ⟨rfl, _⟩ | ⟨b, sp, e, spare, rfl, _, hb⟩
  · obtain ⟨a, ha, _⟩ := hc; cases ha
  · obtain ⟨a, ha, rfl⟩ := hc; cases ha; exact ⟨_, hb⟩
theorem Vec.has_some {α : Type} {enc : α → Value} {H : PH} {s : Sl} {l : List α} (h : Vec enc H s l) {c : Nat} (hc : s.has c) : ∃ o, H c = some o := by
  rcases h with ⟨rfl, _⟩ | ⟨b, sp, e, rfl, hb⟩
  · obtain ⟨a, ha, _⟩ := hc; cases ha
  · obtain ⟨a, ha, rfl⟩ := hc; cases ha; exact ⟨_, hb⟩
theorem Vec.agree {α : Type} {enc : α → Value} {A B : PH} {s : Sl} {l : List α} (h : Vec enc A s l) (x : ∀ c o, s.has c → A c = some o → B c = some o) : Vec enc B s l := by
  rcases h with h | ⟨b, sp, e, h1, h2⟩
  · exact .inl h
  · exact .inr ⟨b, sp, e, h1, x _ _ ⟨_, by rw [h1], rfl⟩ h2⟩
theorem RowAt.agree {A B : PH} {a : Addr} {cs : List Value} (h : RowAt A a cs) (x : ∀ c o, c = a.block → A c = some o → B c = some o) : RowAt B a cs :=
  ⟨h.1, h.2.1, let ⟨e, he⟩ := h.2.2; ⟨e, x _ _ rfl he⟩⟩
theorem ne_none {H : PH} {c : Nat} (h : ∃ o, H c = some o) : H c ≠ none := by obtain ⟨o, ho⟩ := h; rw [ho]; simp
theorem some_of {H : PH} {c : Nat} (h : H c ≠ none) : ∃ o, H c = some o := by cases hc : H c with
  | none => exact absurd hc h
  | some o => exact ⟨o, rfl⟩
theorem nilHas {c : Nat} : ¬ Sl.nil.has c := fun ⟨a, ha, _⟩ => by cases ha

structure Ob where
  pred : PH → Prop
  foot : Nat → Prop
  agree : ∀ {H H' : PH}, pred H → (∀ c o, foot c → H c = some o → H' c = some o) → pred H'
  alloc : ∀ {H : PH} {c : Nat}, pred H → foot c → H c ≠ none
def Dj (A B : Ob) : Prop := ∀ c, A.foot c → ¬ B.foot c
theorem Dj.symm {A B : Ob} (h : Dj A B) : Dj B A := fun c hb ha => h c ha hb
structure Stars (H : PH) (L : List Ob) : Prop where
  all : ∀ (i : Nat) (O : Ob), L[i]? = some O → O.pred H
  dj : ∀ (i j : Nat) (A B : Ob), L[i]? = some A → L[j]? = some B → i ≠ j → Dj A B

/-- What stands in B stands for good. -/
def baseO (B : PH) : Ob := ⟨fun H => Ext B H, fun c => B c ≠ none, fun h x c o hc => x c o (by rw [hc]; simp) (h c o hc), fun h hc => by
  obtain ⟨o, ho⟩ := some_of hc
  rw [h _ _ ho]; simp⟩
def rowO (a : Addr) (cs : List Value) : Ob := ⟨fun H => RowAt H a cs, fun c => c = a.block, fun h x => h.agree x, fun h hc => by
  obtain ⟨e, he⟩ := h.2.2
  rw [hc, he]; simp⟩
def vecO {α : Type} (enc : α → Value) (s : Sl) (l : List α) : Ob := ⟨fun H => Vec enc H s l, s.has, fun h x => h.agree x, fun h hc => ne_none (h.has_some hc)⟩
def vecNO {α : Type} (enc : α → List Value) (sz : Nat) (s : Sl) (l : List α) : Ob := ⟨fun H => VecN enc sz H s l, s.has, fun h x => h.agree x, fun h hc => ne_none (h.has_some hc)⟩
/-- Nothing. -/
def noO : Ob := ⟨fun _ => True, fun _ => False, fun h _ => h, fun _ h => h.elim⟩
/-- Two things, apart. -/
def andO (A B : Ob) : Ob := ⟨fun H => A.pred H ∧ B.pred H ∧ Dj A B, fun c => A.foot c ∨ B.foot c,
  fun h x => ⟨A.agree h.1 fun c o hc => x c o (.inl hc), B.agree h.2.1 fun c o hc => x c o (.inr hc), h.2.2⟩, fun h hc => hc.elim (A.alloc h.1) (B.alloc h.2.1)⟩

section
variable {H H' : PH} {L : List Ob} {O O' : Ob}
theorem Stars.get (h : Stars H L) (i : Nat) (hi : L[i]? = some O) : O.pred H := h.all i O hi
theorem Stars.base {B : PH} (h : Stars H (baseO B :: L)) : Ext B H := h.all 0 _ rfl
theorem Stars.start (H : PH) : Stars H [baseO H] := ⟨fun i O hi => by
  cases i with
  | zero => simp at hi; subst hi; exact Ext.refl H
  | succ i => simp at hi, fun i j A B hi hj hne => by
  have h1 := (List.getElem?_eq_some_iff.1 hi).1
  have h2 := (List.getElem?_eq_some_iff.1 hj).1
  simp at h1 h2; omega⟩
/-- One of them is turned. -/
theorem Stars.turn (h : Stars H L) (i : Nat) (hi : L[i]? = some O) (p : O'.pred H') (f : ∀ c, O'.foot c → O.foot c ∨ H c = none) (b : ∀ c o, H c = some o → ¬ O.foot c → H' c = some o) : Stars H' (L.set i O') := by
  have hlt := (List.getElem?_eq_some_iff.1 hi).1
  have key : ∀ (j : Nat) (A : Ob), L[j]? = some A → j ≠ i → A.pred H' ∧ Dj A O' := fun j A hj hne => by
    have ha := h.all j A hj
    have hd := h.dj j i A O hj hi hne
    refine ⟨A.agree ha fun c o hc ho => b c o ho (hd c hc), fun c hc hf => ?_⟩
    rcases f c hf with h1 | h1
    · exact hd c hc h1
    · exact A.alloc ha hc h1
  have cases_ : ∀ (j : Nat) (A : Ob), (L.set i O')[j]? = some A → (j = i ∧ A = O') ∨ (j ≠ i ∧ L[j]? = some A) := fun j A hj => by
    by_cases e : j = i
    · subst e; rw [List.getElem?_set_self hlt] at hj; exact .inl ⟨rfl, (Option.some.inj hj).symm⟩
    · rw [List.getElem?_set_ne (fun h => e h.symm)] at hj; exact .inr ⟨e, hj⟩
  refine ⟨fun j A hj => ?_, fun j k A B hj hk hne => ?_⟩
  · rcases cases_ j A hj with ⟨rfl, rfl⟩ | ⟨e, hj⟩
    · exact p
    · exact (key j A hj e).1
  · rcases cases_ j A hj with ⟨e, ea⟩ | ⟨e, hj1⟩ <;> rcases cases_ k B hk with ⟨e2, eb⟩ | ⟨e2, hk1⟩
    · exact absurd (e.trans e2.symm) hne
    · rw [ea]; exact (key k B hk1 e2).2.symm
    · rw [eb]; exact (key j A hj1 e).2
    · exact h.dj j k A B hj1 hk1 hne
theorem Stars.ext (h : Stars H L) (x : Ext H H') : Stars H' L := ⟨fun i O hi => O.agree (h.all i O hi) fun c o _ hc => x c o hc, h.dj⟩
/-- A new one. -/
theorem Stars.new (h : Stars H L) (x : Ext H H') (p : O'.pred H') (f : ∀ c, O'.foot c → H c = none) : Stars H' (L ++ [O']) := by
  have cases_ : ∀ (j : Nat) (A : Ob), (L ++ [O'])[j]? = some A → (j = L.length ∧ A = O') ∨ (j ≠ L.length ∧ L[j]? = some A) := fun j A hj => by
    by_cases e : j < L.length
    · rw [List.getElem?_append_left e] at hj; exact .inr ⟨by omega, hj⟩
    · rw [List.getElem?_append_right (by omega)] at hj
      have := (List.getElem?_eq_some_iff.1 hj).1
      simp at this
      have e0 : j - L.length = 0 := by omega
      rw [e0] at hj; simp at hj
      exact .inl ⟨by omega, hj.symm⟩
  have key : ∀ (j : Nat) (A : Ob), L[j]? = some A → Dj A O' := fun j A hj c hc hf => A.alloc (h.all j A hj) hc (f c hf)
  refine ⟨fun j A hj => ?_, fun j k A B hj hk hne => ?_⟩
  · rcases cases_ j A hj with ⟨rfl, rfl⟩ | ⟨e, hj⟩
    · exact p
    · exact A.agree (h.all j A hj) fun c o _ hc => x c o hc
  · rcases cases_ j A hj with ⟨e, ea⟩ | ⟨e, hj1⟩ <;> rcases cases_ k B hk with ⟨e2, eb⟩ | ⟨e2, hk1⟩
    · exact absurd (e.trans e2.symm) hne
    · rw [ea]; exact (key k B hk1).symm
    · rw [eb]; exact key j A hj1
    · exact h.dj j k A B hj1 hk1 hne
/-- Some of them, in whatever order. -/
theorem Stars.pick (h : Stars H L) (is : List Nat) (hn : is.Nodup) {L' : List Ob} (hl : L' = is.filterMap fun i => L[i]?) (hb : is.all (fun i => decide (i < L.length)) = true) : Stars H L' := by
  have hlen : L'.length = is.length := by
    subst hl
    clear hn
    induction is with
    | nil => rfl
    | cons i is ih =>
      simp only [List.all_cons, Bool.and_eq_true, decide_eq_true_eq] at hb
      rw [List.filterMap_cons, List.getElem?_eq_getElem hb.1]
      simp [ih hb.2]
  have hget : ∀ (k : Nat) (A : Ob), L'[k]? = some A → ∃ i, is[k]? = some i ∧ L[i]? = some A := by
    subst hl
    clear hn hlen
    induction is with
    | nil => intro k A hk; simp at hk
    | cons i is ih =>
      simp only [List.all_cons, Bool.and_eq_true, decide_eq_true_eq] at hb
      intro k A hk
      rw [List.filterMap_cons, List.getElem?_eq_getElem hb.1] at hk
      cases k with
      | zero => simp at hk; exact ⟨i, rfl, by rw [List.getElem?_eq_getElem hb.1, hk]⟩
      | succ k => simp at hk; obtain ⟨i', h1, h2⟩ := ih hb.2 k A (by simpa using hk); exact ⟨i', by simpa using h1, h2⟩
  refine ⟨fun k A hk => let ⟨i, _, hi⟩ := hget k A hk; h.all i A hi, fun j k A B hj hk hne => ?_⟩
  obtain ⟨i1, a1, a2⟩ := hget j A hj
  obtain ⟨i2, b1, b2⟩ := hget k B hk
  refine h.dj i1 i2 A B a2 b2 fun e => hne ?_
  subst e
  obtain ⟨l1, h1⟩ := (List.getElem?_eq_some_iff.1 a1)
  obtain ⟨l2, h2⟩ := (List.getElem?_eq_some_iff.1 b1)
  have hp := List.pairwise_iff_getElem.1 hn
  rcases Nat.lt_trichotomy j k with hlt | hlt | hlt
  · exact absurd (h1.trans h2.symm) (hp j k l1 l2 hlt)
  · exact hlt
  · exact absurd (h2.trans h1.symm) (hp k j l2 l1 hlt)
theorem Stars.init (h : Stars H (L ++ [O])) : Stars H L := ⟨fun i A hi => h.all i A (by rw [List.getElem?_append_left (List.getElem?_eq_some_iff.1 hi).1]; exact hi), fun i j A B hi hj hne =>
  h.dj i j A B (by rw [List.getElem?_append_left (List.getElem?_eq_some_iff.1 hi).1]; exact hi) (by rw [List.getElem?_append_left (List.getElem?_eq_some_iff.1 hj).1]; exact hj) hne⟩
theorem Stars.base_mono {B B' : PH} (h : Stars H (baseO B' :: L)) (x : Ext B B') : Stars H (baseO B :: L) := by
  have key : ∀ c, (baseO B).foot c → (baseO B').foot c := fun c hc => by
    obtain ⟨o, ho⟩ := some_of hc
    show B' c ≠ none
    rw [x c o ho]; simp
  refine ⟨fun i A hi => ?_, fun i j A C hi hj hne => ?_⟩
  · cases i with
    | zero => simp at hi; subst hi; exact x.trans h.base
    | succ i => exact h.all (i + 1) A (by simpa using hi)
  · cases i with
    | zero =>
      simp at hi; subst hi
      cases j with
      | zero => exact absurd rfl hne
      | succ j => exact fun c hc => h.dj 0 (j + 1) (baseO B') C rfl (by simpa using hj) (by omega) c (key c hc)
    | succ i =>
      cases j with
      | zero => simp at hj; subst hj; exact fun c hc hf => h.dj (i + 1) 0 A (baseO B') (by simpa using hi) rfl (by omega) c hc (key c hf)
      | succ j => exact h.dj (i + 1) (j + 1) A C (by simpa using hi) (by simpa using hj) hne
open Classical in
/-- The last one is not turned any more: it becomes a part of the base. -/
theorem Stars.freeze {B : PH} (h : Stars H (baseO B :: L ++ [O])) : ∃ B', Ext B B' ∧ O.pred B' ∧ Stars H (baseO B' :: L) := by
  have hb : Ext B H := h.all 0 _ rfl
  have hO : O.pred H := h.all (L.length + 1) O (by simp)
  refine ⟨fun c => if B c ≠ none ∨ O.foot c then H c else none, fun c o hc => ?_, O.agree hO fun c o hc ho => ?_, ?_⟩
  · show (if B c ≠ none ∨ O.foot c then H c else none) = some o
    rw [if_pos (.inl (by rw [hc]; simp))]; exact hb c o hc
  · show (if B c ≠ none ∨ O.foot c then H c else none) = some o
    rw [if_pos (.inr hc)]; exact ho
  · have hi := h.init
    have fo : ∀ c, (baseO fun c => if B c ≠ none ∨ O.foot c then H c else none).foot c → (baseO B).foot c ∨ O.foot c := fun c hc => by
      by_cases e : B c ≠ none ∨ O.foot c
      · exact e
      · exact absurd (if_neg e) hc
    have key : ∀ (j : Nat) (A : Ob), L[j]? = some A → Dj (baseO fun c => if B c ≠ none ∨ O.foot c then H c else none) A := fun j A hj c hc hf => by
      have hj1 : (baseO B :: L ++ [O])[j + 1]? = some A := by
        have := (List.getElem?_eq_some_iff.1 hj).1
        simp [List.getElem?_append_left this, hj]
      rcases fo c hc with h1 | h1
      · exact h.dj 0 (j + 1) _ _ rfl hj1 (by omega) c h1 hf
      · have := (List.getElem?_eq_some_iff.1 hj).1
        exact h.dj (L.length + 1) (j + 1) O A (by simp) hj1 (by omega) c h1 hf
    refine ⟨fun i A hi' => ?_, fun i j A C hi' hj hne => ?_⟩
    · cases i with
      | zero =>
        simp at hi'; subst hi'
        intro c o hc
        replace hc : (if B c ≠ none ∨ O.foot c then H c else none) = some o := hc
        by_cases e : B c ≠ none ∨ O.foot c
        · rw [if_pos e] at hc; exact hc
        · rw [if_neg e] at hc; cases hc
      | succ i => exact hi.all (i + 1) A (by simpa using hi')
    · cases i with
      | zero =>
        simp at hi'; subst hi'
        cases j with
        | zero => exact absurd rfl hne
        | succ j => exact key j C (by simpa using hj)
      | succ i =>
        cases j with
        | zero => simp at hj; subst hj; exact (key i A (by simpa using hi')).symm
        | succ j => exact hi.dj (i + 1) (j + 1) A C (by simpa using hi') (by simpa using hj) hne

/-! ### Operations -/
theorem S_row {cs : List Value} {e : TypeId} {K : Addr → PH → Prop} (h : Stars H L) (hK : ∀ a H', Stars H' (L ++ [rowO a cs]) → Ext H H' → K a H') : mNew H (row cs e) K :=
  new_row fun a H' x r f => hK a H' (h.new (O' := rowO a cs) x r fun c hc => by rw [show c = a.block from hc]; exact f) x
theorem S_st {a : Addr} {cs : List Value} {j : Nat} {v : Value} {K : PH → Prop} (h : Stars H L) (i : Nat) (hi : L[i]? = some (rowO a cs)) (hj : j < cs.length) (hv : cellV v = true) (hK : ∀ H', Stars H' (L.set i (rowO a (cs.set j v))) → K H') : mSt H (a.add j) [v] K :=
  st_cell (h.get i hi) hj hv fun H' r k => hK H' (h.turn (O' := rowO a (cs.set j v)) i hi r (fun c hc => .inl hc) fun c o hc hn => k c o hc hn)
theorem S_st1 {a : Addr} {v0 v : Value} {K : PH → Prop} (h : Stars H L) (i : Nat) (hi : L[i]? = some (rowO a [v0])) (hv : cellV v = true) (hK : ∀ H', Stars H' (L.set i (rowO a [v])) → K H') : mSt H a [v] K :=
  st_row (h.get i hi) rfl (by simp [hv]) fun H' r k => hK H' (h.turn (O' := rowO a [v]) i hi r (fun c hc => .inl hc) fun c o hc hn => k c o hc hn)
theorem S_ld1 {α : Type} {enc : α → Value} {a : Addr} {x : α} {K : α → Prop} (h : Stars H L) (i : Nat) (hi : L[i]? = some (rowO a [enc x])) (hK : K x) : mLd enc H a K := by
  have := (h.get i hi)
  have h2 : cellAt H (a.add 0) = some (enc x) := this.cell rfl
  rw [add_zero'] at h2
  exact ⟨x, h2, hK⟩
theorem S_ld {α : Type} {enc : α → Value} {a : Addr} {cs : List Value} {j : Nat} {x : α} {K : α → Prop} (h : Stars H L) (i : Nat) (hi : L[i]? = some (rowO a cs)) (hj : cs[j]? = some (enc x)) (hK : K x) : mLd enc H (a.add j) K := ld_row (h.get i hi) hj hK
variable {α : Type} {enc : α → Value}
theorem S_mk {e m : Nat} {x : α} {n : Int} {K : Sl → PH → Prop} (h : Stars H L) (h0 : 0 ≤ n) (hm : (m : Int) * n ≤ 2 ^ 48)
    (hK : ∀ r H', Stars H' (L ++ [vecO enc r (List.replicate n.toNat x)]) → Ext H H' → K r H') : mMk H e m [enc x] n n K :=
  mk_vec h0 hm fun r H' x' o v => hK r H' (h.new (O' := vecO enc r (List.replicate n.toNat x)) x' v o) x'
theorem S_put {s : Sl} {l : List α} {j : Int} {x : α} {K : PH → Prop} (h : Stars H L) (i : Nat) (hi : L[i]? = some (vecO enc s l)) (h0 : 0 ≤ j) (h1 : j < l.length) (hc : cellV (enc x) = true)
    (hK : ∀ H', Stars H' (L.set i (vecO enc s (l.set j.toNat x))) → K H') : mIdx s 1 j fun a => mSt H a [enc x] K :=
  put_vec (h.get i hi) h0 h1 hc fun H' v k => hK H' (h.turn (O' := vecO enc s (l.set j.toNat x)) i hi v (fun c hc => .inl hc) fun c o hc hn => k c o hc hn)
theorem S_app {e m : Nat} {zs : List Value} {s x : Sl} {l ys : List α} {K : Sl → PH → Prop} (h : Stars H L) (i : Nat) (hi : L[i]? = some (vecO enc s l)) (hx : ListAt enc H x ys) (hc : ∀ y, cellV (enc y) = true) (hz : zs.length = 1)
    (hb : (4 * (l.length + ys.length) + 4096) * m ≤ 2 ^ 48) (hK : ∀ r H', Stars H' (L.set i (vecO enc r (l ++ ys))) → K r H') : mApp H e 1 m zs s x K :=
  app_vec (h.get i hi) hx hc hz hb fun r H' v k n => hK r H' (h.turn (O' := vecO enc r (l ++ ys)) i hi v n fun c o hc hn => k c o hc hn)
/-- A nil slice is a vector, too. -/
theorem Stars.nilv (h : Stars H L) : Stars H (L ++ [vecO enc Sl.nil ([] : List α)]) := h.new (O' := vecO enc Sl.nil ([] : List α)) (.refl H) (.inl ⟨rfl, rfl⟩) fun c hc => absurd hc nilHas
theorem Stars.list {s : Sl} {l : List α} (h : Stars H L) (i : Nat) (hi : L[i]? = some (vecO enc s l)) : ListAt enc H s l := Vec.list (h.get i hi)
/-- What a call that turns nothing of H has made. -/
theorem Stars.over {N : List Ob} (h : Stars H L) (k : Stars H' (baseO H :: N)) : Stars H' (L ++ N) := by
  have x : Ext H H' := k.base
  have key : ∀ (i j : Nat) (A B : Ob), L[i]? = some A → N[j]? = some B → Dj A B := fun i j A B hi hj c hc hf =>
    k.dj 0 (j + 1) (baseO H) B rfl (by simpa using hj) (by omega) c (A.alloc (h.all i A hi) hc) hf
  have cases_ : ∀ (j : Nat) (A : Ob), (L ++ N)[j]? = some A → (j < L.length ∧ L[j]? = some A) ∨ (L.length ≤ j ∧ N[j - L.length]? = some A) := fun j A hj => by
    by_cases e : j < L.length
    · rw [List.getElem?_append_left e] at hj; exact .inl ⟨e, hj⟩
    · rw [List.getElem?_append_right (by omega)] at hj; exact .inr ⟨by omega, hj⟩
  refine ⟨fun j A hj => ?_, fun i j A B hi hj hne => ?_⟩
  · rcases cases_ j A hj with ⟨_, hj⟩ | ⟨_, hj⟩
    · exact A.agree (h.all j A hj) fun c o _ hc => x c o hc
    · exact k.all (j - L.length + 1) A (by simpa using hj)
  · rcases cases_ i A hi with ⟨e1, hi⟩ | ⟨e1, hi⟩ <;> rcases cases_ j B hj with ⟨e2, hj⟩ | ⟨e2, hj⟩
    · exact h.dj i j A B hi hj hne
    · exact key i _ A B hi hj
    · exact (key j _ B A hj hi).symm
    · exact k.dj (i - L.length + 1) (j - L.length + 1) A B (by simpa using hi) (by simpa using hj) (by omega)
theorem Stars.fresh (h : Stars H' (baseO H :: L)) (i : Nat) (hi : L[i]? = some O) : ∀ c, O.foot c → H c = none := fun c hc => by
  have := h.dj 0 (i + 1) (baseO H) O rfl (by simpa using hi) (by omega) c
  cases hn : H c with
  | none => rfl
  | some o => exact absurd hc (this (show H c ≠ none by rw [hn]; simp))
/-- The loop variable's cell, and such: what it says is read. -/
theorem Stars.cell1 {a : Addr} {v : Value} (h : Stars H L) (i : Nat) (hi : L[i]? = some (rowO a [v])) : cellAt H a = some v := by
  have h2 : cellAt H (a.add 0) = some v := (h.get i hi : RowAt H a [v]).cell rfl
  rwa [add_zero'] at h2
theorem S_new1 {x : α} {e : TypeId} {K : Sl → PH → Prop} (h : Stars H L) (hK : ∀ r H', Stars H' (L ++ [vecO enc r [x]]) → Ext H H' → K r H') : mNewS H (row [enc x] e) 1 K := by
  intro r H' hn
  exact hK r H' (h.new (O' := vecO enc r [x]) (.newS hn) (Vec.ofNew (l := [x]) (e := e) hn) (Own0.ofNew hn)) (.newS hn)
/-- Many things, apart, as one. -/
def allO (N : List Ob) : Ob := ⟨fun H => Stars H N, fun c => ∃ (i : Nat) (O : Ob), N[i]? = some O ∧ O.foot c,
  fun h x => ⟨fun i O hi => O.agree (h.all i O hi) fun c o hc => x c o ⟨i, O, hi, hc⟩, h.dj⟩, fun h ⟨i, O, hi, hc⟩ => O.alloc (h.all i O hi) hc⟩
theorem Stars.bundle {N : List Ob} (h : Stars H (L ++ N)) : Stars H (L ++ [allO N]) := by
  have hN : ∀ (i : Nat) (O : Ob), N[i]? = some O → (L ++ N)[L.length + i]? = some O := fun i O hi => by rw [List.getElem?_append_right (by omega), Nat.add_sub_cancel_left]; exact hi
  have hL : ∀ (i : Nat) (O : Ob), L[i]? = some O → (L ++ N)[i]? = some O := fun i O hi => by rw [List.getElem?_append_left (List.getElem?_eq_some_iff.1 hi).1]; exact hi
  have pN : Stars H N := ⟨fun i O hi => h.all _ O (hN i O hi), fun i j A B hi hj hne => h.dj _ _ A B (hN i A hi) (hN j B hj) (by omega)⟩
  have cases_ : ∀ (j : Nat) (A : Ob), (L ++ [allO N])[j]? = some A → (j = L.length ∧ A = allO N) ∨ (j < L.length ∧ L[j]? = some A) := fun j A hj => by
    by_cases e : j < L.length
    · rw [List.getElem?_append_left e] at hj; exact .inr ⟨e, hj⟩
    · rw [List.getElem?_append_right (by omega)] at hj
      have := (List.getElem?_eq_some_iff.1 hj).1
      simp at this
      have e0 : j - L.length = 0 := by omega
      rw [e0] at hj; simp at hj
      exact .inl ⟨by omega, hj.symm⟩
  have key : ∀ (j : Nat) (A : Ob), j < L.length → L[j]? = some A → Dj A (allO N) := fun j A hlt hj c hc ⟨i, O, hi, ho⟩ => h.dj j (L.length + i) A O (hL j A hj) (hN i O hi) (by omega) c hc ho
  refine ⟨fun j A hj => ?_, fun j k A B hj hk hne => ?_⟩
  · rcases cases_ j A hj with ⟨rfl, rfl⟩ | ⟨e, hj⟩
    · exact pN
    · exact h.all j A (hL j A hj)
  · rcases cases_ j A hj with ⟨e, ea⟩ | ⟨e, hj1⟩ <;> rcases cases_ k B hk with ⟨e2, eb⟩ | ⟨e2, hk1⟩
    · exact absurd (e.trans e2.symm) hne
    · rw [ea]; exact (key k B e2 hk1).symm
    · rw [eb]; exact key j A e hj1
    · exact h.dj j k A B (hL j A hj1) (hL k B hk1) hne
theorem S_copy {s x : Sl} {l ys : List α} {K : Int → PH → Prop} (h : Stars H L) (i : Nat) (hi : L[i]? = some (vecO enc s l)) (hx : ListAt enc H x ys) (hc : ∀ y, cellV (enc y) = true)
    (hK : ∀ r H', Stars H' (L.set i (vecO enc s (ys.take l.length ++ l.drop ys.length))) → K r H') : mCopy H 1 s x K :=
  copy_vec (h.get i hi) hx hc fun H' v k => hK _ H' (h.turn (O' := vecO enc s (ys.take l.length ++ l.drop ys.length)) i hi v (fun c hc => .inl hc) fun c o hc hn => k c o hc hn)
end
end Go.Kx

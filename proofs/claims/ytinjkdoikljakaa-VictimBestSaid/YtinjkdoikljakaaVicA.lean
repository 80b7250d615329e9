/- turned from UsgA by usgv.py. -/
import Derived.Test.YtinjkdoikljakaaVicG
import Derived.Test.YtinjkdoikljakaaKxNu
set_option linter.unusedVariables false
set_option linter.unusedSimpArgs false
namespace Go.Proofs.Ytinjkdoikljakaa
open Go Go.Kx

abbrev Use := Int × Int
def encU (u : Use) : List Value := [.int .i64 u.1, .int .i64 u.2]
theorem lenU (u : Use) : (encU u).length = 2 := rfl
theorem cvU (u : Use) : (encU u).all cellV = true := rfl
theorem cvI (x : Int) : cellV (Value.int .i64 x) = true := rfl
theorem wrap_succ {k : Nat} (h : k < 2 ^ 60) : IntKind.wrap .i64 ((k : Int) + 1) = ((k + 1 : Nat) : Int) := by rw [wrap64_id (by omega) (by omega)]; push_cast; rfl
theorem set_same {α : Type} {L : List α} {i : Nat} {O : α} (h : L[i]? = some O) : L.set i O = L := by
  apply List.ext_getElem?
  intro j
  by_cases e : i = j
  · subst e; rw [List.getElem?_set_self (List.getElem?_eq_some_iff.1 h).1, h]
  · rw [List.getElem?_set_ne e]

/-! ### In plain numbers -/
def inR {α : Type} (l : List α) (k : Int) : Bool := decide (0 ≤ k) && decide (k < l.length)
theorem inR_iff {α : Type} {l : List α} {k : Int} : inR l k = true ↔ 0 ≤ k ∧ k < l.length := by simp [inR]
theorem inR_no {α : Type} {l : List α} {k : Int} : inR l k = false ↔ ¬ (0 ≤ k ∧ k < l.length) := by rw [← inR_iff]; simp
def getZ {α : Type} (d : α) (l : List α) (k : Int) : α := if 0 ≤ k then l.getD k.toNat d else d
theorem getZ_in {α : Type} {d : α} {l : List α} {k : Int} {x : α} (h0 : 0 ≤ k) (hx : l[k.toNat]? = some x) : getZ d l k = x := by simp [getZ, h0, List.getD, hx]
theorem getZ_out {α : Type} {d : α} {l : List α} {k : Int} (h : ¬ (0 ≤ k ∧ k < l.length)) : getZ d l k = d := by
  unfold getZ
  split
  · rw [List.getD, List.getElem?_eq_none (by omega)]; rfl
  · rfl
theorem get_in {α : Type} {d : α} {l : List α} {k : Int} (h0 : 0 ≤ k) (h1 : k < l.length) : l[k.toNat]? = some (getZ d l k) := by
  have hlt : k.toNat < l.length := by omega
  rw [getZ_in h0 (List.getElem?_eq_getElem hlt)]; simp [hlt]
/-- A state is set. -/
def setS (l : List Use) (k : Int) (st : Int) : List Use := l.set k.toNat (st, (getZ (0, 0) l k).2)
def setT (l : List Use) (k : Int) (stamp : Int) : List Use := l.set k.toNat ((getZ (0, 0) l k).1, stamp)
theorem setS_len (l : List Use) (k st : Int) : (setS l k st).length = l.length := by simp [setS]
theorem setT_len (l : List Use) (k st : Int) : (setT l k st).length = l.length := by simp [setT]
def grabOk (l : List Use) (k : Int) : Bool := inR l k && (getZ (0, 0) l k).1 == 0
def grabL (l : List Use) (k : Int) : List Use := if grabOk l k then setS l k 1 else l
def grabV (l : List Use) (v : List Int) (k : Int) : List Int := if grabOk l k then v.set k.toNat 0 else v
def sealL (l : List Use) (k : Int) : List Use := if inR l k && (getZ (0, 0) l k).1 == 1 then setS l k 2 else l
def touchL (l : List Use) (k stamp : Int) : List Use := if inR l k && (decide (0 ≤ stamp) && decide (stamp ≤ 2147483647)) then setT l k stamp else l
def addX (x b : Int) : Int := if 2147483647 - x < b then 2147483647 else max (x + b) 0
def addV (c : Cfg) (v : List Int) (at' b : Int) : List Int := if base c ≤ at' ∧ at' < all c then v.set ((at' - base c) / c.2.2).toNat (addX (getZ 0 v ((at' - base c) / c.2.2)) b) else v
def idleAt (l : List Use) (v : List Int) (k : Nat) : Bool := (l.getD k (0, 0)).1 == 2 && v.getD k 0 == 0
def relTo (l : List Use) (v : List Int) : Nat → List Use
  | 0 => l
  | k + 1 => if idleAt l v k then (relTo l v k).set k (0, (l.getD k (0, 0)).2) else relTo l v k
def relL (l : List Use) (v : List Int) : List Use := relTo l v l.length
def outTo (l : List Use) (v : List Int) (k : Nat) : List Int := (List.range k).filterMap fun (i : Nat) => if idleAt l v i then some (i : Int) else none
def outL (l : List Use) (v : List Int) : List Int := outTo l v l.length
theorem relTo_len (l : List Use) (v : List Int) : ∀ k, (relTo l v k).length = l.length
  | 0 => rfl
  | k + 1 => by unfold relTo; split <;> simp [relTo_len l v k]
theorem relTo_get (l : List Use) (v : List Int) : ∀ (k i : Nat), (relTo l v k)[i]? = if i < k ∧ idleAt l v i = true then (l[i]?).map (fun u => (0, u.2)) else l[i]?
  | 0, i => by simp [relTo]
  | k + 1, i => by
    unfold relTo
    by_cases hi : idleAt l v k = true
    · rw [if_pos hi]
      by_cases e : k = i
      · subst e
        by_cases hl : k < l.length
        · rw [List.getElem?_set_self (by rw [relTo_len]; exact hl), if_pos ⟨by omega, hi⟩, List.getElem?_eq_getElem hl]; simp [List.getD, hl]
        · rw [List.getElem?_eq_none (by rw [List.length_set, relTo_len]; omega), List.getElem?_eq_none (by omega)]; simp
      · rw [List.getElem?_set_ne e, relTo_get l v k i]
        by_cases h : i < k
        · simp [h, show i < k + 1 by omega]
        · simp [h, show ¬ i < k + 1 by omega]
    · rw [if_neg hi, relTo_get l v k i]
      by_cases e : k = i
      · subst e
        rw [if_neg (by omega), if_neg (by simp [hi])]
      · by_cases h : i < k
        · simp [h, show i < k + 1 by omega]
        · simp [h, show ¬ i < k + 1 by omega]
theorem outTo_none {l : List Use} {v : List Int} {k : Nat} (h : idleAt l v k = false) : outTo l v (k + 1) = outTo l v k := by simp only [outTo, List.range_succ, List.filterMap_append, List.filterMap_cons, h]; simp
theorem outTo_some {l : List Use} {v : List Int} {k : Nat} (h : idleAt l v k = true) : outTo l v (k + 1) = outTo l v k ++ [(k : Int)] := by simp only [outTo, List.range_succ, List.filterMap_append, List.filterMap_cons, h]; simp
theorem outTo_len (l : List Use) (v : List Int) : ∀ k, (outTo l v k).length ≤ k
  | 0 => by simp [outTo]
  | k + 1 => by
    have := outTo_len l v k
    cases h : idleAt l v k with
    | false => rw [outTo_none h]; omega
    | true => rw [outTo_some h, List.length_append, List.length_singleton]; omega
def freeN (l : List Use) : Nat := l.countP fun u => u.1 == 0
def sealTo (l : List Use) (k : Nat) : List Int := (List.range k).filterMap fun (i : Nat) => if (l.getD i (0, 0)).1 == 2 then some (i : Int) else none
def sealI (l : List Use) : List Int := sealTo l l.length
theorem sealTo_none {l : List Use} {k : Nat} (h : ((l.getD k (0, 0)).1 == 2) = false) : sealTo l (k + 1) = sealTo l k := by simp only [sealTo, List.range_succ, List.filterMap_append, List.filterMap_cons, h]; simp
theorem sealTo_some {l : List Use} {k : Nat} (h : ((l.getD k (0, 0)).1 == 2) = true) : sealTo l (k + 1) = sealTo l k ++ [(k : Int)] := by simp only [sealTo, List.range_succ, List.filterMap_append, List.filterMap_cons, h]; simp
theorem sealTo_len (l : List Use) : ∀ k, (sealTo l k).length ≤ k
  | 0 => by simp [sealTo]
  | k + 1 => by
    have := sealTo_len l k
    cases h : (l.getD k (0, 0)).1 == 2 with
    | false => rw [sealTo_none h]; omega
    | true => rw [sealTo_some h, List.length_append, List.length_singleton]; omega
theorem sealTo_pre (l : List Use) (k : Nat) : ∀ e, ∃ r, sealTo l (k + e) = sealTo l k ++ r
  | 0 => ⟨[], by simp⟩
  | e + 1 => by
    obtain ⟨r, hr⟩ := sealTo_pre l k e
    cases h : (l.getD (k + e) (0, 0)).1 == 2 with
    | false => exact ⟨r, by rw [← Nat.add_assoc, sealTo_none h, hr]⟩
    | true => exact ⟨r ++ [_], by rw [← Nat.add_assoc, sealTo_some h, hr, List.append_assoc]⟩
/-- The first Free one. -/
def firstF (l : List Use) : Int := if l.findIdx (fun u => u.1 == 0) < l.length then (l.findIdx (fun u => u.1 == 0) : Int) else -1
def takeAt (l : List Use) (spare : Bool) : Int := if !spare && decide (freeN l ≤ 2) then -1 else firstF l

abbrev tabRow (p : Option Addr) (s t : Sl) : List Value := [.pointer p, Sl.v s, Sl.v t]
section
variable {H : PH} {L : List Ob} {a : Addr} {p : Option Addr} {s t : Sl} {l : List Use} {v : List Int} {i j : Nat}
theorem ldU {x : Use} {b : Addr} {K : Use → Prop} (hc : cellsAt H b 2 = some (encU x)) (hK : K x) : mLdR (fun (x : (Int × Int)) => [.int .i64 x.1, .int .i64 x.2]) H b 2 K := ⟨x, hc, hK⟩
theorem ld0 {x : Use} {b : Addr} {K : Int → Prop} (hc : cellsAt H b 2 = some (encU x)) (hK : K x.1) : mLd (.int .i64) H (b.add 0) K := ⟨x.1, cells_at hc rfl, hK⟩
theorem ld1 {x : Use} {b : Addr} {K : Int → Prop} (hc : cellsAt H b 2 = some (encU x)) (hK : K x.2) : mLd (.int .i64) H (b.add 1) K := ⟨x.2, cells_at hc rfl, hK⟩
theorem tab_has {k : Int} {Q : Bool → PH → Prop} (r : RowAt H a (tabRow p s t)) (hl : (s.len : Int) = l.length) (hQ : Q (inR l k) H) : usage_Table_has (some a) k H Q := by
  refine mJoin_intro (mIf_pos rfl (mJoin_intro (mIf_intro (fun c => nil_some (ld_row (x := s) r rfl ?_)) (fun c => ?_))))
  · rw [hl]; rw [inR, c] at hQ; exact hQ
  · rw [inR, c] at hQ; exact hQ
theorem state_spec {k : Int} {Q : Int → PH → Prop} (r : RowAt H a (tabRow p s t)) (hs : ListN encU 2 H s l) (hQ : Q (getZ (0, 0) l k).1 H) : usage_Table_State (some a) k H Q := by
  refine tab_has r hs.lenI (mIf_intro (fun c => ?_) (fun c => ?_))
  · rw [getZ_out (inR_no.1 (by simpa using c))] at hQ; exact hQ
  · obtain ⟨h0, h1⟩ := inR_iff.1 (by simpa using c)
    refine nil_some (ld_row (x := s) r rfl (idxL hs h0 h1 fun b x hx hc => ld0 hc ?_))
    rw [getZ_in h0 hx] at hQ; exact hQ
theorem stamp_spec {k : Int} {Q : Int → PH → Prop} (r : RowAt H a (tabRow p s t)) (hs : ListN encU 2 H s l) (hQ : Q (getZ (0, 0) l k).2 H) : usage_Table_Stamp (some a) k H Q := by
  refine tab_has r hs.lenI (mIf_intro (fun c => ?_) (fun c => ?_))
  · rw [getZ_out (inR_no.1 (by simpa using c))] at hQ; exact hQ
  · obtain ⟨h0, h1⟩ := inR_iff.1 (by simpa using c)
    refine nil_some (ld_row (x := s) r rfl (idxL hs h0 h1 fun b x hx hc => ld1 hc ?_))
    rw [getZ_in h0 hx] at hQ; exact hQ
theorem live_spec {k : Int} {Q : Int → PH → Prop} (r : RowAt H a (tabRow p s t)) (hl : (s.len : Int) = l.length) (ht : Ints H t v) (hv : v.length = l.length) (hQ : Q (getZ 0 v k) H) : usage_Table_Live (some a) k H Q := by
  refine tab_has r hl (mIf_intro (fun c => ?_) (fun c => ?_))
  · rw [getZ_out (by rw [hv]; exact inR_no.1 (by simpa using c))] at hQ; exact hQ
  · obtain ⟨h0, h1⟩ := inR_iff.1 (by simpa using c)
    refine nil_some (ld_row (x := t) r rfl (idx_ld ht h0 (by omega) fun x hx => ?_))
    rw [getZ_in h0 hx] at hQ; exact hQ
theorem free_spec {Q : Int → PH → Prop} (r : RowAt H a (tabRow p s t)) (hs : ListN encU 2 H s l) (hn : l.length < 2 ^ 40) (hQ : ∀ H', Ext H H' → Q (freeN l) H') : usage_Table_Free (some a) H Q := by
  refine mIf_neg rfl (nil_some (ld_row (x := s) r rfl ?_))
  refine mLoop_count l.length (fun k st Hk => st = ((((l.take k).countP (fun u => u.1 == 0) : Nat) : Int), (k : Int)) ∧ Ext H Hk) ⟨by simp, .refl H⟩ ?_
  rintro k st H1 again hk ⟨rfl, x1⟩ hag
  rw [hs.lenI]
  refine mIf_intro (fun c => ?_) (fun c => ?_)
  · have hkl : k < l.length := by simpa using c
    refine mJoin_intro (idxL (hs.ext x1) (by simp) (by simpa using hkl) fun b x hx hc => ldU hc (new_row fun a2 H2 x2 r2 f2 => st_row (vs := encU x) r2 rfl rfl fun H3 r3 k3 => ld_row (x := x.1) r3 rfl ?_))
    rw [Int.toNat_natCast] at hx
    have hle : ((l.take k).countP fun u => u.1 == 0) ≤ k := Nat.le_trans List.countP_le_length (by rw [List.length_take]; omega)
    have e : (l.take (k + 1)).countP (fun u => u.1 == 0) = (l.take k).countP (fun u => u.1 == 0) + if x.1 == 0 then 1 else 0 := by rw [List.take_add_one, hx]; simp [List.countP_append, List.countP_cons]
    have x3 : Ext H H3 := x1.trans (x2.keepB k3 f2)
    rw [wrap_succ (k := k) (by omega)]
    refine mIf_intro (fun c1 => ?_) (fun c1 => ?_)
    · rw [wrap_succ (by omega)]
      refine hag hkl _ _ ⟨?_, x3⟩
      rw [e, c1]; rfl
    · refine hag hkl _ _ ⟨?_, x3⟩
      rw [e, c1]; rfl
  · have : k = l.length := by simp at c; omega
    subst this
    rw [List.take_length]
    exact hQ H1 x1
theorem grab_spec {k : Int} {Q : Bool → PH → Prop} (h : Stars H L) (r : RowAt H a (tabRow p s t)) (i j : Nat) (hi : L[i]? = some (vecNO encU 2 s l)) (hj : L[j]? = some (vecO (Value.int .i64) t v)) (hij : i ≠ j) (hv : v.length = l.length)
    (hQ : ∀ H', Stars H' ((L.set i (vecNO encU 2 s (grabL l k))).set j (vecO (Value.int .i64) t (grabV l v k))) → Q (grabOk l k) H') : usage_Table_Grab (some a) k H Q := by
  have hs : VecN encU 2 H s l := h.get i hi
  have stay : grabOk l k = false → Q false H := fun e => by
    have := hQ H
    rw [grabL, grabV, e] at this
    simp only [Bool.false_eq_true, if_false] at this
    rw [set_same hi, set_same hj] at this
    exact this h
  refine tab_has r hs.lenI (mJoin_intro (mIf_intro (fun c => mIf_pos rfl (stay ?_)) (fun c => ?_)))
  · rw [grabOk]; simp at c; rw [c]; rfl
  · have c' : inR l k = true := by simpa using c
    obtain ⟨h0, h1⟩ := inR_iff.1 c'
    refine nil_some (ld_row (x := s) r rfl (idxN hs h0 h1 fun b x el => ⟨x.1, el.cell lenU rfl, mIf_intro (fun c1 => stay ?_) (fun c1 => ?_)⟩))
    · rw [grabOk, c', getZ_in h0 el.get]; simpa using c1
    · have e : grabOk l k = true := by rw [grabOk, c', getZ_in h0 el.get]; simpa using c1
      rw [grabL, grabV, e] at hQ
      simp only [if_true] at hQ
      refine nil_some (ld_row (x := s) r rfl (nil_some (ld_row (x := t) r rfl (idxN hs h0 h1 fun b x el => S_stF lenU (1, x.2) h i hi el (by decide) rfl rfl fun H1 h1' => ?_))))
      refine S_put (enc := Value.int .i64) (x := 0) h1' j (by rw [List.getElem?_set_ne hij]; exact hj) h0 (by omega) rfl fun H2 h2 => hQ H2 ?_
      rw [setS, getZ_in h0 el.get]
      exact h2
theorem seal_spec {k : Int} {Q : PH → Prop} (h : Stars H L) (r : RowAt H a (tabRow p s t)) (i : Nat) (hi : L[i]? = some (vecNO encU 2 s l)) (hQ : ∀ H', Stars H' (L.set i (vecNO encU 2 s (sealL l k))) → Q H') : usage_Table_Seal (some a) k H Q := by
  have hs : VecN encU 2 H s l := h.get i hi
  have stay : (inR l k && (getZ (0, 0) l k).1 == 1) = false → Q H := fun e => by
    have := hQ H
    rw [sealL, e] at this
    simp only [Bool.false_eq_true, if_false] at this
    rw [set_same hi] at this
    exact this h
  refine tab_has r hs.lenI (mJoin_intro (mIf_intro (fun c => ?_) (fun c => mIf_neg rfl (stay (by rw [c]; rfl)))))
  obtain ⟨h0, h1⟩ := inR_iff.1 c
  refine nil_some (ld_row (x := s) r rfl (idxN hs h0 h1 fun b x el => ⟨x.1, el.cell lenU rfl, mIf_intro (fun c1 => ?_) (fun c1 => stay ?_)⟩))
  · rw [sealL, c, getZ_in h0 el.get, c1] at hQ
    refine nil_some (ld_row (x := s) r rfl (idxN hs h0 h1 fun b2 y el2 => S_stF lenU (2, y.2) h i hi el2 (by decide) rfl rfl fun H1 h1' => hQ H1 ?_))
    simp only [Bool.and_self, if_true]
    rw [setS, getZ_in h0 el2.get]
    exact h1'
  · rw [c, getZ_in h0 el.get, c1]; rfl
theorem touch_spec {k st : Int} {Q : PH → Prop} (h : Stars H L) (r : RowAt H a (tabRow p s t)) (i : Nat) (hi : L[i]? = some (vecNO encU 2 s l)) (hQ : ∀ H', Stars H' (L.set i (vecNO encU 2 s (touchL l k st))) → Q H') : usage_Table_Touch (some a) k st H Q := by
  have hs : VecN encU 2 H s l := h.get i hi
  have stay : (inR l k && (decide (0 ≤ st) && decide (st ≤ 2147483647))) = false → Q H := fun e => by
    have := hQ H
    rw [touchL, e] at this
    simp only [Bool.false_eq_true, if_false] at this
    rw [set_same hi] at this
    exact this h
  refine tab_has r hs.lenI (mJoin_intro (mIf_intro (fun c => mJoin_intro (mIf_intro (fun c1 => mIf_intro (fun c2 => ?_) (fun c2 => stay (by rw [c, c1, c2]; rfl))) (fun c1 => mIf_neg rfl (stay (by rw [c, c1]; rfl))))) (fun c => mJoin_intro (mIf_neg rfl (mIf_neg rfl (stay (by rw [c]; rfl)))))))
  obtain ⟨h0, h1⟩ := inR_iff.1 c
  rw [touchL, c, c1, c2] at hQ
  refine nil_some (ld_row (x := s) r rfl (idxN hs h0 h1 fun b2 y el2 => S_stF lenU (y.1, st) h i hi el2 (by decide) rfl rfl fun H1 h1' => hQ H1 ?_))
  simp only [Bool.and_self, if_true]
  rw [setT, getZ_in h0 el2.get]
  exact h1'
theorem addX_le {x b : Int} (h : 0 ≤ x) : 0 ≤ addX x b ∧ addX x b ≤ 2147483647 := by unfold addX; split <;> omega
theorem seg_in {c : Cfg} (hc : CfgOk c) {at' : Int} (h : base c ≤ at' ∧ at' < all c) : 0 ≤ (at' - base c) / c.2.2 ∧ (at' - base c) / c.2.2 < c.2.1 := by
  have h5 := hc.2.2.2.2.1
  refine ⟨Int.ediv_nonneg (by omega) (by omega), ?_⟩
  have hall : all c = base c + c.2.1 * c.2.2 := rfl
  exact Int.ediv_lt_of_lt_mul (by omega) (by omega)
theorem tadd_spec {c : Cfg} {at' b : Int} {Q : Bool → PH → Prop} (h : Stars H L) (r : RowAt H a (tabRow p s t)) (hg : Gm H p c) (hc : CfgOk c) (j : Nat) (hj : L[j]? = some (vecO (Value.int .i64) t v)) (hvl : (v.length : Int) = c.2.1) (hvr : ∀ x, x ∈ v → 0 ≤ x ∧ x ≤ 2147483647) (hb : -9223372036854775808 ≤ b)
    (hQ : ∀ H', Stars H' (L.set j (vecO (Value.int .i64) t (addV c v at' b))) → Q (decide (base c ≤ at' ∧ at' < all c)) H') : usage_Table_Add (some a) at' b H Q := by
  refine mIf_neg rfl (nil_some (ld_row (x := p) r rfl (where_spec hg hc fun H1 x1 => ?_)))
  have h1 := h.ext x1
  have r1 := r.ext x1
  by_cases hin : base c ≤ at' ∧ at' < all c
  · rw [if_pos hin]
    obtain ⟨s0, s1⟩ := seg_in hc hin
    generalize hsg : (at' - base c) / c.2.2 = sg at s0 s1
    have hlt : sg < v.length := by omega
    refine mJoin_intro (mIf_neg rfl (nil_some (ld_row (x := t) r1 rfl (idx_ld (h1.list j hj) s0 hlt fun x hx => ?_))))
    obtain ⟨x0, x9⟩ := hvr x (List.mem_of_getElem? hx)
    rw [wrap64_id (x := 2147483647 - x) (by omega) (by omega)]
    have eV : addV c v at' b = v.set sg.toNat (addX x b) := by rw [addV, if_pos hin, hsg, getZ_in s0 hx]
    rw [eV, decide_eq_true hin] at hQ
    refine mIf_intro (fun c1 => ?_) (fun c1 => ?_)
    · have c1' : 2147483647 - x < b := by simpa using c1
      have eX : addX x b = 2147483647 := by rw [addX, if_pos c1']
      rw [eX] at hQ
      exact nil_some (ld_row (x := t) r1 rfl (S_put (enc := Value.int .i64) h1 j hj s0 hlt rfl hQ))
    · have c1' : ¬ 2147483647 - x < b := by simpa using c1
      have eX : addX x b = if x + b < 0 then 0 else x + b := by rw [addX, if_neg c1']; split <;> omega
      rw [eX] at hQ
      refine nil_some (ld_row (x := t) r1 rfl (nil_some (ld_row (x := t) r1 rfl (idx_ld (h1.list j hj) s0 hlt fun y hy => ?_))))
      rw [hx] at hy; cases hy
      rw [wrap64_id (by omega) (by omega)]
      exact S_put (enc := Value.int .i64) h1 j hj s0 hlt rfl hQ
  · rw [if_neg hin]
    have := hQ H1
    rw [addV, if_neg hin, decide_eq_false hin, set_same hj] at this
    exact mJoin_intro (mIf_pos rfl (this h1))
end
end Go.Proofs.Ytinjkdoikljakaa

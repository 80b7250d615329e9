/- THE DOCUMENT's WINDOW; THE LAW WindowPlays, on formulas. -/
import Derived.Test.YtegnpplffhkjhaaWinC
import Derived.Test.YtegnpplffhkjhaaKxIn
set_option linter.unusedVariables false
set_option linter.unusedSimpArgs false
namespace Go.Proofs.Ytegnpplffhkjhaa
open Go Go.Kx

theorem mJoin_cut {σ : Type} {k : σ → PH → Prop} {body : (σ → PH → Prop) → Prop} (C : σ → PH → Prop) (h1 : ∀ s H, C s H → k s H) (h2 : ∀ k' : σ → PH → Prop, (∀ s H, C s H → k' s H) → body k') : mJoin k body := h2 k h1
theorem flat_part {α : Type} {enc : α → List Value} {sz : Nat} (hen : ∀ x, (enc x).length = sz) (l : List α) (spare : List Value) (lo k : Nat) (h : lo + k ≤ l.length) : ((l.flatMap enc ++ spare).drop (lo * sz)).take (k * sz) = ((l.drop lo).take k).flatMap enc := by
  have e1 : l = l.take lo ++ ((l.drop lo).take k ++ (l.drop lo).drop k) := by rw [List.take_append_drop, List.take_append_drop]
  have l1 : ((l.take lo).flatMap enc).length = lo * sz := by rw [flat_len hen, List.length_take, Nat.min_eq_left (by omega)]
  have l2 : (((l.drop lo).take k).flatMap enc).length = k * sz := by rw [flat_len hen, List.length_take, List.length_drop, Nat.min_eq_left (by omega)]
  conv => lhs; rw [e1]
  simp only [List.flatMap_append, List.append_assoc]
  rw [List.drop_append_of_le_length (by omega), List.drop_of_length_le (by omega), List.nil_append, List.take_append_of_le_length (by omega), List.take_of_length_le (by omega)]
theorem cutN {α : Type} {enc : α → List Value} {sz : Nat} {H : PH} {s : Sl} {l : List α} {lo hi : Int} {K : Sl → Prop} (hen : ∀ x, (enc x).length = sz) (h : VecN enc sz H s l) (h0 : 0 ≤ lo) (h1 : lo ≤ hi) (h2 : hi ≤ l.length)
    (hK : ∀ r, r.len = hi.toNat - lo.toNat → (∀ H', (∀ c o, s.has c → H c = some o → H' c = some o) → sliceCells H' r sz = some (((l.drop lo.toNat).take (hi.toNat - lo.toNat)).flatMap enc)) → K r) : mCut s sz lo hi K := by
  have hl := h.len
  have hb := h.bound
  refine ⟨_, ⟨h0, h1, by omega, hb, rfl⟩, hK _ rfl fun H' x => ?_⟩
  rcases h with ⟨rfl, rfl⟩ | ⟨b, sp, e, spare, rfl, hs, hbk⟩
  · simp at h2
    have e1 : lo.toNat = 0 := by omega
    have e2 : hi.toNat = 0 := by omega
    simp [Sl.cut, sliceCells, e1, e2]
  · have hbk' := x b _ ⟨_, rfl, rfl⟩ hbk
    simp only [Sl.cut, sliceCells]
    by_cases e : l.length + sp = lo.toNat
    · rw [if_pos e]
      have : hi.toNat - lo.toNat = 0 := by omega
      rw [this]; simp [cellsAt]
    · rw [if_neg e]
      show cellsAt H' (Addr.add ⟨b, 0, none⟩ (lo.toNat * sz)) ((hi.toNat - lo.toNat) * sz) = _
      rw [add_mk, Nat.zero_add]
      have hle : lo.toNat * sz + (hi.toNat - lo.toNat) * sz ≤ (l.flatMap enc ++ spare).length := by
        rw [← Nat.add_mul, List.length_append, flat_len hen]
        have : (lo.toNat + (hi.toNat - lo.toNat)) * sz ≤ l.length * sz := Nat.mul_le_mul_right _ (by omega)
        omega
      rw [cellsAt_of_row hbk' hle, flat_part hen _ _ _ _ (by omega)]
theorem vecN_new0 {α : Type} {enc : α → List Value} {sz : Nat} {H H' : PH} {s : Sl} {e : TypeId} (h : NewS H (row [] e) 0 0 s H') : VecN enc sz H' s [] := by
  obtain ⟨b, hb, rfl, rfl⟩ := h
  exact .inr ⟨b, 0, e, [], by simp, by simp, by simp⟩

/-! ### What lies in a window, rising -/
theorem itemsTo_mem {W : Win} {n v : Int} : ∀ k : Nat, W.next ≤ n → n < W.next + k → W.f n = some v → (n, v) ∈ itemsTo W k
  | 0, h1, h2, _ => by simp at h2; omega
  | k + 1, h1, h2, hf => by
    by_cases e : n = W.next + k
    · subst e; rw [itemsTo_some hf]; simp
    · have := itemsTo_mem k h1 (by push_cast at h2; omega) hf
      cases h : W.f (W.next + k) with
      | none => rw [itemsTo_none h]; exact this
      | some x => rw [itemsTo_some h]; exact List.mem_append_left _ this
theorem items_mem {W : Win} (ok : WinOk W) (x : Int × Int) : x ∈ items W ↔ W.f x.1 = some x.2 := by
  refine ⟨fun h => ((items_sorted W W.size).1 x h).2.2, fun h => ?_⟩
  have h1 : ¬ (x.1 < W.next ∨ W.next + W.size ≤ x.1) := fun hn => by rw [ok.out _ hn] at h; cases h
  exact itemsTo_mem W.size (by omega) (by omega) h
theorem sorted_ext : ∀ {l m : List (Int × Int)}, l.Pairwise (fun x y => x.1 < y.1) → m.Pairwise (fun x y => x.1 < y.1) → (∀ x, x ∈ l ↔ x ∈ m) → l = m
  | [], [], _, _, _ => rfl
  | [], y :: m, _, _, h => by have := (h y).2 (by simp); cases this
  | x :: l, [], _, _, h => by have := (h x).1 (by simp); cases this
  | x :: l, y :: m, h1, h2, h => by
    rw [List.pairwise_cons] at h1 h2
    have exy : x = y := by
      rcases List.mem_cons.1 ((h x).1 (by simp)) with e | e
      · exact e
      · rcases List.mem_cons.1 ((h y).2 (by simp)) with e' | e'
        · exact e'.symm
        · have a := h2.1 x e; have b := h1.1 y e'; omega
    subst exy
    congr 1
    refine sorted_ext h1.2 h2.2 fun z => ⟨fun hz => ?_, fun hz => ?_⟩
    · rcases List.mem_cons.1 ((h z).1 (List.mem_cons_of_mem _ hz)) with e | e
      · subst e; have := h1.1 z hz; omega
      · exact e
    · rcases List.mem_cons.1 ((h z).2 (List.mem_cons_of_mem _ hz)) with e | e
      · subst e; have := h2.1 z hz; omega
      · exact e
/-- The place of a number in a rising list. -/
structure Place (l : List (Int × Int)) (n : Int) (i : Nat) : Prop where
  le : i ≤ l.length
  below : ∀ (j : Nat) x, j < i → l[j]? = some x → x.1 < n
  stop : ∀ x, l[i]? = some x → n ≤ x.1
theorem Place.is {W : Win} (ok : WinOk W) {n : Int} {i : Nat} (h : Place (items W) n i) : ((items W)[i]?.any fun x => x.1 == n) = (W.f n).isSome := by
  obtain ⟨_, hp⟩ := items_sorted W W.size
  cases hf : W.f n with
  | some v =>
    have hm : (n, v) ∈ items W := (items_mem ok (n, v)).2 hf
    obtain ⟨j, hj, hx⟩ := List.getElem_of_mem hm
    have hji : j = i := by
      rcases Nat.lt_trichotomy j i with hlt | he | hlt
      · have := h.below j (n, v) hlt (by simp [hx, hj]); simp at this
      · exact he
      · have h1 := h.stop ((items W)[i]'(by omega)) (by simp)
        have h2 := List.pairwise_iff_getElem.1 hp i j (by show i < (items W).length; omega) hj hlt
        have h3 : ((items W)[i]'(by omega)).1 < ((items W)[j]).1 := h2
        rw [hx] at h3; simp at h3; omega
    subst hji
    simp [hj, hx]
  | none =>
    cases hg : (items W)[i]? with
    | none => rfl
    | some x =>
      have hm := (items_mem ok x).1 (List.mem_of_getElem? hg)
      by_cases e : x.1 = n
      · rw [e, hf] at hm; cases hm
      · simp [e]
theorem items_put {W : Win} (ok : WinOk W) {n v : Int} {i : Nat} (h : Place (items W) n i) (e0 : W.putE n = 0) (ok2 : WinOk (W.put n v)) : items (W.put n v) = (items W).take i ++ [(n, v)] ++ (items W).drop i := by
  obtain ⟨_, hp⟩ := items_sorted W W.size
  obtain ⟨_, hp2⟩ := items_sorted (W.put n v) (W.put n v).size
  have hf0 : W.f n = none := by
    unfold Win.putE at e0
    split at e0
    · cases e0
    · split at e0
      · cases e0
      · split at e0
        · cases e0
        · rename_i h; simpa using h
  refine sorted_ext hp2 ?_ fun x => ?_
  · rw [List.append_assoc, List.pairwise_append]
    have hp' : ((items W).take i ++ (items W).drop i).Pairwise (fun x y => x.1 < y.1) := by rw [List.take_append_drop]; exact hp
    rw [List.pairwise_append] at hp'
    refine ⟨hp'.1, ?_, fun x hx y hy => ?_⟩
    · rw [List.singleton_append, List.pairwise_cons]
      refine ⟨fun y hy => ?_, hp'.2.1⟩
      obtain ⟨j, hj, rfl⟩ := List.getElem_of_mem hy
      have hlen : i + j < (items W).length := by simp at hj; omega
      have h0 : i < (items W).length := by omega
      have hs := h.stop (items W)[i] (by simp [h0])
      have hne : (items W)[i].1 ≠ n := fun e => by
        have := (items_mem ok (items W)[i]).1 (List.getElem_mem h0)
        rw [e, hf0] at this; cases this
      simp only [List.getElem_drop]
      rcases Nat.eq_zero_or_pos j with rfl | hj0
      · simp only [Nat.add_zero]; show n < (items W)[i].1; omega
      · have := List.pairwise_iff_getElem.1 hp i (i + j) (by show i < (items W).length; omega) hlen (by omega)
        have h3 : (items W)[i].1 < (items W)[i + j].1 := this
        show n < (items W)[i + j].1; omega
    · rcases List.mem_append.1 hy with hy | hy
      · rw [List.mem_singleton] at hy; subst hy
        obtain ⟨j, hj, rfl⟩ := List.getElem_of_mem hx
        have hji : j < i := by simp at hj; omega
        have hjl : j < (items W).length := by simp at hj; omega
        have := h.below j (items W)[j] hji (by simp [hjl])
        simpa using this
      · exact hp'.2.2 x hx y hy
  · rw [items_mem ok2]
    have : (W.put n v).f x.1 = if x.1 = n then some v else W.f x.1 := by rw [Win.put, if_pos e0]
    rw [this]
    have hmem : (x ∈ (items W).take i ++ [(n, v)] ++ (items W).drop i) ↔ x ∈ items W ∨ x = (n, v) := by
      constructor
      · intro hx
        rcases List.mem_append.1 hx with hx | hx
        · rcases List.mem_append.1 hx with hx | hx
          · exact .inl (List.mem_of_mem_take hx)
          · exact .inr (by simpa using hx)
        · exact .inl (List.mem_of_mem_drop hx)
      · rintro (hx | rfl)
        · rw [← List.take_append_drop i (items W)] at hx
          rcases List.mem_append.1 hx with hx | hx
          · exact List.mem_append_left _ (List.mem_append_left _ hx)
          · exact List.mem_append_right _ hx
        · simp
    rw [hmem, items_mem ok]
    by_cases e : x.1 = n
    · rw [if_pos e, e, hf0]
      constructor
      · intro h; cases h; exact .inr (by rw [← e])
      · rintro (h | h)
        · cases h
        · rw [h]
    · rw [if_neg e]
      exact ⟨.inl, fun h => h.elim id fun h => absurd (by rw [h]) e⟩
theorem items_head {W : Win} (ok : WinOk W) {v : Int} (hf : W.f W.next = some v) : ∃ r, items W = (W.next, v) :: r ∧ items W.cut = r := by
  obtain ⟨hb, hp⟩ := items_sorted W W.size
  have hm : (W.next, v) ∈ items W := (items_mem ok (W.next, v)).2 hf
  cases hi : items W with
  | nil => rw [hi] at hm; cases hm
  | cons x r =>
    have hp' : (x :: r).Pairwise (fun x y => x.1 < y.1) := by rw [← hi]; exact hp
    have hx : x = (W.next, v) := by
      rw [hi] at hm
      rcases List.mem_cons.1 hm with e | e
      · exact e.symm
      · have h1 := (List.pairwise_cons.1 hp').1 _ e
        have h2 := (hb x (by show x ∈ items W; rw [hi]; simp)).1
        have h1' : x.1 < W.next := h1
        omega
    subst hx
    refine ⟨r, rfl, ?_⟩
    have ok2 := ok.cut
    refine sorted_ext (items_sorted W.cut W.cut.size).2 (List.pairwise_cons.1 hp').2 fun y => ?_
    rw [items_mem ok2]
    show (if y.1 = W.next then none else W.f y.1) = some y.2 ↔ y ∈ r
    by_cases e : y.1 = W.next
    · rw [if_pos e]
      refine ⟨fun h => (by cases h), fun h => ?_⟩
      have := (List.pairwise_cons.1 hp').1 _ h
      have h' : W.next < y.1 := this
      omega
    · rw [if_neg e, ← items_mem ok, hi]
      refine ⟨fun h => ?_, fun h => List.mem_cons_of_mem _ h⟩
      rcases List.mem_cons.1 h with h | h
      · rw [h] at e; exact absurd rfl e
      · exact h
theorem items_pop {W : Win} (ok : WinOk W) (h : W.peekO = true) (ok2 : WinOk W.pop) : items W.pop = items W.cut := by
  have e : W.pop = { W.cut with next := W.next + 1 } := by rw [Win.pop, if_pos h]
  rw [e] at ok2 ⊢
  refine sorted_ext (items_sorted _ _).2 (items_sorted W.cut W.cut.size).2 fun y => ?_
  have h1 := items_mem ok2 y
  have h2 := items_mem ok.cut y
  exact h1.trans h2.symm

/-! ### The document's window -/
def encR (x : Int × Int) : List Value := [.int .i64 x.1, .int .i64 0, .int .i64 x.2, .int .i64 0, .int .i64 0, .slice none 0 0]
theorem lenR (x : Int × Int) : (encR x).length = 6 := rfl
theorem cvR (x : Int × Int) : (encR x).all cellV = true := rfl
structure RWAt (H : PH) (a : Addr) (s : Sl) (W : Win) : Prop where
  row : RowAt H a [.int .i64 W.size, .int .i64 W.next, Sl.v s]
  vec : VecN encR 6 H s (items W)
  ap : ¬ s.has a.block
theorem RWAt.agree {H H' : PH} {a : Addr} {s : Sl} {W : Win} (h : RWAt H a s W) (x : ∀ c o, c = a.block ∨ s.has c → H c = some o → H' c = some o) : RWAt H' a s W :=
  ⟨h.row.agree fun c o hc => x c o (.inl hc), h.vec.agree fun c o hc => x c o (.inr hc), h.ap⟩
def rwO (a : Addr) (s : Sl) (W : Win) : Ob := ⟨fun H => RWAt H a s W, fun c => c = a.block ∨ s.has c, fun h x => h.agree x, fun h hc => by
  rcases hc with rfl | hc
  · obtain ⟨e, he⟩ := h.row.2.2; rw [he]; simp
  · exact ne_none (h.vec.has_some hc)⟩
section
variable {H : PH} {L : List Ob} {i : Nat} {a : Addr} {s : Sl} {W : Win}
theorem place_spec {n : Int} {Q : Int → Bool → PH → Prop} (w : RWAt H a s W) (ok : WinOk W) (hQ : ∀ j : Nat, Place (items W) n j → Q j (W.f n).isSome H) : keelsonref22_Window_place (some a) n H Q := by
  have hle := itemsTo_len W W.size
  have h16 := ok.le
  have hl16 : (items W).length ≤ 16 := by rw [items]; omega
  refine mLoop_count (items W).length (fun k st Hk => st = (k : Int) ∧ Hk = H ∧ ∀ (j : Nat) x, j < k → (items W)[j]? = some x → x.1 < n) ⟨rfl, rfl, fun j x h => by omega⟩ ?_
  rintro k st H1 again hk ⟨rfl, rfl, hb⟩ hag
  refine nil_some (ld_row (x := s) w.row rfl (mJoin_intro ?_))
  rw [w.vec.lenI]
  have out : (∀ x, (items W)[k]? = some x → n ≤ x.1) → mNil (some a) fun a15 => mLd Sl.v H1 (a15.add 2) fun x17 => mJoin (fun (s20 : Bool) (H22 : PH) => Q (k : Int) s20 H22) fun j21 => mIf (decide ((k : Int) < (x17.len : Int))) (mNil (some a) fun a24 => mLd Sl.v H1 (a24.add 2) fun x26 => mIdx x26 6 (k : Int) fun a28 => mLd (.int .i64) H1 (a28.add 0) fun x30 => j21 (x30 == n) H1) (j21 false H1) := by
    intro hs
    have hP : Place (items W) n k := ⟨hk, hb, hs⟩
    have his := hP.is ok
    have q := hQ k hP
    rw [← his] at q
    refine nil_some (ld_row (x := s) w.row rfl (mJoin_intro ?_))
    rw [w.vec.lenI]
    refine mIf_intro (fun c => ?_) (fun c => ?_)
    · have hkl : k < (items W).length := by simpa using c
      refine nil_some (ld_row (x := s) w.row rfl (idxN w.vec (by omega) (by omega) fun a1 x el => ⟨x.1, el.cell lenR rfl, ?_⟩))
      have hg := el.get
      rw [Int.toNat_natCast] at hg
      rw [hg] at q; exact q
    · have hkl : (items W)[k]? = none := by simp at c; simp; omega
      rw [hkl] at q; exact q
  refine mIf_intro (fun c => ?_) (fun c => mIf_neg rfl (out fun x hx => ?_))
  · have hkl : k < (items W).length := by simpa using c
    refine nil_some (ld_row (x := s) w.row rfl (idxN w.vec (by omega) (by omega) fun a1 x el => ⟨x.1, el.cell lenR rfl, ?_⟩))
    have hg := el.get
    rw [Int.toNat_natCast] at hg
    refine mIf_intro (fun c2 => ?_) (fun c2 => out fun y hy => ?_)
    · have c2' : x.1 < n := by simpa using c2
      rw [wrap_succ (by omega)]
      refine hag hkl _ _ ⟨rfl, rfl, fun j y hj hy => ?_⟩
      by_cases e : j = k
      · subst e; rw [hg] at hy; cases hy; exact c2'
      · exact hb j y (by omega) hy
    · rw [hg] at hy; cases hy; simpa using c2
  · have : k < (items W).length := (List.getElem?_eq_some_iff.1 hx).1
    simp at c; omega

theorem RW_turn {s' : Sl} {W' : Win} {H' : PH} (h : Stars H L) (hi : L[i]? = some (rwO a s W)) (d : RWAt H' a s' W') (f : ∀ c, s'.has c → s.has c ∨ H c = none) (b : ∀ c o, H c = some o → c ≠ a.block → ¬ s.has c → H' c = some o) : Stars H' (L.set i (rwO a s' W')) :=
  h.turn (O' := rwO a s' W') i hi d (fun c hc => by
    rcases hc with hc | hc
    · exact .inl (.inl hc)
    · exact (f c hc).imp .inr id) fun c o hc hn => b c o hc (fun e => hn (.inl e)) fun hh => hn (.inr hh)

theorem rput_spec {n v : Int} {Q : Int → PH → Prop} (h : Stars H L) (hi : L[i]? = some (rwO a s W)) (ok : WinOk W) (ok2 : WinOk (W.put n v)) (hn63 : n < 2 ^ 63) (hQ : ∀ s' H', Stars H' (L.set i (rwO a s' (W.put n v))) → Q (W.putE n) H') : keelsonref22_Window_Put (some a) n (0, v, 0, 0, Sl.nil) H Q := by
  have hlt := (List.getElem?_eq_some_iff.1 hi).1
  have hn1 := ok.n1; have hn2 := ok.n2; have hle := ok.le
  have hil := itemsTo_len W W.size
  have hl16 : (items W).length ≤ 16 := by rw [items]; omega
  refine S_row h fun a1 H1 h1 x1 => ?_
  have hi1 : (L ++ [rowO a1 [.int .i64 0, .int .i64 v, .int .i64 0, .int .i64 0, Sl.v Sl.nil]])[i]? = some (rwO a s W) := by rw [List.getElem?_append_left hlt]; exact hi
  have w1 : RWAt H1 a s W := h1.get i hi1
  have stay : ∀ e, W.putE n = e → e ≠ 0 → Q e H1 := fun e he hne => by
    have : W.put n v = W := by rw [Win.put, if_neg (by rw [he]; exact hne)]
    have hq := hQ s H1 (by rw [this, set_same hi]; exact h.ext x1)
    rw [he] at hq; exact hq
  refine place_spec w1 ok fun j hP => nil_some (ld_row (x := W.next) w1.row rfl (mJoin_intro ?_))
  have main : ∀ b : Bool, (b = true → W.putE n = 9) → (b = false → ¬ n < W.next ∧ W.f n = none) → mIf b (Q 9 H1) (mNil (some a) fun a17 => mLd (.int .i64) H1 (a17.add 1) fun x19 => mNil (some a) fun a21 => mLd (.int .i64) H1 (a21.add 0) fun x23 => mIf (decide (x23 ≤ (IntKind.wrap .i64 (n - x19)))) (Q 10 H1)
      (mNewS H1 (row [] 68) 0 fun r26 H27 => mNil (some a) fun a29 => mLd Sl.v H27 (a29.add 2) fun x31 => mCut x31 6 0 (j : Int) fun r34 => mApp H27 68 6 64 [.int .i64 0, .int .i64 0, .int .i64 0, .int .i64 0, .int .i64 0, .slice none 0 0] r26 r34 fun r35 H36 =>
        mLdR (fun (x : (Int × Int × Int × Int × Sl)) => [.int .i64 x.1, .int .i64 x.2.1, .int .i64 x.2.2.1, .int .i64 x.2.2.2.1, Sl.v x.2.2.2.2]) H36 a1 5 fun x37 => mNewS H36 (row [.int .i64 n, .int .i64 x37.1, .int .i64 x37.2.1, .int .i64 x37.2.2.1, .int .i64 x37.2.2.2.1, Sl.v x37.2.2.2.2] 68) 1 fun r39 H40 =>
        mApp H40 68 6 64 [.int .i64 0, .int .i64 0, .int .i64 0, .int .i64 0, .int .i64 0, .slice none 0 0] r35 r39 fun r42 H43 => mNil (some a) fun a44 => mLd Sl.v H43 (a44.add 2) fun x46 => mCut x46 6 (j : Int) (x46.len : Int) fun r49 => mApp H43 68 6 64 [.int .i64 0, .int .i64 0, .int .i64 0, .int .i64 0, .int .i64 0, .slice none 0 0] r42 r49 fun r50 H51 =>
        mNil (some a) fun a52 => mSt H51 (a52.add 2) ([Sl.v r50]) fun H54 => Q 0 H54)) := by
    intro b hb1 hb2
    refine mIf_intro (fun c => stay 9 (hb1 c) (by decide)) (fun c => ?_)
    obtain ⟨c1, c3⟩ := hb2 c
    refine nil_some (ld_row (x := W.next) w1.row rfl (nil_some (ld_row (x := (W.size : Int)) w1.row rfl ?_)))
    rw [wrap64_id (by omega) (by omega)]
    refine mIf_intro (fun c2 => stay 10 ?_ (by decide)) (fun c2 => ?_)
    · have : W.next + W.size ≤ n := by simp at c2; omega
      simp [Win.putE, c1, this]
    have c2' : ¬ W.next + W.size ≤ n := by simp at c2; omega
    have e0 : W.putE n = 0 := by simp [Win.putE, c1, c2', c3]
    rw [e0] at hQ
    have hj := hP.le
    intro r26 H2 hn2'
    have x2 := Ext.newS hn2'
    have v2 : VecN encR 6 H2 r26 [] := vecN_new0 hn2'
    have h2 := h1.new (O' := vecNO encR 6 r26 []) x2 v2 (Own0.ofNew hn2')
    have w2 : RWAt H2 a s W := w1.agree fun c o _ ho => x2 c o ho
    have O1 := Own0.ofNew hn2'
    refine nil_some (ld_row (x := s) w2.row rfl (cutN lenR w2.vec (by decide) (by omega) (by omega) fun r34 hl34 hc34 => ?_))
    simp only [Int.toNat_natCast, Int.toNat_zero, List.drop_zero, Nat.sub_zero] at hc34 hl34
    refine appN lenR (by decide) v2 (hc34 H2 fun c o _ ho => ho) (by rw [hl34]; simp; omega) cvR rfl (by simp; omega) fun r35 H3 v3 k3 n3 => ?_
    have x13 : Ext H1 H3 := x2.keep k3 O1
    have O3 : Own0 H1 r35 := fun c hc => (n3 c hc).elim (fun hh => O1 c hh) fun hh => x2.none hh
    have row3 : RowAt H3 a1 [.int .i64 0, .int .i64 v, .int .i64 0, .int .i64 0, Sl.v Sl.nil] := (h1.get L.length List.getElem?_concat_length : RowAt H1 a1 _).ext x13
    refine ⟨(0, v, 0, 0, Sl.nil), row3.all rfl, fun r39 H4 hn4 => ?_⟩
    have x4 := Ext.newS hn4
    have v4 : VecN encR 6 H4 r39 [(n, v)] := VecN.ofNewL hn4 rfl rfl
    rw [List.nil_append] at v3
    have v34 := v3.ext x4
    refine appN lenR (by decide) v34 (v4.cells lenR (by decide)) v4.len cvR rfl (by simp; omega) fun r42 H5 v5 k5 n5 => ?_
    have x15 : Ext H1 H5 := fun c o hc => k5 c o (x4 c o (x13 c o hc)) fun hh => by rw [O3 c hh] at hc; cases hc
    have O5 : Own0 H1 r42 := fun c hc => (n5 c hc).elim (fun hh => O3 c hh) fun hh => x13.none (x4.none hh)
    have w5 : RWAt H5 a s W := w1.agree fun c o _ ho => x15 c o ho
    refine nil_some (ld_row (x := s) w5.row rfl ?_)
    rw [w5.vec.lenI]
    refine cutN lenR w5.vec (by omega) (by omega) (by omega) fun r49 hl49 hc49 => ?_
    simp only [Int.toNat_natCast] at hc49 hl49
    have et : ((items W).drop j).take ((items W).length - j) = (items W).drop j := List.take_of_length_le (by simp)
    rw [et] at hc49
    refine appN lenR (by decide) v5 (hc49 H5 fun c o _ ho => ho) (by rw [hl49]; simp) cvR rfl (by simp; omega) fun r50 H6 v6 k6 n6 => ?_
    have x16 : Ext H1 H6 := fun c o hc => k6 c o (x15 c o hc) fun hh => by rw [O5 c hh] at hc; cases hc
    have O6 : Own0 H1 r50 := fun c hc => (n6 c hc).elim (fun hh => O5 c hh) fun hh => x15.none hh
    have w6 : RWAt H6 a s W := w1.agree fun c o _ ho => x16 c o ho
    refine nil_some (st_cell w6.row (by simp) rfl fun H7 r7 k7 => ?_)
    have ea : ¬ r50.has a.block := fun hh => by
      have := O6 _ hh
      obtain ⟨e, he⟩ := w1.row.2.2; rw [he] at this; cases this
    have eit : items (W.put n v) = (items W).take j ++ [(n, v)] ++ (items W).drop j := items_put ok hP e0 ok2
    have esz : (W.put n v).size = W.size := by rw [Win.put]; split <;> rfl
    have enx : (W.put n v).next = W.next := by rw [Win.put]; split <;> rfl
    have hfin := RW_turn (i := i) (s' := r50) (W' := W.put n v) (H' := H7) h1 hi1 ⟨by rw [esz, enx]; exact r7, by rw [eit]; exact v6.agree fun c o hc ho => k7 c o ho fun e => ea (e ▸ hc), ea⟩ (fun c hc => .inr (O6 c hc)) fun c o hc h1' _ => k7 c o (x16 c o hc) h1'
    rw [List.set_append_left _ _ hlt] at hfin
    exact hQ r50 H7 hfin.init
  refine mIf_intro (fun c => main true (fun _ => ?_) (fun h => by cases h)) (fun c => main _ (fun hs => ?_) (fun hs => ?_))
  · have : n < W.next := by simpa using c
    simp [Win.putE, this]
  · have c1 : ¬ n < W.next := by simpa using c
    by_cases c2 : W.next + W.size ≤ n
    · have := ok.out n (.inr c2)
      rw [this] at hs; cases hs
    · simp [Win.putE, c1, c2, hs]
  · exact ⟨by simpa using c, by simpa using hs⟩
end
end Go.Proofs.Ytegnpplffhkjhaa

/- WHAT THE FUNCTIONS OF window DO. -/
import Derived.Test.YtegnpplffhkjhaaFn
import Derived.Test.YtegnpplffhkjhaaKxStar
set_option linter.unusedVariables false
set_option linter.unusedSimpArgs false
namespace Go.Proofs.Ytegnpplffhkjhaa
open Go Go.Kx

def encS (x : Int × Bool) : List Value := [.int .i64 x.1, .bool x.2]
theorem lenS (x : Int × Bool) : (encS x).length = 2 := rfl
theorem cvS (x : Int × Bool) : (encS x).all cellV = true := rfl
structure Win where
  size : Nat
  next : Int
  f : Int → Option Int
def slotOf : Option Int → Int × Bool
  | none => (0, false)
  | some v => (v, true)
structure WinOk (W : Win) : Prop where
  pos : 0 < W.size
  le : W.size ≤ 16
  n1 : 1 ≤ W.next
  n2 : W.next < 2 ^ 40
  out : ∀ n, n < W.next ∨ W.next + W.size ≤ n → W.f n = none
def Holds (l : List (Int × Bool)) (W : Win) : Prop := l.length = W.size ∧ ∀ n, W.next ≤ n → n < W.next + W.size → l[(n % W.size).toNat]? = some (slotOf (W.f n))
structure WinAt (H : PH) (a : Addr) (s : Sl) (W : Win) : Prop where
  row : RowAt H a [Sl.v s, .int .i64 W.next]
  vec : ∃ l, VecN encS 2 H s l ∧ Holds l W
  ap : ¬ s.has a.block
  ok : WinOk W
theorem WinAt.agree {H H' : PH} {a : Addr} {s : Sl} {W : Win} (h : WinAt H a s W) (x : ∀ c o, c = a.block ∨ s.has c → H c = some o → H' c = some o) : WinAt H' a s W :=
  ⟨h.row.agree fun c o hc => x c o (.inl hc), let ⟨l, hl, hh⟩ := h.vec; ⟨l, hl.agree fun c o hc => x c o (.inr hc), hh⟩, h.ap, h.ok⟩
def winO (a : Addr) (s : Sl) (W : Win) : Ob := ⟨fun H => WinAt H a s W, fun c => c = a.block ∨ s.has c, fun h x => h.agree x, fun h hc => by
  rcases hc with rfl | hc
  · obtain ⟨e, he⟩ := h.row.2.2; rw [he]; simp
  · obtain ⟨l, hl, _⟩ := h.vec; exact ne_none (hl.has_some hc)⟩
theorem set_same {α : Type} {L : List α} {i : Nat} {O : α} (h : L[i]? = some O) : L.set i O = L := by
  apply List.ext_getElem?
  intro j
  by_cases e : i = j
  · subst e; rw [List.getElem?_set_self (List.getElem?_eq_some_iff.1 h).1, h]
  · rw [List.getElem?_set_ne e]

theorem modEq {size : Nat} {next n m : Int} (hp : 0 < size) (h1 : next ≤ n) (h2 : n < next + size) (h3 : next ≤ m) (h4 : m < next + size) (e : (n % size).toNat = (m % size).toNat) : n = m := by
  have a := Int.emod_nonneg n (show (size : Int) ≠ 0 by omega)
  have b := Int.emod_nonneg m (show (size : Int) ≠ 0 by omega)
  have e' : n % size = m % size := by omega
  have := Int.emod_emod_of_dvd (n - m) (Int.dvd_refl (size : Int))
  have hd : (size : Int) ∣ n - m := Int.dvd_of_emod_eq_zero (by rw [Int.sub_emod, e', Int.sub_self]; rfl)
  obtain ⟨k, hk⟩ := hd
  have hk0 : k = 0 := by
    rcases Int.lt_trichotomy k 0 with h | h | h
    · have : (size : Int) * k ≤ size * (-1) := Int.mul_le_mul_of_nonneg_left (by omega) (by omega)
      omega
    · exact h
    · have : (size : Int) * 1 ≤ size * k := Int.mul_le_mul_of_nonneg_left (by omega) (by omega)
      omega
  rw [hk0] at hk; omega
theorem modLt {size : Nat} (n : Int) (hp : 0 < size) : (n % size).toNat < size := by
  have a := Int.emod_nonneg n (show (size : Int) ≠ 0 by omega)
  have b := Int.emod_lt_of_pos n (show (0 : Int) < size by omega)
  omega
/-- One number's slot is written. -/
theorem Holds.set {l : List (Int × Bool)} {W : Win} (h : Holds l W) (hp : 0 < W.size) {n : Int} (h1 : W.next ≤ n) (h2 : n < W.next + W.size) (o : Option Int) : Holds (l.set (n % W.size).toNat (slotOf o)) { W with f := fun k => if k = n then o else W.f k } := by
  refine ⟨by simpa using h.1, fun m h3 h4 => ?_⟩
  by_cases e : m = n
  · subst e
    rw [List.getElem?_set_self (by rw [h.1]; exact modLt _ hp)]; simp
  · have : (n % W.size).toNat ≠ (m % W.size).toNat := fun h' => e (modEq hp h1 h2 h3 h4 h').symm
    show (l.set (n % W.size).toNat (slotOf o))[(m % (W.size : Int)).toNat]? = _
    rw [List.getElem?_set_ne this, h.2 m h3 h4]; simp [e]

section
variable {H : PH} {L : List Ob} {i : Nat} {a : Addr} {s : Sl} {W : Win}
theorem none_spec {Q : Bool → PH → Prop} (h : WinAt H a s W) (hQ : Q false H) : window_Window_int_none (some a) H Q := by
  obtain ⟨l, hv, hl, _⟩ := h.vec
  refine mJoin_intro (mIf_neg rfl (nil_some (ld_row (x := s) h.row rfl ?_)))
  have : ((s.len : Int) == 0) = false := by rw [hv.lenI, hl]; have := h.ok.pos; simp; omega
  rw [this]; exact hQ
theorem at_spec {n : Int} {Q : Option Addr → PH → Prop} (h : WinAt H a s W) (h1 : W.next ≤ n) (h2 : n < W.next + W.size) (hQ : ∀ l a', Holds l W → Elem encS 2 H s l (n % W.size).toNat (slotOf (W.f n)) a' → Q (some a') H) : window_Window_int_at (some a) n H Q := by
  obtain ⟨l, hv, hl, hh⟩ := h.vec
  have hp := h.ok.pos
  have hn1 := h.ok.n1
  refine nil_some (ld_row (x := s) h.row rfl (nil_some (ld_row (x := s) h.row rfl ⟨by rw [hv.lenI, hl]; omega, ?_⟩)))
  rw [hv.lenI, hl, Int.tmod_eq_emod_of_nonneg (by omega)]
  have a0 := Int.emod_nonneg n (show (W.size : Int) ≠ 0 by omega)
  have b0 := Int.emod_lt_of_pos n (show (0 : Int) < W.size by omega)
  refine idxN hv a0 (by omega) fun a' x el => ?_
  have hx := el.get
  rw [hh n h1 h2] at hx
  cases hx
  exact hQ l a' ⟨hl, hh⟩ el

def Win.putE (W : Win) (n : Int) : Int := if n < W.next then 9 else if W.next + W.size ≤ n then 10 else if (W.f n).isSome then 9 else 0
def Win.put (W : Win) (n v : Int) : Win := if W.putE n = 0 then { W with f := fun k => if k = n then some v else W.f k } else W
theorem slot_turn {l : List (Int × Bool)} {H' : PH} {W' : Win} (h : Stars H L) (hi : L[i]? = some (winO a s W)) (hv : VecN encS 2 H' s l) (hh : Holds l W') (hn : W'.next = W.next) (ho : WinOk W') (k : Keep s H H') : Stars H' (L.set i (winO a s W')) := by
  have w : WinAt H a s W := h.get i hi
  refine h.turn (O' := winO a s W') i hi ⟨?_, ⟨l, hv, hh⟩, w.ap, ho⟩ (fun c hc => .inl hc) (fun c o hc hn => k c o hc fun hh => hn (.inr hh))
  rw [hn]
  exact w.row.agree fun c o hc ho => k c o ho fun hh => w.ap (hc ▸ hh)
theorem put_spec {n v : Int} {Q : Int → PH → Prop} (h : Stars H L) (hi : L[i]? = some (winO a s W)) (hQ : ∀ H', Stars H' (L.set i (winO a s (W.put n v))) → Q (W.putE n) H') : window_Window_int_Put (some a) n v H Q := by
  have w : WinAt H a s W := h.get i hi
  have hok := w.ok
  have := hok.n1; have := hok.n2; have := hok.le; have := hok.pos
  obtain ⟨l, hv, hl, hh⟩ := w.vec
  have stay : ∀ e, W.putE n = e → e ≠ 0 → Q e H := fun e he hne => by
    have : W.put n v = W := by rw [Win.put, if_neg (by rw [he]; exact hne)]
    have hq := hQ H (by rw [this, set_same hi]; exact h)
    rw [he] at hq; exact hq
  refine none_spec w (mIf_neg rfl (nil_some (ld_row (x := W.next) w.row rfl (mIf_intro (fun c => ?_) (fun c => ?_)))))
  · exact stay 9 (by simp at c; simp [Win.putE, c]) (by decide)
  have c1 : ¬ n < W.next := by simpa using c
  refine nil_some (ld_row (x := W.next) w.row rfl (nil_some (ld_row (x := s) w.row rfl ?_)))
  rw [hv.lenI, hl, wrap64_id (by omega) (by omega)]
  refine mIf_intro (fun c => ?_) (fun c => ?_)
  · exact stay 10 (by simp at c; simp [Win.putE, c, c1]) (by decide)
  have c2 : ¬ W.next + W.size ≤ n := by simpa using c
  refine at_spec w (by omega) (by omega) fun l2 a2 hh2 el => nil_some ⟨_, el.cell lenS rfl, ?_⟩
  refine mIf_intro (fun c => ?_) (fun c => ?_)
  · have : (W.f n).isSome = true := by
      cases hf : W.f n with
      | none => rw [hf] at c; cases c
      | some x => rfl
    exact stay 9 (by simp [Win.putE, c1, c2, this]) (by decide)
  have c3 : W.f n = none := by
    cases hf : W.f n with
    | none => rfl
    | some x => rw [hf] at c; cases c
  refine at_spec w (by omega) (by omega) fun l3 a3 hh3 el3 => nil_some (stN (y := (v, true)) lenS el3 (cvS _) fun H' v' k' => ?_)
  have e0 : W.putE n = 0 := by simp [Win.putE, c1, c2, c3]
  rw [e0] at hQ
  refine hQ H' ?_
  rw [Win.put, if_pos e0]
  have hs := hh3.set hok.pos (n := n) (by omega) (by omega) (some v)
  refine slot_turn h hi v' hs rfl ⟨hok.pos, hok.le, hok.n1, hok.n2, fun m hm => ?_⟩ k'
  have hm' : m < W.next ∨ W.next + W.size ≤ m := hm
  have : m ≠ n := fun e => by subst e; omega
  show (if m = n then some v else W.f m) = none
  rw [if_neg this]; exact hok.out m hm
def Win.peekV (W : Win) : Int := (slotOf (W.f W.next)).1
def Win.peekO (W : Win) : Bool := (slotOf (W.f W.next)).2
theorem peek_spec {Q : Int → Bool → PH → Prop} (w : WinAt H a s W) (hQ : Q W.peekV W.peekO H) : window_Window_int_Peek (some a) H Q := by
  have := w.ok.pos
  refine none_spec w (mIf_neg rfl (nil_some (ld_row (x := W.next) w.row rfl (at_spec w (by omega) (by omega) fun l a' hh el => nil_some ?_))))
  have e1 : mLd (.int .i64) H (a'.add 0) fun x12 => mNil (some a') fun a14 => mLd .bool H (a14.add 1) fun x16 => Q x12 x16 H := ⟨_, el.cell lenS rfl, nil_some ⟨_, el.cell lenS rfl, hQ⟩⟩
  exact e1
def Win.cut (W : Win) : Win := { W with f := fun k => if k = W.next then none else W.f k }
theorem cut_none {W : Win} (h : W.peekO = false) : W.cut = W := by
  have : W.f W.next = none := by
    cases hf : W.f W.next with
    | none => rfl
    | some x => rw [Win.peekO, hf] at h; cases h
  unfold Win.cut
  obtain ⟨sz, nx, f⟩ := W
  simp only at this
  congr 1
  funext k
  split
  · rename_i e; rw [e]; exact this.symm
  · rfl
theorem WinOk.cut {W : Win} (h : WinOk W) : WinOk W.cut := ⟨h.pos, h.le, h.n1, h.n2, fun n hn => by
  show (if n = W.next then none else W.f n) = none
  split
  · rfl
  · exact h.out n hn⟩
theorem cut_spec {Q : Bool → PH → Prop} (h : Stars H L) (hi : L[i]? = some (winO a s W)) (hQ : ∀ H', Stars H' (L.set i (winO a s W.cut)) → Q W.peekO H') : window_Window_int_Cut (some a) H Q := by
  have w : WinAt H a s W := h.get i hi
  have := w.ok.pos
  refine peek_spec w (mJoin_intro (mIf_intro (fun c => ?_) (fun c => ?_)))
  · refine nil_some (ld_row (x := W.next) w.row rfl (at_spec w (by omega) (by omega) fun l a' hh el => nil_some (stN (y := (0, false)) lenS el (cvS _) fun H' v' k' => ?_)))
    exact hQ H' (slot_turn h hi v' (hh.set w.ok.pos (by omega) (by omega) none) rfl w.ok.cut k')
  · refine hQ H ?_
    rw [cut_none c, set_same hi]; exact h
def Win.pop (W : Win) : Win := if W.peekO then { W.cut with next := W.next + 1 } else W
theorem pop_spec {Q : Int → Bool → PH → Prop} (h : Stars H L) (hi : L[i]? = some (winO a s W)) (hb : W.next + 1 < 2 ^ 40) (hQ : ∀ H', Stars H' (L.set i (winO a s W.pop)) → Q W.peekV W.peekO H') : window_Window_int_Pop (some a) H Q := by
  have w : WinAt H a s W := h.get i hi
  refine peek_spec w (cut_spec h hi fun H1 h1 => mJoin_intro ?_)
  have hlt := (List.getElem?_eq_some_iff.1 hi).1
  have hi1 : (L.set i (winO a s W.cut))[i]? = some (winO a s W.cut) := List.getElem?_set_self hlt
  have w1 : WinAt H1 a s W.cut := h1.get i hi1
  refine mIf_intro (fun c => ?_) (fun c => ?_)
  · have := w.ok.n1
    refine nil_some (ld_row (x := W.next) w1.row rfl (nil_some (st_cell w1.row (by simp) rfl fun H2 r2 k2 => hQ H2 ?_)))
    rw [wrap64_id (by omega) (by omega)] at r2
    have e : W.pop = { W.cut with next := W.next + 1 } := by rw [Win.pop, if_pos c]
    rw [e]
    have := h1.turn (O' := winO a s { W.cut with next := W.next + 1 }) i hi1 (H' := H2) ⟨r2, ?_, w1.ap, ⟨w1.ok.pos, w1.ok.le, by show 1 ≤ W.next + 1; omega, hb, fun n hn => ?_⟩⟩ (fun c hc => .inl hc) (fun c o hc hn => k2 c o hc fun e => hn (.inl e))
    · rw [List.set_set] at this; exact this
    · obtain ⟨l, hv, hl, hh⟩ := w1.vec
      refine ⟨l, hv.agree fun c o hc ho => k2 c o ho fun e => w1.ap (e ▸ hc), hl, fun n h3 h4 => ?_⟩
      have h3' : W.next + 1 ≤ n := h3
      have h4' : n < W.next + 1 + W.size := h4
      by_cases hn : n < W.next + W.size
      · exact hh n (by show W.next ≤ n; omega) hn
      · have en : n = W.next + W.size := by omega
        have hp := w.ok.pos
        have e1 : (n % W.size).toNat = (W.next % W.size).toNat := by rw [en, Int.add_emod_right]
        show l[(n % W.size).toNat]? = _
        have h0 : W.cut.f n = W.cut.f W.next := by
          rw [w1.ok.out n (.inr (by rw [en]; exact Int.le_refl _))]
          show none = (if W.next = W.next then none else W.f W.next)
          simp
        rw [e1, h0]
        exact hh W.next (Int.le_refl _) (by show W.next < W.next + W.size; omega)
    · have hn' : n < W.next + 1 ∨ W.next + 1 + W.size ≤ n := hn
      show (if n = W.next then none else W.f n) = none
      by_cases e : n = W.next
      · rw [if_pos e]
      · rw [if_neg e]; exact w.ok.out n (by omega)
  · refine hQ H1 ?_
    have c' : W.peekO = false := c
    have : W.pop = W.cut := by rw [Win.pop, if_neg (by rw [c']; simp), cut_none c']
    rw [this]; exact h1
theorem next_spec {Q : Int → PH → Prop} (w : WinAt H a s W) (hQ : Q W.next H) : window_Window_int_Next (some a) H Q := mIf_neg rfl (nil_some (ld_row (x := W.next) w.row rfl hQ))
def newWin (size : Nat) (next : Int) : Win := ⟨size, next, fun _ => none⟩
theorem Holds.new (size : Nat) (next : Int) (hp : 0 < size) : Holds (List.replicate size (0, false)) (newWin size next) := ⟨by simp [newWin], fun n _ _ => by
  have := modLt n hp
  show (List.replicate size (0, false))[(n % (size : Int)).toNat]? = _
  rw [List.getElem?_replicate, if_pos this]; rfl⟩
theorem newOk {size : Nat} {next : Int} (hp : 0 < size) (h16 : size ≤ 16) (h1 : 1 ≤ next) (h2 : next ≤ 2147483647) : WinOk (newWin size next) := ⟨hp, h16, h1, by show next < 2 ^ 40; omega, fun _ _ => rfl⟩
theorem new_spec {size next : Int} {Q : Option Addr → PH → Prop} (hbad : ¬ (1 ≤ size ∧ size ≤ 16 ∧ 1 ≤ next ∧ next ≤ 2147483647) → Q none H) (hgood : 1 ≤ size ∧ size ≤ 16 ∧ 1 ≤ next ∧ next ≤ 2147483647 → ∀ a s H', Stars H' [baseO H, winO a s (newWin size.toNat next)] → Q (some a) H') : window_New_int size next H Q := by
  have fin : ∀ b : Bool, b = !decide (1 ≤ size ∧ size ≤ 16 ∧ 1 ≤ next ∧ next ≤ 2147483647) → mIf b (Q none H) (mMk H 60 16 [.int .i64 0, .bool false] size size fun r17 H18 => mNew H18 (row [Sl.v r17, .int .i64 next] 58) fun a21 H22 => Q (some a21) H22) := by
    intro b hb
    refine mIf_intro (fun c => hbad (by rw [hb] at c; simp at c; omega)) (fun c => ?_)
    have hg : 1 ≤ size ∧ size ≤ 16 ∧ 1 ≤ next ∧ next ≤ 2147483647 := by rw [hb] at c; simpa using c
    refine mkN (enc := encS) (sz := 2) (x := (0, false)) (by omega) (by omega) fun r H1 x1 o1 v1 => new_row fun a H2 x2 r2 f2 => ?_
    have na : ¬ r.has a.block := fun hc => by obtain ⟨o, ho⟩ := v1.has_some hc; rw [f2] at ho; cases ho
    refine hgood hg a r H2 ((Stars.start H).new (O' := winO a r (newWin size.toNat next)) (x1.trans x2) ⟨r2, ⟨_, v1.ext x2, Holds.new _ _ (by omega)⟩, na, newOk (by omega) (by omega) hg.2.2.1 hg.2.2.2⟩ fun c hc => ?_)
    rcases hc with rfl | hc
    · exact x1.none f2
    · exact o1 c hc
  refine mJoin_intro (mIf_intro (fun c => mJoin_intro (mIf_pos rfl (mJoin_intro (mIf_pos rfl (fin true ?_))))) (fun c => ?_))
  · simp at c; simp; omega
  · have c1 : ¬ size < 1 := by simpa using c
    refine mJoin_intro (mIf_intro (fun c => mJoin_intro (mIf_pos rfl (fin true ?_))) (fun c => ?_))
    · simp at c; simp; omega
    · have c2 : ¬ 16 < size := by simpa using c
      refine mJoin_intro (mIf_intro (fun c => fin true ?_) (fun c => fin _ ?_))
      · simp at c; simp; omega
      · have c3 : ¬ next < 1 := by simpa using c
        by_cases e : next ≤ 2147483647
        · have : ¬ 2147483647 < next := by omega
          simp [this, e]; omega
        · have : 2147483647 < next := by omega
          simp [this, e]
theorem reset_spec {n : Int} {Q : PH → Prop} (h : Stars H L) (hi : L[i]? = some (winO a s W)) (hQ : ∀ H', Stars H' (L.set i (winO a s (if 1 ≤ n ∧ n ≤ 2147483647 then newWin W.size n else W))) → Q H') : window_Window_int_Reset (some a) n H Q := by
  have w : WinAt H a s W := h.get i hi
  refine none_spec w ?_
  have fin : ∀ b : Bool, b = !decide (1 ≤ n ∧ n ≤ 2147483647) → mIf b (Q H) (mNil (some a) fun a14 => mLd Sl.v H (a14.add 0) fun x16 => mClear H 2 [.int .i64 0, .bool false] x16 fun H18 => mNil (some a) fun a19 => mSt H18 (a19.add 1) ([.int .i64 n]) fun H21 => Q H21) := by
    intro b hb
    refine mIf_intro (fun c => ?_) (fun c => ?_)
    · have hg : ¬ (1 ≤ n ∧ n ≤ 2147483647) := by rw [hb] at c; simp at c; omega
      have := hQ H (by rw [if_neg hg, set_same hi]; exact h)
      exact this
    · have hg : 1 ≤ n ∧ n ≤ 2147483647 := by rw [hb] at c; simpa using c
      refine nil_some (ld_row (x := s) w.row rfl ?_)
      obtain ⟨l, hv, hl, hh⟩ := w.vec
      have hp := w.ok.pos
      rcases hv with ⟨rfl, rfl⟩ | ⟨b0, sp, e, spare, rfl, hsp, hb0⟩
      · simp at hl; omega
      · refine .inr (.inr ⟨by show l.length ≠ 0; omega, b0, 0, _, e, rfl, hb0, ?_, ?_⟩)
        · simp only [Nat.zero_add, List.length_append, flat_len lenS]; omega
        · have ev : putAt (l.flatMap encS ++ spare) 0 (zeros l.length [.int .i64 0, .bool false]) = (List.replicate l.length ((0, false) : Int × Bool)).flatMap encS ++ spare := by
            rw [putAt_eq _ _ _ (by rw [zeros_length, List.length_append, flat_len lenS]; simp)]
            rw [show ([.int .i64 0, .bool false] : List Value) = encS (0, false) from rfl, mkN_list]
            simp only [List.take_zero, List.nil_append, Nat.zero_add, flat_len lenS, List.length_replicate]
            rw [List.drop_append, List.drop_of_length_le (by rw [flat_len lenS]; omega), List.nil_append, flat_len lenS, Nat.sub_self, List.drop_zero]
          have ne : a.block ≠ b0 := fun e => w.ap ⟨_, rfl, e.symm⟩
          have r1 : RowAt (H.upd b0 (row (putAt (l.flatMap encS ++ spare) 0 (zeros l.length [.int .i64 0, .bool false])) e)) a [Sl.v ⟨some ⟨b0, 0, none⟩, l.length, l.length + sp⟩, .int .i64 W.next] :=
            w.row.agree fun c o hc ho => by rw [PH.upd_other _ _ (by rw [hc]; exact ne)]; exact ho
          refine nil_some (st_cell r1 (by simp) rfl fun H2 r2 k2 => hQ H2 ?_)
          rw [if_pos hg]
          refine h.turn (O' := winO a _ (newWin W.size n)) i hi ⟨r2, ⟨List.replicate l.length (0, false), .inr ⟨b0, sp, e, spare, by simp, hsp, ?_⟩, by rw [hl]; exact Holds.new _ _ hp⟩, w.ap, newOk hp w.ok.le hg.1 hg.2⟩ (fun c hc => .inl hc) fun c o hc hn => ?_
          · rw [← ev]
            exact k2 b0 _ (PH.upd_same _ _ _) (Ne.symm ne)
          · refine k2 c o ?_ fun e => hn (.inl e)
            rw [PH.upd_other _ _ fun e => hn (.inr ⟨_, rfl, e.symm⟩)]; exact hc
  refine mJoin_intro (mIf_neg rfl (mJoin_intro (mIf_intro (fun c => fin true ?_) (fun c => fin _ ?_))))
  · simp at c; simp; omega
  · have c3 : ¬ n < 1 := by simpa using c
    by_cases e : n ≤ 2147483647
    · have : ¬ 2147483647 < n := by omega
      simp [this, e]; omega
    · have : 2147483647 < n := by omega
      simp [this, e]
end
end Go.Proofs.Ytegnpplffhkjhaa

/- image: the contracts. -/
import Derived.Test.YtmbfefbgjdpelaaImgD
set_option linter.unusedVariables false
set_option linter.unusedSimpArgs false
namespace Go.Proofs.Ytmbfefbgjdpelaa
open Go Go.Kx PInt

def getG (l : List Int) (b : Int) : Int := if 0 ≤ b ∧ b < l.length then l.getD b.toNat 0 else 0
theorem getG_in {l : List Int} {b x : Int} (h0 : 0 ≤ b) (h1 : b < l.length) (hx : l[b.toNat]? = some x) : getG l b = x := by rw [getG, if_pos ⟨h0, h1⟩]; simp [List.getD, hx]
/-- What goes as one is put for another. -/
def gone (was at' : Int) : Int := if was == at' then 0 else (if was < 0 then 0 else was)
structure Im where
  l0 : List Int
  d0 : List Bool
  l1 : List Int
  d1 : List Bool
structure ImR (B : PH) (a b o : Addr) (s0 t0 s1 t1 : Sl) : Prop where
  im : RowAt B a [.pointer (some b), .pointer (some o)]
  rb : RowAt B b (pgRow s0 t0 15)
  ro : RowAt B o (pgRow s1 t1 15)
theorem ImR.ext {B B' : PH} {a b o : Addr} {s0 t0 s1 t1 : Sl} (r : ImR B a b o s0 t0 s1 t1) (x : Ext B B') : ImR B' a b o s0 t0 s1 t1 := ⟨r.im.ext x, r.rb.ext x, r.ro.ext x⟩
structure ImOk (n : Nat) (M : Im) : Prop where
  p0 : PgOk M.l0.length 15 M.d0
  p1 : PgOk M.l1.length 15 M.d1
  n0 : M.l0.length = n
  n1 : M.l1.length = n
  n64 : n ≤ 64
  npos : 1 ≤ n
def imO (s0 t0 s1 t1 : Sl) (M : Im) : List Ob := [vecO E s0 M.l0, vecO Value.bool t0 M.d0, vecO E s1 M.l1, vecO Value.bool t1 M.d1]
/-- A table of it is written. -/
def Im.put (M : Im) (over : Bool) (b at' : Int) : Im := if over then { M with l1 := setL ne M.l1 b at', d1 := setD ne 15 M.l1 M.d1 b at' } else { M with l0 := setL ne M.l0 b at', d0 := setD ne 15 M.l0 M.d0 b at' }
def Im.tab (M : Im) (over : Bool) : List Int := if over then M.l1 else M.l0
theorem ImOk.put {n : Nat} {M : Im} (ok : ImOk n M) (over : Bool) (b at' : Int) : ImOk n (M.put over b at') := by
  cases over with
  | true => exact ⟨ok.p0, ok.p1.set b at', ok.n0, by show (setL ne M.l1 b at').length = n; rw [setL_len]; exact ok.n1, ok.n64, ok.npos⟩
  | false => exact ⟨ok.p0.set b at', ok.p1, by show (setL ne M.l0 b at').length = n; rw [setL_len]; exact ok.n0, ok.n1, ok.n64, ok.npos⟩
theorem ImOk.tab {n : Nat} {M : Im} (ok : ImOk n M) (over : Bool) : (M.tab over).length = n := by cases over; exact ok.n0; exact ok.n1
section
variable {H B : PH} {R : List Ob} {a b o : Addr} {s0 t0 s1 t1 : Sl} {M : Im} {n : Nat}
theorem table_spec {over : Bool} {Q : Option Addr → PH → Prop} (r : ImR H a b o s0 t0 s1 t1) (hQ : Q (some (if over then o else b)) H) : image_Image_table (some a) over H Q := by
  refine mIf_neg rfl (mIf_intro (fun c => ?_) (fun c => ?_))
  · rw [c] at hQ; exact nil_some (ld_row (x := some o) r.im rfl hQ)
  · rw [c] at hQ; exact nil_some (ld_row (x := some b) r.im rfl hQ)
theorem blocks_spec {Q : Int → PH → Prop} (r : ImR H a b o s0 t0 s1 t1) (hl : (s0.len : Int) = n) (hQ : Q n H) : image_Image_Blocks (some a) H Q :=
  table_spec r (mIf_neg rfl (nil_some (ld_row (x := s0) r.rb rfl (by rw [hl]; exact hQ))))
theorem has_spec {x k : Int} {Q : Bool → PH → Prop} (r : ImR H a b o s0 t0 s1 t1) (hl : (s0.len : Int) = n) (hn : n ≤ 64) (hQ : Q (decide (1 ≤ k ∧ k ≤ n ∧ 0 ≤ x ∧ x ≤ n - k)) H) : image_Image_has (some a) x k H Q := by
  have no : ¬ (1 ≤ k ∧ k ≤ n ∧ 0 ≤ x ∧ x ≤ n - k) → Q false H := fun h => by rw [decide_eq_false h] at hQ; exact hQ
  refine mJoin_intro (mIf_intro (fun c => blocks_spec r hl (mJoin_intro (mIf_intro (fun c1 => mJoin_intro ?_) (fun c1 => mJoin_intro (mIf_neg rfl (no ?_)))))) (fun c => mJoin_intro (mIf_neg rfl (mJoin_intro (mIf_neg rfl (no ?_))))))
  · refine mIf_intro (fun c2 => blocks_spec r hl ?_) (fun c2 => no ?_)
    · have k1 : 1 ≤ k := by simpa using c
      have k2 : k ≤ n := by simpa using c1
      have k3 : 0 ≤ x := by simpa using c2
      rw [wrap64_id (by omega) (by omega)]
      have e : decide (x ≤ (n : Int) - k) = decide (1 ≤ k ∧ k ≤ n ∧ 0 ≤ x ∧ x ≤ n - k) := decide_eq_decide.2 ⟨fun h => ⟨k1, k2, k3, h⟩, fun h => h.2.2.2⟩
      rw [e]; exact hQ
    · simp at c2; omega
  · simp at c1; omega
  · simp at c; omega
theorem iset_spec {L : List Ob} {p : Addr} {s t : Sl} {l : List Int} {d : List Bool} {x at' : Int} {Q : Int → PH → Prop} (h : Stars H L) (r : RowAt H p (pgRow s t 15)) (i j : Nat) (hi : L[i]? = some (vecO E s l)) (hj : L[j]? = some (vecO Value.bool t d)) (hij : i ≠ j) (ok : PgOk l.length 15 d)
    (hQ : ∀ H', Stars H' ((L.set i (vecO E s (setL ne l x at'))).set j (vecO Value.bool t (setD ne 15 l d x at'))) → Q (gone (getG l x) at') H') : image_set (some p) x at' H Q := by
  have fin : ∀ y : Int, y = getG l x → paged_Paged_int_Set (some p) x at' H fun y5 H4 => mIf (y == at') (Q 0 H4) (Q (if y < 0 then 0 else y) H4) := by
    rintro _ rfl
    refine set_spec h r i j hi hj hij ok fun H' h' => ?_
    have q := hQ H' h'
    unfold gone at q
    refine mIf_intro (fun c => ?_) (fun c => ?_)
    · rw [if_pos c] at q; exact q
    · rw [if_neg (by rw [c]; decide)] at q; exact q
  refine get_spec r (h.list i hi) (fun y h0 h1 hy => fin y (getG_in h0 h1 hy).symm) (fun hn => fin 0 (by rw [getG, if_neg hn]))
/-- One is put. -/
theorem put_spec {over : Bool} {x at' : Int} {Q : Int → PH → Prop} (h : Stars H (baseO B :: (imO s0 t0 s1 t1 M ++ R))) (r : ImR B a b o s0 t0 s1 t1) (ok : ImOk n M)
    (hQ : ∀ H', Stars H' (baseO B :: (imO s0 t0 s1 t1 (M.put over x at') ++ R)) → Q (gone (getG (M.tab over) x) at') H') : image_set (some (if over then o else b)) x at' H Q := by
  cases over with
  | true => exact iset_spec h (r.ext h.base).ro 3 4 rfl rfl (by decide) ok.p1 fun H' h' => hQ H' h'
  | false => exact iset_spec h (r.ext h.base).rb 1 2 rfl rfl (by decide) ok.p0 fun H' h' => hQ H' h'
theorem s0_len {M : Im} (h : Stars H (baseO B :: (imO s0 t0 s1 t1 M ++ R))) (ok : ImOk n M) : (s0.len : Int) = n := by
  rw [(h.list (enc := E) 1 rfl).lenI, ok.n0]
theorem one_spec {over : Bool} {x at' : Int} {Q : Int → Bool → PH → Prop} (h : Stars H (baseO B :: (imO s0 t0 s1 t1 M ++ R))) (r : ImR B a b o s0 t0 s1 t1) (ok : ImOk n M) (hx : 0 ≤ x ∧ x < n) (hat : 1 ≤ at' ∧ at' < 4096)
    (hQ : ∀ H', Stars H' (baseO B :: (imO s0 t0 s1 t1 (M.put over x at') ++ R)) → Q (gone (getG (M.tab over) x) at') true H') : image_Image_one (some a) over x at' H Q := by
  have hn := ok.n64
  have hp := ok.npos
  refine has_spec (r.ext h.base) (s0_len h ok) hn ?_
  rw [decide_eq_true (show 1 ≤ (1 : Int) ∧ (1 : Int) ≤ n ∧ 0 ≤ x ∧ x ≤ n - 1 from ⟨by omega, by omega, by omega, by omega⟩)]
  refine mJoin_intro (mIf_neg rfl ?_)
  rw [decide_eq_false (show ¬ at' < 1 by omega)]
  refine mJoin_intro (mIf_neg rfl ?_)
  rw [decide_eq_false (show ¬ 4096 ≤ at' by omega)]
  exact mIf_neg rfl (table_spec (r.ext h.base) (put_spec h r ok hQ))
theorem ref_spec {x : Int} {Q : Int → Bool → PH → Prop} (h : Stars H (baseO B :: (imO s0 t0 s1 t1 M ++ R))) (r : ImR B a b o s0 t0 s1 t1) (hQ : Q (getG M.l0 x) (decide (0 ≤ x ∧ x < M.l0.length)) H) : image_Image_Ref (some a) x H Q := by
  refine table_spec (r.ext h.base) (get_spec (r.ext h.base).rb (h.list 1 rfl) (fun y h0 h1 hy => ?_) (fun hn => ?_))
  · rw [getG_in h0 h1 hy, decide_eq_true ⟨h0, h1⟩] at hQ; exact hQ
  · rw [getG, if_neg hn, decide_eq_false hn] at hQ; exact hQ
def lookV (M : Im) (x : Int) : Int := if getG M.l1 x = -1 then getG M.l0 x else getG M.l1 x
theorem look_spec {x : Int} {Q : Int → Bool → PH → Prop} (h : Stars H (baseO B :: (imO s0 t0 s1 t1 M ++ R))) (r : ImR B a b o s0 t0 s1 t1) (ok : ImOk n M) (hx : 0 ≤ x ∧ x < n) (hQ : Q (lookV M x) true H) : image_Image_Look (some a) x H Q := by
  have e0 := ok.n0; have e1 := ok.n1
  refine table_spec (r.ext h.base) (get_spec (r.ext h.base).ro (h.list 3 rfl) (fun y h0 h1 hy => ?_) (fun hn => absurd ⟨hx.1, by omega⟩ hn))
  have ey := getG_in h0 h1 hy
  refine mJoin_intro (mIf_pos rfl (mIf_intro (fun c => ?_) (fun c => ref_spec h r ?_)))
  · have c' : ¬ y = -1 := by simpa using c
    rw [lookV, ey, if_neg c'] at hQ; exact hQ
  · have c' : y = -1 := by simpa using c
    rw [lookV, ey, if_pos c'] at hQ
    rw [decide_eq_true (show 0 ≤ x ∧ x < (M.l0.length : Int) from ⟨hx.1, by omega⟩)]; exact hQ
end
end Go.Proofs.Ytmbfefbgjdpelaa

/- paged: Page, Load, All; the laws' own functions. -/
import Derived.Test.YtgnnfafidhfhfaaPagA
set_option linter.unusedVariables false
set_option linter.unusedSimpArgs false
namespace Go.Proofs.Ytgnnfafidhfhfaa
open Go Go.Kx PInt

theorem ints_enc (x : Int) : cellV (Value.int .i64 x) = true := rfl
section
variable {H B : PH} {L : List Ob} {a : Addr} {s t : Sl} {per : Int} {l : List Int} {d : List Bool}
theorem at_spec {k : Int} {Q : Sl → PH → Prop} (r : RowAt H a (pgRow s t per)) (hs : Vec E H s l) (ht : (t.len : Int) = d.length) (ok : PgOk l.length per d)
    (hout : ¬ (0 ≤ k ∧ k < d.length) → Q Sl.nil H) (hin : ∀ (lo hi : Nat), 0 ≤ k → k < d.length → (lo : Int) = k * per → (hi : Int) = min ((k + 1) * per) l.length → lo < hi → hi ≤ l.length → ListAt E H (s.cut 1 lo hi) ((l.drop lo).take (hi - lo)) → Q (s.cut 1 lo hi) H) : paged_Paged_int_at (some a) k H Q := by
  refine mJoin_intro (mIf_intro (fun c => mIf_pos rfl (hout (by simp at c; omega))) (fun c => pages_spec r ht ?_))
  refine mIf_intro (fun c2 => hout (by simp at c2; omega)) (fun c2 => ?_)
  have h0 : 0 ≤ k := by simpa using c
  have h1 : k < d.length := by simpa using c2
  have hd := ok.d; have := ok.n2; have hp1 := ok.p1; have := ok.p2; have := ok.n1
  have hle := pgs_le (n := l.length) (per := per) (by omega) hp1
  have hlt := page_lt hp1 h0 (by rw [← hd]; exact h1)
  have hkp : 0 ≤ k * per := Int.mul_nonneg h0 (by omega)
  have e1 : (k + 1) * per = k * per + per := by rw [Int.add_mul, Int.one_mul]
  have w1 : IntKind.wrap .i64 (k * per) = k * per := wrap64_id (by omega) (by omega)
  have w2 : IntKind.wrap .i64 (k + 1) = k + 1 := wrap64_id (by omega) (by omega)
  have w3 : IntKind.wrap .i64 ((k + 1) * per) = (k + 1) * per := wrap64_id (by omega) (by omega)
  refine nil_some (ld_row (x := s) r rfl (nil_some (ld_row (x := per) r rfl (nil_some (ld_row (x := per) r rfl (nil_some (ld_row (x := s) r rfl ?_)))))))
  rw [w1, w2, w3, hs.list.lenI]
  have em : (if (l.length : Int) < (k + 1) * per then (l.length : Int) else (k + 1) * per) = min ((k + 1) * per) l.length := by split <;> omega
  rw [em]
  obtain ⟨lo, hlo⟩ := Int.eq_ofNat_of_zero_le hkp
  obtain ⟨hi, hhi⟩ := Int.eq_ofNat_of_zero_le (show 0 ≤ min ((k + 1) * per) (l.length : Int) by omega)
  rw [hlo, hhi]
  refine cut_vec hs (by omega) (by omega) (by omega) fun hx => ?_
  simp only [Int.toNat_natCast] at hx ⊢
  exact hin lo hi h0 h1 hlo.symm hhi.symm (by omega) (by omega) hx
theorem page_eq {k : Int} {lo hi : Nat} (h0 : 0 ≤ k) (h1 : k < d.length) (hlo : (lo : Int) = k * per) (hhi : (hi : Int) = min ((k + 1) * per) l.length) (hlt : lo < hi) : (l.drop lo).take (hi - lo) = pageOf l per d k := by
  have e1 : (k + 1) * per = k * per + per := by rw [Int.add_mul, Int.one_mul]
  rw [pageOf, if_pos ⟨h0, h1⟩, ← hlo, Int.toNat_natCast]
  by_cases h : hi = l.length
  · rw [List.take_of_length_le (by rw [List.length_drop]; omega), List.take_of_length_le (by rw [List.length_drop]; omega)]
  · congr 1; omega
theorem page_spec {k : Int} {Q : Sl → PH → Prop} (r : RowAt H a (pgRow s t per)) (hs : Vec E H s l) (ht : (t.len : Int) = d.length) (ok : PgOk l.length per d) (hQ : ∀ q H', Stars H' [baseO H, vecO E q (pageOf l per d k)] → Q q H') : paged_Paged_int_Page (some a) k H Q := by
  have hn := ok.n2
  refine at_spec r hs ht ok (fun hn => ?_) (fun lo hi h0 h1 hlo hhi hlt hle hx => ?_)
  · have e : pageOf l per d k = [] := by rw [pageOf, if_neg hn]
    rw [e] at hQ
    exact S_clone0 (enc := E) (l := []) .nil cvT rfl (by decide) hQ
  · rw [page_eq h0 h1 hlo hhi hlt] at hx
    refine S_clone0 (enc := E) hx cvT rfl ?_ hQ
    have : (pageOf l per d k).length ≤ l.length := by
      rw [pageOf, if_pos ⟨h0, h1⟩, List.length_take, List.length_drop]; omega
    omega
/-- What Load gives the whole. -/
def loadL (per : Int) (l : List Int) (d : List Bool) (k : Int) (ys : List Int) : List Int := if (0 ≤ k ∧ k < d.length) ∧ ys.length = (pageOf l per d k).length then l.take (k * per).toNat ++ ys ++ l.drop ((k * per).toNat + ys.length) else l
def loadD (per : Int) (l : List Int) (d : List Bool) (k : Int) (ys : List Int) : List Bool := if (0 ≤ k ∧ k < d.length) ∧ ys.length = (pageOf l per d k).length then d.set k.toNat false else d
theorem load_spec {k : Int} {x : Sl} {ys : List Int} {Q : Bool → PH → Prop} (h : Stars H L) (r : RowAt H a (pgRow s t per)) (i j : Nat) (hi : L[i]? = some (vecO E s l)) (hj : L[j]? = some (vecO Value.bool t d)) (hij : i ≠ j) (ok : PgOk l.length per d)
    (r2 : ∀ H', Stars H' (L.set i (vecO E s (loadL per l d k ys))) → RowAt H' a (pgRow s t per)) (hx : ListAt E H x ys)
    (hQ : ∀ H', Stars H' ((L.set i (vecO E s (loadL per l d k ys))).set j (vecO Value.bool t (loadD per l d k ys))) → Q (decide ((0 ≤ k ∧ k < d.length) ∧ ys.length = (pageOf l per d k).length)) H') : paged_Paged_int_Load (some a) k x H Q := by
  have ss : ∀ {α : Type} {L : List α} {i : Nat} {O : α}, L[i]? = some O → L.set i O = L := fun {α L i O} h => by
    apply List.ext_getElem?
    intro j
    by_cases e : i = j
    · subst e; rw [List.getElem?_set_self (List.getElem?_eq_some_iff.1 h).1, h]
    · rw [List.getElem?_set_ne e]
  have stay : ¬ ((0 ≤ k ∧ k < d.length) ∧ ys.length = (pageOf l per d k).length) → Q false H := fun hh => by
    have := hQ H
    rw [loadL, loadD, if_neg hh, if_neg hh, ss hi, ss hj, decide_eq_false hh] at this
    exact this h
  have hs : Vec E H s l := h.get i hi
  refine at_spec r hs (h.list j hj).lenI ok (fun hn => mJoin_intro (mIf_pos rfl (mIf_pos rfl (stay fun hh => hn hh.1)))) (fun lo hi h0 h1 hlo hhi hlt hle hx2 => ?_)
  have he := page_eq (l := l) h0 h1 hlo hhi hlt
  have hpl : (pageOf l per d k).length = hi - lo := by rw [← he, List.length_take, List.length_drop]; omega
  have hcl : ((s.cut 1 lo hi).len : Int) = (hi - lo : Nat) := by simp only [Sl.cut]
  have hxl := hx.lenI
  rw [hcl, hxl]
  refine mJoin_intro (mIf_neg (by simp; omega) (mIf_intro (fun c => stay fun hh => ?_) (fun c => ?_)))
  · have := hh.2; rw [hpl] at this; simp at c; omega
  · have hyl : ys.length = hi - lo := by simp at c; omega
    have hh : (0 ≤ k ∧ k < d.length) ∧ ys.length = (pageOf l per d k).length := ⟨⟨h0, h1⟩, by rw [hpl, hyl]⟩
    rw [decide_eq_true hh] at hQ
    have eL : loadL per l d k ys = l.take lo ++ ys.take (hi - lo) ++ l.drop (lo + min ys.length (hi - lo)) := by
      rw [loadL, if_pos hh, ← hlo, Int.toNat_natCast, show ys.take (hi - lo) = ys from List.take_of_length_le (by omega), ← hyl, Nat.min_self]
    rw [loadD, if_pos hh] at hQ
    rw [eL] at r2 hQ
    refine S_cutcopy h i (by assumption) (by omega) hle hx cvT fun H2 h2 => nil_some (ld_row (x := t) (r2 H2 h2) rfl ?_)
    exact S_put h2 j (by rw [List.getElem?_set_ne hij]; exact hj) h0 h1 rfl fun H3 h3 => hQ H3 h3
/-- The list of dirty pages, up to so many. -/
theorem dirty_spec {most : Int} {Q : Sl → PH → Prop} (r : RowAt H a (pgRow s t per)) (ht : ListAt Value.bool H t d) (hd : d.length ≤ 65536) (hQ : ∀ q H', Stars H' [baseO H, vecO E q ((dirtyL d).take most.toNat)] → Q q H') : keelsonlaw11_dirty (some a) most H Q := by
  refine S_row (Stars.start H) fun a1 H1 h1 x1 => S_row h1 fun c0 H2 h2 x2 => ⟨.inr ⟨_, _, _, rfl⟩, mIf_neg rfl (S_row h2 fun a8 H3 h3 x3 => mJoin_intro ?_)⟩
  have h4 := h3.nilv (enc := E)
  have last : ∀ (q : Sl) (l : List Int) (H' : PH), l = (dirtyL d).take most.toNat → Stars H' [baseO H, rowO a1 [.int .i64 most], rowO c0 [.pointer (some a)], rowO a8 [Sl.v q], vecO E q l] → mLd Sl.v H' a8 fun x15 => Q x15 H' := fun q l H' hl h' => by
    subst hl
    exact S_ld1 h' 3 rfl (hQ q H' (h'.pick [0, 4] (by decide) rfl (by simp)))
  refine paged_Paged_int_Dirty_c1_s _ _ _ _ _ (dirty_c1_spec (a := a) (s := s) (t := t) (per := per) (d := d)
    (fun k _ Hk => ∃ q, (dirtyTo d k).length ≤ most.toNat ∧ Stars Hk [baseO H, rowO a1 [.int .i64 most], rowO c0 [.pointer (some a)], rowO a8 [Sl.v q], vecO E q (dirtyTo d k)]) hd
    ?_ ⟨Sl.nil, by simp [dirtyTo], h4⟩ ?_ ?_ ?_)
  · rintro k _ Hk ⟨q, _, hk⟩
    exact ⟨hk.cell1 2 rfl, r.ext hk.base, ht.ext hk.base⟩
  · rintro k _ Hk hkl ⟨q, hb, hk⟩ hf
    exact ⟨q, by rw [dirtyTo_none hf]; exact hb, by rw [dirtyTo_none hf]; exact hk⟩
  · rintro k _ Hk K hkl ⟨q, hb, hk⟩ hf hnext hbrk
    have hl1 := (hk.list (enc := E) 4 rfl).lenI
    have hlen := dirtyTo_len d k
    refine ⟨_, rfl, S_ld1 hk 3 rfl (S_ld1 hk 1 rfl (mIf_intro (fun c => ?_) (fun c => ?_)))⟩
    · have c' : most ≤ (q.len : Int) := by simpa using c
      have e : dirtyTo d k = (dirtyL d).take most.toNat := by
        obtain ⟨r, hr⟩ := dirtyTo_pre d k (d.length - k)
        rw [show k + (d.length - k) = d.length by omega] at hr
        rw [dirtyL, hr, List.take_append_of_le_length (by omega), List.take_of_length_le (by omega)]
      exact hbrk 1 () Hk (by decide) (mIf_pos rfl (last q _ Hk e hk))
    · have c' : ¬ most ≤ (q.len : Int) := by simpa using c
      refine S_ld1 hk 3 rfl (S_new1 (enc := E) hk fun q1 H6 h6 x6 => S_app (ys := [(k : Int)]) h6 4 rfl (h6.list 5 rfl) ints_enc rfl (by simp; omega) fun r3 H7 h7 => S_st1 h7 3 rfl rfl fun H8 h8 => ?_)
      refine hnext () H8 ⟨r3, ?_, ?_⟩
      · rw [dirtyTo_some hf, List.length_append, List.length_singleton]; omega
      · rw [dirtyTo_some hf]
        exact h8.pick [0, 1, 2, 3, 4] (by decide) rfl (by simp)
  · rintro _ Hk ⟨q, hb, hk⟩
    refine mIf_neg rfl (last q _ Hk ?_ hk)
    rw [dirtyL, List.take_of_length_le hb]
theorem dirty_nil {most : Int} {Q : Sl → PH → Prop} (hQ : ∀ H', Ext H H' → Q Sl.nil H') : keelsonlaw11_dirty none most H Q := by
  refine S_row (Stars.start H) fun a1 H1 h1 x1 => S_row h1 fun c0 H2 h2 x2 => ⟨.inr ⟨_, _, _, rfl⟩, mIf_neg rfl (S_row h2 fun a8 H3 h3 x3 => mJoin_intro ?_)⟩
  refine paged_Paged_int_Dirty_c1_s _ _ _ _ _ ⟨none, h3.cell1 2 rfl, mIf_pos rfl ?_⟩
  refine mLoop_of (fun m st Hk => st = (0, (0, ())) ∧ Hk = H3) 0 ⟨rfl, rfl⟩ ?_
  rintro m st Hk again ⟨rfl, rfl⟩ _
  exact mIf_neg rfl (mIf_neg rfl (S_ld1 (x := Sl.nil) h3 3 rfl (hQ _ h3.base)))
end
end Go.Proofs.Ytgnnfafidhfhfaa

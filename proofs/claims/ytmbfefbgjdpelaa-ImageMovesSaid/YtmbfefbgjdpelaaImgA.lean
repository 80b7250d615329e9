/- turned from PagA by pagv.py. -/
import Derived.Test.YtmbfefbgjdpelaaImgM
set_option linter.unusedVariables false
set_option linter.unusedSimpArgs false
namespace Go.Proofs.Ytmbfefbgjdpelaa
open Go Go.Kx
namespace PInt
abbrev T := Int
abbrev E : T → Value := Value.int .i64
def nz : T := 0
def ne (a b : T) : Bool := a != b
theorem cvT (x : T) : cellV (E x) = true := rfl

section
variable {H B : PH} {L : List Ob} {a : Addr} {s t : Sl} {per : Int} {l : List T} {d : List Bool}
theorem repeat_spec {r : Sl} {v : T} {n : Nat} {Q : Sl → PH → Prop} (hr : ListAt E H r [v]) (h1 : 1 ≤ n) (h2 : n ≤ 65536) (hQ : ∀ s H', Stars H' [baseO H, vecO E s (List.replicate n v)] → Q s H') : slices_Repeat_Slint_int r n H Q := by
  have hl : (r.len : Int) = 1 := hr.lenI
  refine mJoin_intro (mIf_neg (by simp) ?_)
  rw [hl, wrapu_id (by omega) (by omega), wrapu_id (by omega) (by omega)]
  refine mul_one (by omega) (by omega) (mJoin_intro (mIf_neg (by decide) (mJoin_intro (mIf_neg (by simp; omega) ?_))))
  rw [wrap64_id (by omega) (by omega)]
  refine S_mk (enc := E) (x := nz) (Stars.start H) (by omega) (by omega) fun q H1 h1' x1 => S_copyN h1' 1 rfl (hr.ext x1) cvT fun H2 h2' => ?_
  rw [Int.toNat_natCast] at h2'
  have e0 : (min [v].length (List.replicate n nz).length : Nat) = 1 := by simp; omega
  rw [Int.toNat_natCast, e0]
  have e1 : [v].take (List.replicate n nz).length ++ (List.replicate n nz).drop [v].length = List.replicate 1 v ++ List.replicate (n - 1) nz := by
    rw [List.length_replicate, List.take_of_length_le (by simp; omega)]; simp
  rw [e1] at h2'
  refine mLoop_of (fun m st Hk => ∃ k z, st = ((k : Nat) : Int) ∧ m = n - k ∧ 1 ≤ k ∧ k ≤ n ∧ List.length z = n - k ∧ Stars Hk [baseO H, vecO E q (List.replicate k v ++ z)]) (n - 1) ⟨1, _, rfl, rfl, Nat.le_refl _, h1, by simp, h2'⟩ ?_
  rintro m st H3 again ⟨k, z, rfl, rfl, hk1, hkn, hz, h3⟩ hag
  have hql : (q.len : Int) = n := by rw [(h3.list (enc := E) 1 rfl).lenI]; simp [hz]; omega
  rw [hql]
  have hlen : (List.replicate k v ++ z).length = n := by simp [hz]; omega
  refine mIf_intro (fun c => ?_) (fun c => ?_)
  · have hlt : k < n := by simpa using c
    refine S_cut h3 1 rfl (by omega) (by omega) (by omega) fun _ => S_cut h3 1 rfl (by omega) (by omega) (by omega) fun hx => ?_
    simp only [Int.toNat_natCast, Int.toNat_zero, List.drop_zero, Nat.sub_zero] at hx ⊢
    refine S_cutcopy h3 1 rfl (by omega) (by omega) hx cvT fun H4 h4 => ?_
    rw [S_double hlt rfl hz] at h4
    have e2 : min ((List.replicate k v ++ z).take k).length (n - k) = min k (n - k) := by rw [List.length_take, hlen]; omega
    rw [e2, wrap64_id (by omega) (by omega)]
    exact hag (n - (k + min k (n - k))) _ _ (by omega) ⟨k + min k (n - k), _, by push_cast; rfl, rfl, by omega, by omega, by rw [List.length_drop, hz]; omega, h4⟩
  · have : k = n := by simp at c; omega
    subst this
    have : z = [] := List.length_eq_zero_iff.1 (by omega)
    subst this
    rw [List.append_nil] at h3
    exact hQ q H3 h3
theorem new_spec {n per : Int} {v : T} {Q : Option Addr → PH → Prop} (hbad : ¬ (1 ≤ n ∧ n ≤ 65536 ∧ 1 ≤ per ∧ per ≤ 65536) → Q none H)
    (hgood : (1 ≤ n ∧ n ≤ 65536 ∧ 1 ≤ per ∧ per ≤ 65536) → ∀ a s t H', Stars H' [baseO H, vecO E s (List.replicate n.toNat v), vecO Value.bool t (List.replicate (pgs n per).toNat false), rowO a (pgRow s t per)] → Q (some a) H') : paged_New_int n per v H Q := by
  by_cases hg : 1 ≤ n ∧ n ≤ 65536 ∧ 1 ≤ per ∧ per ≤ 65536
  · refine mJoin_intro (mIf_neg (by simp; omega) (mJoin_intro (mIf_neg (by simp; omega) (mJoin_intro (mIf_neg (by simp; omega) (mIf_neg (by simp; omega) ?_))))))
    have hp := pgs_pos hg.1 hg.2.2.1
    have hp2 := pgs_le hg.1 hg.2.2.1
    have e : IntKind.wrap .i64 (Int.tdiv (IntKind.wrap .i64 ((IntKind.wrap .i64 (n + per)) - 1)) per) = pgs n per := by
      rw [wrap64_id (x := n + per) (by omega) (by omega), wrap64_id (x := n + per - 1) (by omega) (by omega), tdiv_div (by omega)]
      exact wrap64_id (by show -9223372036854775808 ≤ pgs n per; omega) (by show pgs n per < 9223372036854775808; omega)
    rw [e]
    refine ⟨by omega, ⟨by omega, Int.le_refl _, by omega⟩, S_new1 (enc := E) (x := v) (Stars.start H) fun r H1 h1 x1 => ?_⟩
    obtain ⟨N, rfl⟩ := Int.eq_ofNat_of_zero_le (show 0 ≤ n by omega)
    refine repeat_spec (h1.list 1 rfl) (by omega) (by omega) fun s H2 h2 => ?_
    have h3 := h1.over h2
    refine S_mkSI (enc := Value.bool) (x := false) h3 fun t H4 h4 x4 => S_row h4 fun a H5 h5 x5 => hgood hg a s t H5 (h5.pick [0, 2, 3, 4] (by decide) (by simp) (by simp))
  · have q := hbad hg
    refine mJoin_intro (mIf_intro (fun c => mJoin_intro (mIf_pos rfl (mJoin_intro (mIf_pos rfl (mIf_pos rfl q))))) (fun c => ?_))
    refine mJoin_intro (mIf_intro (fun c2 => mJoin_intro (mIf_pos rfl (mIf_pos rfl q))) (fun c2 => ?_))
    refine mJoin_intro (mIf_intro (fun c3 => mIf_pos rfl q) (fun c3 => mIf_pos (by simp at c c2 c3 ⊢; omega) q))
theorem len_spec {Q : Int → PH → Prop} (r : RowAt H a (pgRow s t per)) (hl : (s.len : Int) = l.length) (hQ : Q l.length H) : paged_Paged_int_Len (some a) H Q := by
  refine mIf_neg rfl (nil_some (ld_row (x := s) r rfl ?_))
  rw [hl]; exact hQ
theorem pages_spec {Q : Int → PH → Prop} (r : RowAt H a (pgRow s t per)) (hl : (t.len : Int) = d.length) (hQ : Q d.length H) : paged_Paged_int_Pages (some a) H Q := by
  refine mIf_neg rfl (nil_some (ld_row (x := t) r rfl ?_))
  rw [hl]; exact hQ
theorem get_spec {i : Int} {Q : T → Bool → PH → Prop} (r : RowAt H a (pgRow s t per)) (hs : ListAt E H s l) (hin : ∀ x, 0 ≤ i → i < l.length → l[i.toNat]? = some x → Q x true H) (hout : ¬ (0 ≤ i ∧ i < l.length) → Q nz false H) : paged_Paged_int_Get (some a) i H Q := by
  refine mJoin_intro (mIf_intro (fun c => mIf_pos rfl (hout (by simp at c; omega))) (fun c => len_spec r hs.lenI ?_))
  refine mIf_intro (fun c2 => hout (by simp at c2; omega)) (fun c2 => ?_)
  have h0 : 0 ≤ i := by simpa using c
  have h1 : i < l.length := by simpa using c2
  exact nil_some (ld_row (x := s) r rfl (idx_ld hs h0 h1 fun x hx => hin x h0 h1 hx))
theorem set_spec {k : Int} {v : T} {Q : Bool → PH → Prop} (h : Stars H L) (r : RowAt H a (pgRow s t per)) (i j : Nat) (hi : L[i]? = some (vecO E s l)) (hj : L[j]? = some (vecO Value.bool t d)) (hij : i ≠ j) (ok : PgOk l.length per d)
    (hQ : ∀ H', Stars H' ((L.set i (vecO E s (setL ne l k v))).set j (vecO Value.bool t (setD ne per l d k v))) → Q (decide (0 ≤ k ∧ k < l.length)) H') : paged_Paged_int_Set (some a) k v H Q := by
  have ss : ∀ {α : Type} {L : List α} {i : Nat} {O : α}, L[i]? = some O → L.set i O = L := fun {α L i O} h => by
    apply List.ext_getElem?
    intro j
    by_cases e : i = j
    · subst e; rw [List.getElem?_set_self (List.getElem?_eq_some_iff.1 h).1, h]
    · rw [List.getElem?_set_ne e]
  have stay : hitAt ne l k v = false → Q (decide (0 ≤ k ∧ k < l.length)) H := fun hh => by
    have := hQ H
    rw [setL, setD, if_neg (by simp [hh]), if_neg (by simp [hh]), ss hi, ss hj] at this
    exact this h
  have hs := h.list i hi
  refine get_spec r hs (fun x h0 h1 hx => ?_) (fun hn => ?_)
  · have ein : decide (0 ≤ k ∧ k < (l.length : Int)) = true := decide_eq_true ⟨h0, h1⟩
    rw [ein] at hQ stay
    refine mJoin_intro (mIf_pos rfl ?_)
    refine mJoin_intro (mIf_intro (fun c => ?_) (fun c => stay ?_))
    · have hh : hitAt ne l k v = true := by rw [hitAt, ein, hx]; exact c
      rw [setL, setD, if_pos hh, if_pos hh] at hQ
      have hp := in_page ok.p1 h0 h1
      have := ok.d; have := ok.n2; have := ok.p1
      have hdl := Int.ediv_le_self per h0
      refine nil_some (ld_row (x := s) r rfl (nil_some (ld_row (x := t) r rfl (nil_some (ld_row (x := per) r rfl ⟨by omega, ?_⟩)))))
      refine S_put h i hi h0 h1 rfl fun H2 h2 => ?_
      rw [tdiv_div h0, wrap64_id (by omega) (by omega)]
      exact S_put h2 j (by rw [List.getElem?_set_ne hij]; exact hj) hp.1 (by omega) rfl fun H3 h3 => hQ H3 h3
    · rw [hitAt, ein, hx]; exact c
  · have ein : decide (0 ≤ k ∧ k < (l.length : Int)) = false := decide_eq_false hn
    rw [ein] at stay
    refine mJoin_intro (mIf_neg rfl (mJoin_intro (mIf_neg rfl (stay ?_))))
    rw [hitAt, ein]; rfl
theorem dirty_c1_spec {γ : Type} {c0 : Addr} {Y : List Value → γ → PH → (Nat → γ → PH → Prop) → Prop} {g0 : γ} {Q : Nat → γ → PH → Prop} (I : Nat → γ → PH → Prop) (hd : d.length ≤ 65536)
    (hI : ∀ k g H, I k g H → cellAt H c0 = some (.pointer (some a)) ∧ RowAt H a (pgRow s t per) ∧ ListAt Value.bool H t d) (h0 : I 0 g0 H)
    (skip : ∀ k g H, k < d.length → I k g H → d.getD k false = false → I (k + 1) g H)
    (step : ∀ k g H K, k < d.length → I k g H → d.getD k false = true → (∀ g' H', I (k + 1) g' H' → K 0 g' H') → (∀ j g' H', j ≠ 0 → Q j g' H' → K j g' H') → Y [.int .i64 k] g H K)
    (fin : ∀ g H, I d.length g H → Q 0 g H) : paged_Paged_int_Dirty_c1 c0 Y g0 H Q := by
  obtain ⟨e0, r0, l0⟩ := hI _ _ _ h0
  refine ⟨some a, e0, pages_spec r0 l0.lenI ?_⟩
  refine mLoop_count d.length (fun k st Hk => ∃ g, st = ((k : Int), (0, g)) ∧ I k g Hk) ⟨g0, rfl, h0⟩ ?_
  rintro k st H1 again hk ⟨g, rfl, hi⟩ hag
  obtain ⟨e1, r1, l1⟩ := hI _ _ _ hi
  refine mIf_intro (fun c => ?_) (fun c => ?_)
  · have hkl : k < d.length := by simpa using c
    have ew := wrap_succ (k := k) (by omega)
    refine ⟨some a, e1, nil_some (ld_row (x := t) r1 rfl (idx_ld l1 (by omega) (by omega) fun x hx => ?_))⟩
    rw [Int.toNat_natCast] at hx
    have hgd : d.getD k false = x := by simp [List.getD, hx]
    refine mJoin_intro (mIf_intro (fun c1 => ⟨rfl, ?_⟩) (fun c1 => mIf_neg rfl ?_))
    · refine step k g H1 _ hkl hi (hgd.trans c1) (fun g' H' hi' => mIf_neg rfl ?_) (fun j g' H' hj hq => mIf_pos (by simpa using hj) hq)
      rw [ew]; exact hag hkl _ _ ⟨g', rfl, hi'⟩
    · rw [ew]; exact hag hkl _ _ ⟨g, rfl, skip k g H1 hkl hi (hgd.trans c1)⟩
  · have : k = d.length := by simp at c; omega
    subst this
    exact fin g H1 hi
end
end PInt
end Go.Proofs.Ytmbfefbgjdpelaa

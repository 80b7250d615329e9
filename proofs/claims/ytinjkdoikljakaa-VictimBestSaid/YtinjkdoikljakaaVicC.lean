/- turned from UsgC by usgv.py. -/
import Derived.Test.YtinjkdoikljakaaVicB
set_option linter.unusedVariables false
set_option linter.unusedSimpArgs false
namespace Go.Proofs.Ytinjkdoikljakaa
open Go Go.Kx

section
variable {H : PH} {L : List Ob} {a : Addr} {p : Option Addr} {s t : Sl} {l : List Use} {v : List Int}
theorem sealed_c1_spec {γ : Type} {c0 : Addr} {Y : List Value → γ → PH → (Nat → γ → PH → Prop) → Prop} {g0 : γ} {Q : Nat → γ → PH → Prop} (I : Nat → γ → PH → Prop) (hd : l.length < 2 ^ 40)
    (hI : ∀ k g H, I k g H → cellAt H c0 = some (.pointer (some a)) ∧ RowAt H a (tabRow p s t) ∧ ListN encU 2 H s l) (h0 : I 0 g0 H)
    (skip : ∀ k g H, k < l.length → I k g H → ((l.getD k (0, 0)).1 == 2) = false → I (k + 1) g H)
    (step : ∀ k g H K, k < l.length → I k g H → ((l.getD k (0, 0)).1 == 2) = true → (∀ g' H', I (k + 1) g' H' → K 0 g' H') → (∀ j g' H', j ≠ 0 → Q j g' H' → K j g' H') → Y [.int .i64 k] g H K)
    (fin : ∀ g H, I l.length g H → Q 0 g H) : usage_Table_Sealed_c1 c0 Y g0 H Q := by
  obtain ⟨e0, r0, l0⟩ := hI _ _ _ h0
  refine ⟨some a, e0, mIf_neg rfl ⟨some a, e0, nil_some (ld_row (x := s) r0 rfl ?_)⟩⟩
  rw [l0.lenI]
  refine mLoop_count l.length (fun k st Hk => ∃ g, st = ((k : Int), (0, g)) ∧ I k g Hk) ⟨g0, rfl, h0⟩ ?_
  rintro k st H1 again hk ⟨g, rfl, hi⟩ hag
  obtain ⟨e1, r1, l1⟩ := hI _ _ _ hi
  refine mIf_intro (fun c => ?_) (fun c => ?_)
  · have hkl : k < l.length := by simpa using c
    have ew := wrap_succ (k := k) (by omega)
    refine ⟨some a, e1, nil_some (ld_row (x := s) r1 rfl (idxL l1 (by simp) (by simpa using hkl) fun b x hx hc => ld0 hc ?_))⟩
    rw [Int.toNat_natCast] at hx
    have hgd : l.getD k (0, 0) = x := by simp [List.getD, hx]
    rw [← hgd]
    refine mJoin_intro (mIf_intro (fun c1 => ⟨rfl, ?_⟩) (fun c1 => mIf_neg rfl ?_))
    · refine step k g H1 _ hkl hi c1 (fun g' H' hi' => mIf_neg rfl ?_) (fun j g' H' hj hq => mIf_pos (by simpa using hj) hq)
      rw [ew]; exact hag hkl _ _ ⟨g', rfl, hi'⟩
    · rw [ew]; exact hag hkl _ _ ⟨g, rfl, skip k g H1 hkl hi c1⟩
  · have : k = l.length := by simp at c; omega
    subst this
    exact fin g H1 hi
theorem new_yes2 {c : Cfg} {Q : Option Addr → Int → PH → Prop} (hc : CfgOk c) (hQ : ∀ g H', Ext H H' → RowAt H' g (cfgL c) → H g.block = none → Q (some g) 0 H') : geom_New c H Q := by
  obtain ⟨h1, h2, h3, h4, h5, h6⟩ := hc
  have w : ∀ {x lo hi : Int}, lo ≤ x → x ≤ hi → (decide (lo ≤ x) && decide (x ≤ hi)) = true := fun h h' => by simp [h, h']
  refine new_row fun a1 H1 x1 r1 _ => ld_row (x := c.1) r1 rfl (within_spec ?_)
  rw [w h1 h2]
  refine mJoin_intro (mIf_neg rfl (ld_row (x := c.2.1) r1 rfl (within_spec ?_)))
  rw [w h3 h4]
  refine mJoin_intro (mIf_neg rfl (ld_row (x := c.2.2) r1 rfl (within_spec ?_)))
  rw [w h5 h6]
  refine mIf_neg rfl (ldr_row (x := c) r1 rfl (new_row fun a2 H2 x2 r2 f2 => hQ _ _ (x1.trans x2) r2 (x1.none f2)))
theorem tnew_froz {H B : PH} {L : List Ob} {p : Option Addr} {c : Cfg} {x : Sl} {ul : List Use} {Q : Option Addr → PH → Prop} (h : Stars H (baseO B :: L)) (hg : Gm H p c) (hc : CfgOk c) (hx : ListN encU 2 H x ul) (h1 : ul = [] ∨ (ul.length : Int) = c.2.1) (h2 : ∀ u, u ∈ ul → okU u = true)
    (hQ : ∀ B' a s t H', Ext B B' → RowAt B' a (tabRow p s t) → Stars H' (baseO B' :: (L ++ [vecNO encU 2 s (iniL c.2.1.toNat ul), vecO (Value.int .i64) t (List.replicate c.2.1.toNat 0)])) → Q (some a) H') : usage_New p x H Q := by
  have hul : ul.length < 2 ^ 40 := by
    have := hc.2.2.2.1
    rcases h1 with h | h
    · subst h; decide
    · omega
  refine tnew_spec hg hc hx hul (fun hb => absurd ⟨h1, h2⟩ hb) fun _ _ a s t H1 k1 => ?_
  have k2 := h.over k1
  have k3 : Stars H1 (baseO B :: (L ++ [vecNO encU 2 s (iniL c.2.1.toNat ul), vecO (Value.int .i64) t (List.replicate c.2.1.toNat 0)]) ++ [rowO a (tabRow p s t)]) := by simpa using k2
  obtain ⟨B', xb, rb, k4⟩ := k3.freeze
  exact hQ B' a s t H1 xb rb k4
end
end Go.Proofs.Ytinjkdoikljakaa

/- turned from PagC by pagv.py. -/
import Derived.Test.YtmbfefbgjdpelaaImgB
set_option linter.unusedVariables false
set_option linter.unusedSimpArgs false
namespace Go.Proofs.Ytmbfefbgjdpelaa
open Go Go.Kx PInt

theorem ints_spec {H : PH} {s t : Sl} {l m : List Int} {Q : Bool → PH → Prop} (hs : Ints H s l) (ht : Ints H t m) (hl : l.length < 2 ^ 60) (hQ : Q (decide (l = m)) H) : keelsonalike_Ints s t H Q := by
  have e1 := hs.lenI
  have e2 := ht.lenI
  refine mIf_intro (fun h => ?_) (fun h => ?_)
  · have : l ≠ m := fun e => by subst e; simp [e1, e2] at h
    rw [decide_eq_false this] at hQ; exact hQ
  · have hlen : l.length = m.length := by simp at h; omega
    refine mLoop_count l.length (fun k s' Hk => s' = (k : Int) ∧ Hk = H ∧ l.take k = m.take k) ⟨rfl, rfl, rfl⟩ ?_
    rintro k s' H2 again hk ⟨rfl, rfl, htk⟩ hag
    refine mIf_intro (fun hlt => ?_) (fun hge => ?_)
    · have hkl : k < l.length := by simp at hlt; omega
      refine idx_ld hs (by omega) (by omega) fun x hx => idx_ld ht (by omega) (by omega) fun y hy => ?_
      rw [Int.toNat_natCast] at hx hy
      refine mIf_intro (fun hne => ?_) (fun heq => hag hkl _ _ ⟨wrap_succ (by omega), rfl, ?_⟩)
      · have : l ≠ m := fun e => by subst e; rw [hx] at hy; cases hy; simp at hne
        rw [decide_eq_false this] at hQ; exact hQ
      · have : x = y := by simpa using heq
        rw [List.take_add_one, List.take_add_one, hx, hy, htk, this]
    · have : k = l.length := by simp at hge; omega
      subst this
      have : l = m := by rw [List.take_length, hlen, List.take_length] at htk; exact htk
      rw [decide_eq_true this] at hQ; exact hQ
theorem mod_spec {H : PH} {x m : Int} {Q : Int → PH → Prop} (hm : 0 < m) (hm2 : m < 2 ^ 62) (hQ : Q (x % m) H) : keelsonref1_Mod x m H Q := by
  have h3 := Int.tmod_eq_emod (a := x) (b := m)
  have h4 := Int.emod_nonneg x (by omega : m ≠ 0)
  have h5 := Int.emod_lt_of_pos x hm
  refine ⟨by omega, mJoin_intro (mIf_intro (fun hc => ?_) (fun hc => ?_))⟩
  · have h1 : x.tmod m < 0 := by simpa using hc
    have h2 := Int.lt_tmod_of_pos x hm
    have e : x.tmod m + m = x % m := by split at h3 <;> omega
    rw [wrap64_id (by omega) (by omega), e]; exact hQ
  · have h1 : ¬ x.tmod m < 0 := by simpa using hc
    have e : x.tmod m = x % m := by split at h3 <;> omega
    rw [e]; exact hQ
theorem round_spec {H : PH} {x m : Int} {Q : Int → PH → Prop} (hm : 0 < m) (hm2 : m < 2 ^ 62) (hQ : Q (x % m) H) : keelsonalike_Round x m H Q := mod_spec hm hm2 hQ


def DoneD (H : PH) (r : Bool) (H' : PH) : Prop := r = true ∧ Ext H H'
theorem new_froz {H B : PH} {L : List Ob} {n per v : Int} {Q : Option Addr → PH → Prop} (h : Stars H (baseO B :: L)) (hg : 1 ≤ n ∧ n ≤ 65536 ∧ 1 ≤ per ∧ per ≤ 65536)
    (hQ : ∀ B' a s t H', Ext B B' → RowAt B' a (pgRow s t per) → Stars H' (baseO B' :: (L ++ [vecO E s (List.replicate n.toNat v), vecO Value.bool t (List.replicate (pgs n per).toNat false)])) → Q (some a) H') : paged_New_int n per v H Q := by
  refine new_spec (fun hb => absurd hg hb) fun _ a s t H1 h1 => ?_
  have h2 := h.over h1
  have h3 : Stars H1 (baseO B :: (L ++ [vecO E s (List.replicate n.toNat v), vecO Value.bool t (List.replicate (pgs n per).toNat false)]) ++ [rowO a (pgRow s t per)]) := by
    simpa using h2
  obtain ⟨B', x, r, h4⟩ := h3.freeze
  exact hQ B' a s t H1 x r h4
theorem pgok_new {n per : Int} (hg : 1 ≤ n ∧ n ≤ 65536 ∧ 1 ≤ per ∧ per ≤ 65536) {v : Int} : PgOk (List.replicate n.toNat v).length per (List.replicate (pgs n per).toNat false) := by
  have := pgs_pos hg.1 hg.2.2.1
  have := pgs_le hg.1 hg.2.2.1
  refine ⟨by simp; omega, by simp; omega, hg.2.2.1, hg.2.2.2, ?_⟩
  rw [List.length_replicate, List.length_replicate, Int.toNat_of_nonneg (by omega), Int.toNat_of_nonneg (by omega)]
theorem PgOk.set {l : List Int} {per : Int} {d : List Bool} (ok : PgOk l.length per d) (k v : Int) : PgOk (setL ne l k v).length per (setD ne per l d k v) := by
  refine ⟨by rw [setL_len]; exact ok.n1, by rw [setL_len]; exact ok.n2, ok.p1, ok.p2, by rw [setL_len, setD_len]; exact ok.d⟩
theorem PgOk.clean {n : Nat} {per : Int} {d : List Bool} (ok : PgOk n per d) : PgOk n per (List.replicate d.length false) := ⟨ok.n1, ok.n2, ok.p1, ok.p2, by rw [List.length_replicate]; exact ok.d⟩
theorem PgOk.few {n : Nat} {per : Int} {d : List Bool} (ok : PgOk n per d) : d.length ≤ 65536 := by
  have h1 := ok.d; have h2 := ok.n2; have h3 := ok.n1
  have := pgs_le (n := n) (per := per) (by omega) ok.p1
  omega
end Go.Proofs.Ytmbfefbgjdpelaa

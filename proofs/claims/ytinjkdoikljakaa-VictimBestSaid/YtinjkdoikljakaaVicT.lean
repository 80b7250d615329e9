/- turned from UsgT by usgv.py. -/
import Derived.Test.YtinjkdoikljakaaVicR
set_option linter.unusedVariables false
set_option linter.unusedSimpArgs false
namespace Go.Proofs.Ytinjkdoikljakaa
open Go Go.Kx

section
variable {H : PH} {L : List Ob} {a : Addr} {c : Cfg} {s t : Sl} {l : List Use} {v : List Int}
theorem row_cells {cs : List Value} (r : RowAt H a cs) : cellsAt H a cs.length = some cs := by
  obtain ⟨e1, e2, e, e3⟩ := r
  have ea : a = ⟨a.block, 0, none⟩ := by cases a; simp_all
  rw [ea, cellsAt_of_row e3 (by omega), List.drop_zero, List.take_length]
theorem r_new {x : Sl} {ul : List Use} {Q : Option Addr → PH → Prop} (hc : CfgOk c) (hx : ListN encU 2 H x ul) (hul : ul.length < 2 ^ 40)
    (hbad : ¬ ((ul = [] ∨ (ul.length : Int) = c.2.1) ∧ ∀ u, u ∈ ul → okU u = true) → ∀ H', Ext H H' → Q none H')
    (hgood : (ul = [] ∨ (ul.length : Int) = c.2.1) → (∀ u, u ∈ ul → okU u = true) → ∀ a s t H', Stars H' [baseO H, vecNO encU 2 s (iniL c.2.1.toNat ul), vecO (Value.int .i64) t (List.replicate c.2.1.toNat 0), rowO a (rowR c s t)] → Q (some a) H') : keelsonref11_NewTable c x H Q := by
  have hcl := hc.2.2.1; have hcu := hc.2.2.2.1
  have hxl := hx.lenI
  refine S_row (Stars.start H) fun a1 H1 h1 x1 => mJoin_intro ?_
  have r1 : RowAt H1 a1 (cfgL c) := h1.get 1 rfl
  refine ldr_row (x := c) r1 rfl (ld_row (x := c.2.1) r1 rfl (ld_row (x := c.2.1) r1 rfl ⟨⟨by omega, by omega, by omega⟩, ⟨by omega, by omega, by omega⟩, S_mkSIN (enc := encU) (sz := 2) (x := (0, 0)) h1 rfl fun r5 H5 h5 x5 => ?_⟩))
  have r5' : RowAt H5 a1 (cfgL c) := h5.get 1 rfl
  refine same_row r5' rfl ⟨row_cells r5', S_mkSI (enc := Value.int .i64) (x := 0) h5 fun r6 H6 h6 x6 => ⟨row_cells (h6.get 1 rfl : RowAt H6 a1 (cfgL c)), S_row h6 fun a7 H7 h7 x7 => ?_⟩⟩
  have h7' : Stars H7 [baseO H, rowO a1 (cfgL c), vecNO encU 2 r5 (List.replicate c.2.1.toNat (0, 0)), vecO (Value.int .i64) r6 (List.replicate c.2.1.toNat 0), rowO a7 (rowR c r5 r6)] := h7
  refine mIf_intro (fun c1 => ?_) (fun c1 => ld_row (x := c.2.1) (h7'.get 1 rfl : RowAt H7 a1 (cfgL c)) rfl (mIf_intro (fun c2 => hbad (fun hh => ?_) H7 h7'.base) (fun c2 => ?_)))
  · have : ul = [] := List.length_eq_zero_iff.1 (by rw [hxl] at c1; simpa using c1)
    subst this
    exact hgood (.inl rfl) (fun u hu => by simp at hu) a7 r5 r6 H7 (by
      have := h7'.pick [0, 2, 3, 4] (L' := [baseO H, vecNO encU 2 r5 (List.replicate c.2.1.toNat (0, 0)), vecO (Value.int .i64) r6 (List.replicate c.2.1.toNat 0), rowO a7 (rowR c r5 r6)]) (by decide) rfl (by simp)
      simpa [iniL] using this)
  · rw [hxl] at c1 c2
    rcases hh.1 with h | h
    · subst h; simp at c1
    · simp [h] at c2
  · have hlen : (ul.length : Int) = c.2.1 := by rw [hxl] at c2; simpa using c2
    refine mLoop_count ul.length (fun k st Hk => st = (k : Int) ∧ (∀ i u, i < k → ul[i]? = some u → okU u = true) ∧ Stars Hk [baseO H, rowO a1 (cfgL c), vecNO encU 2 r5 (ul.take k ++ List.replicate (ul.length - k) (0, 0)), vecO (Value.int .i64) r6 (List.replicate c.2.1.toNat 0), rowO a7 (rowR c r5 r6)]) ⟨rfl, fun i u hi => absurd hi (by omega), by
      have e : c.2.1.toNat = ul.length := by omega
      rw [List.take_zero, List.nil_append, Nat.sub_zero, ← e]; exact h7'⟩ ?_
    rintro k st H8 again hk ⟨rfl, hok, h8⟩ hag
    rw [hxl]
    refine mIf_intro (fun c3 => ?_) (fun c3 => ?_)
    · have hkl : k < ul.length := by simpa using c3
      obtain ⟨u, hu⟩ : ∃ u, ul[k]? = some u := ⟨_, List.getElem?_eq_getElem hkl⟩
      have bad : okU u = false → Q none H8 := fun hb => hbad (fun hh => by have := hh.2 u (List.mem_of_getElem? hu); rw [hb] at this; cases this) H8 h8.base
      have fetch : ∀ {K : Addr → Prop}, (∀ b, cellsAt H8 b 2 = some (encU u) → K b) → mIdx x 2 (k : Int) K := fun {K} hK => idxL (hx.ext h8.base) (by simp) (by simpa using hkl) fun b w hw hc => hK b (by rw [Int.toNat_natCast, hu] at hw; cases hw; exact hc)
      refine fetch fun b hcb => ld0 hcb (rwithin (mJoin_intro (mIf_intro (fun c4 => mIf_pos rfl (bad ?_)) (fun c4 => fetch fun b2 hcb2 => ld1 hcb2 (rwithin (mIf_intro (fun c5 => bad ?_) (fun c5 => ?_)))))))
      · rw [okU]
        have : (decide (0 ≤ u.1) && decide (u.1 ≤ 2)) = false := by simp at c4 ⊢; omega
        rw [this, Bool.false_and]
      · rw [okU]
        have : (decide (0 ≤ u.2) && decide (u.2 ≤ 2147483647)) = false := by simp at c5 ⊢; omega
        rw [this, Bool.and_false]
      · have hs8 : VecN encU 2 H8 r5 _ := h8.get 2 rfl
        refine nil_some (S_ld (x := r5) h8 4 rfl rfl (fetch fun b3 hcb3 => ldU hcb3 (idxN hs8 (by omega) (by simp; omega) fun b4 y el => S_stN lenU u h8 2 rfl el (cvU u) fun H9 h9 => ?_)))
        rw [wrap_succ (by omega)]
        refine hag hkl _ _ ⟨rfl, fun i w hi hw => ?_, ?_⟩
        · by_cases e : i = k
          · subst e; rw [hu] at hw; cases hw
            simp at c4 c5
            simp [okU]; omega
          · exact hok i w (by omega) hw
        · have e : (ul.take k ++ List.replicate (ul.length - k) (0, 0)).set (k : Int).toNat u = ul.take (k + 1) ++ List.replicate (ul.length - (k + 1)) (0, 0) := by
            have hl : (ul.take k).length = k := by rw [List.length_take]; omega
            rw [Int.toNat_natCast, List.set_append_right _ _ (by omega), hl, Nat.sub_self, show ul.length - k = (ul.length - (k + 1)) + 1 by omega, List.replicate_succ, List.set_cons_zero, List.take_add_one, hu, List.append_assoc]; rfl
          rw [e] at h9
          exact h9
    · have hk' : k = ul.length := by simp at c3; omega
      subst hk'
      have hall : ∀ u, u ∈ ul → okU u = true := fun u hu => by
        obtain ⟨i, hi⟩ := List.getElem?_of_mem hu
        exact hok i u (List.getElem?_eq_some_iff.1 hi).1 hi
      refine hgood (.inr hlen) hall a7 r5 r6 H8 ?_
      have := h8.pick [0, 2, 3, 4] (L' := [baseO H, vecNO encU 2 r5 (ul.take ul.length ++ List.replicate (ul.length - ul.length) (0, 0)), vecO (Value.int .i64) r6 (List.replicate c.2.1.toNat 0), rowO a7 (rowR c r5 r6)]) (by decide) rfl (by simp)
      have e : iniL c.2.1.toNat ul = ul.take ul.length ++ List.replicate (ul.length - ul.length) (0, 0) := by
        rw [iniL, List.take_length, Nat.sub_self, List.drop_of_length_le (by rw [List.length_replicate]; omega)]; rfl
      rw [e]; exact this
end
end Go.Proofs.Ytinjkdoikljakaa

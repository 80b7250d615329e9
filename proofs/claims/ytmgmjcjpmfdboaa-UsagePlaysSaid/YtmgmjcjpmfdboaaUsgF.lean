/- THE LAW UsageStates, on formulas. -/
import Derived.Test.YtmgmjcjpmfdboaaUsgE
set_option linter.unusedVariables false
set_option linter.unusedSimpArgs false
namespace Go.Proofs.Ytmgmjcjpmfdboaa
open Go Go.Kx

def cnt (s : Int) (l : List Use) : Nat := l.countP fun u => u.1 == s
theorem cnt_app (s : Int) (l : List Use) (u : Use) : cnt s (l ++ [u]) = cnt s l + if u.1 == s then 1 else 0 := by simp [cnt, List.countP_append, List.countP_cons]
theorem cnt_le (s : Int) (l : List Use) : cnt s l ≤ l.length := List.countP_le_length
theorem seal_cnt (l : List Use) : ∀ k, k ≤ l.length → (sealTo l k).length = cnt 2 (l.take k)
  | 0, _ => by simp [sealTo, cnt]
  | k + 1, hk => by
    have ih := seal_cnt l k (by omega)
    have hx : l[k]? = some l[k] := List.getElem?_eq_getElem (by omega)
    have e : l.getD k (0, 0) = l[k] := by simp [List.getD, hx]
    have e2 : l.take (k + 1) = l.take k ++ [l[k]] := by rw [List.take_add_one, hx]; rfl
    rw [e2, cnt_app]
    cases h : l[k].1 == 2 with
    | false => rw [sealTo_none (by rw [e]; exact h), ih]; simp
    | true => rw [sealTo_some (by rw [e]; exact h), List.length_append, ih]; simp
theorem sealI_cnt (l : List Use) : (sealI l).length = cnt 2 l := by have := seal_cnt l l.length (Nat.le_refl _); rw [List.take_length] at this; exact this
theorem out_seal (l : List Use) (n : Nat) : outL l (List.replicate n 0) = sealI l := by
  have key : ∀ k, outTo l (List.replicate n 0) k = sealTo l k := fun k => by
    unfold outTo sealTo
    congr 1
    funext i
    have : (List.replicate n (0 : Int)).getD i 0 = 0 := by
      rw [List.getD, List.getElem?_replicate]; split <;> rfl
    rw [idleAt, this]; simp
  exact key _
theorem free_relG (l : List Use) (v : List Int) : ∀ k, k ≤ l.length → freeN (relTo l v k) = freeN l + (outTo l v k).length
  | 0, _ => rfl
  | k + 1, hk => by
    have ih := free_relG l v k (by omega)
    cases h : idleAt l v k with
    | false =>
      have e : relTo l v (k + 1) = relTo l v k := by
        show (if idleAt l v k then _ else _) = _
        rw [h]; rfl
      rw [e, outTo_none h, ih]
    | true =>
      have hlt : k < (relTo l v k).length := by rw [relTo_len]; omega
      have e : relTo l v (k + 1) = (relTo l v k).set k (0, (l.getD k (0, 0)).2) := by
        show (if idleAt l v k then _ else _) = _
        rw [h]; rfl
      have hx : l[k]? = some l[k] := List.getElem?_eq_getElem (by omega)
      have hg : (relTo l v k)[k] = l[k] := by
        have := relTo_at l v k
        rw [hx, List.getElem?_eq_getElem hlt] at this
        exact Option.some.inj this
      have h2 : l[k].1 = 2 := by
        simp only [idleAt, List.getD, hx, Option.getD_some, Bool.and_eq_true, beq_iff_eq] at h
        exact h.1
      rw [e, outTo_some h, List.length_append, List.length_singleton, freeN, List.countP_set hlt, hg, h2]
      rw [freeN] at ih
      simp
      omega
theorem states_law {H : PH} {p0 : Int × Int × Int} {s1 s2 : Sl} {l1 l2 : List Int} (h1 : Ints H s1 l1) (h2 : Ints H s2 l2) : keelsonlaw12_UsageStates p0 s1 s2 H (DoneD H) := by
  have hawake : ∀ H2, Ext H H2 → keelsonlaw12_awake H2 (DoneD H) := fun H2 x2 => awake_spec fun H3 x3 => ⟨rfl, x2.trans x3⟩
  have hl1 := h1.lenI; have hl2 := h2.lenI
  refine new_row fun a1 H1 x1 r1 _ => ldr_row (x := p0) r1 rfl ?_
  refine config_spec fun H2 x2 => new_row fun a8 H3 x3 r3 f3 => st_row (vs := cfgL (cfgOf p0)) r3 rfl rfl fun H4 r4 kp4 => ldr_row (x := cfgOf p0) r4 rfl (new_yes2 (cfgOf_ok p0) fun g H5 x5 rg _ => ?_)
  have x05 : Ext H H5 := ((x1.trans x2).trans (x3.keepB kp4 f3)).trans x5
  have ok := cfgOf_ok p0
  have r5 := r4.ext x5
  generalize cfgOf p0 = c at ok r5 rg
  have n1 := ok.2.2.1; have n2 := ok.2.2.2.1
  obtain ⟨N, hN⟩ := Int.eq_ofNat_of_zero_le (show 0 ≤ c.2.1 by omega)
  refine mJoin_intro (mIf_neg rfl (mJoin_intro (mIf_neg rfl (ld_row (x := c.2.1) r5 rfl ?_))))
  have wake : mIf true (mJoin (fun (s35 : Bool) (H37 : PH) => mJoin (fun (s40 : Bool) (H42 : PH) => DoneD H s40 H42) fun j41 => mIf s35 (keelsonlaw12_awake H37 fun y45 H44 => j41 y45 H44) (j41 false H37)) fun j36 => mIf ((0 : Int) == 0) (j36 (!(Option.isNone (some g))) H5) (j36 false H5)) False := mIf_pos rfl (mJoin_intro (mIf_pos rfl (mJoin_intro (mIf_pos rfl (hawake H5 x05)))))
  refine mJoin_intro (mIf_intro (fun _ => mIf_pos rfl (mJoin_intro (mIf_pos rfl (mJoin_intro (mIf_pos rfl (hawake H5 x05)))))) (fun c1 => ld_row (x := c.2.1) r5 rfl ?_))
  refine mIf_intro (fun _ => mJoin_intro (mIf_pos rfl (mJoin_intro (mIf_pos rfl (hawake H5 x05))))) (fun c2 => ?_)
  have k1 : N ≤ l1.length := by simp at c1; omega
  have k2 : N ≤ l2.length := by simp at c2; omega
  refine S_row (Stars.start H5) fun a46 H6 h6 x6 => ?_
  have h6' := h6.nilN (enc := encU) (sz := 2)
  have cx : ∀ {H' L}, Stars H' (baseO H5 :: L) → RowAt H' a8 (cfgL c) := fun h => r5.ext h.base
  have hx : ∀ {H' L}, Stars H' (baseO H5 :: L) → Ext H H' := fun h => x05.trans h.base
  refine mLoop_count N (fun k st Hk => st.2 = (k : Int) ∧ ∃ ul, ul.length = k ∧ (∀ u, u ∈ ul → okU u = true) ∧ Stars Hk [baseO H5, rowO a46 [.int .i64 (cnt 0 ul), .int .i64 (cnt 1 ul), .int .i64 (cnt 2 ul)], vecNO encU 2 st.1 ul]) ⟨rfl, [], rfl, fun u hu => by simp at hu, h6'⟩ ?_
  clear h6' h6 x6
  rintro k ⟨q, st⟩ H7 again hk ⟨e, ul, hul, hok, h7⟩ hag
  simp only at e h7
  subst e
  refine ld_row (x := c.2.1) (cx h7) rfl ?_
  rw [hN]
  refine mIf_intro (fun c3 => ?_) (fun c3 => ?_)
  · have hkN : k < N := by simpa using c3
    refine mJoin_intro (idx_ld3 (h1.ext (hx h7)) (by omega) (by omega) fun b1 x hx1 _ => idx_ld3 (h2.ext (hx h7)) (by omega) (by omega) fun b2 y hy2 hcb => round_spec (by decide) (by decide) ⟨hcb H7 l2 y (h2.ext (hx h7)) hy2, round_spec (by decide) (by decide) ?_⟩)
    have q0 := Int.emod_nonneg x (show (3 : Int) ≠ 0 by decide)
    have q1 := Int.emod_lt_of_pos x (show (0 : Int) < 3 by decide)
    have w0 := Int.emod_nonneg y (show (2147483647 : Int) ≠ 0 by decide)
    have w1 := Int.emod_lt_of_pos y (show (0 : Int) < 2147483647 by decide)
    generalize x % 3 = sx at q0 q1
    generalize y % 2147483647 = sy at w0 w1
    refine S_row h7 fun a90 H8 h8 x8 => st_row (vs := encU (sx, sy)) (h8.get 3 rfl) rfl rfl fun H9 r9 k9 => ?_
    have h9 : Stars H9 [baseO H5, rowO a46 [.int .i64 (cnt 0 ul), .int .i64 (cnt 1 ul), .int .i64 (cnt 2 ul)], vecNO encU 2 q ul, rowO a90 (encU (sx, sy))] :=
      h8.turn (O' := rowO a90 (encU (sx, sy))) 3 rfl r9 (fun c hc => .inl hc) fun c o hc hn => k9 c o hc hn
    refine ldr_row (x := (sx, sy)) r9 rfl (S_new1N (enc := encU) (sz := 2) (x := (sx, sy)) h9 rfl fun q1 H10 h10 x10 => ?_)
    have v10 : VecN encU 2 H10 q1 [(sx, sy)] := h10.get 4 rfl
    refine S_appN lenU (by decide) (ys := [(sx, sy)]) h10 2 rfl (v10.cells lenU (by decide)) v10.len cvU rfl (by rw [hul, List.length_singleton]; omega) fun q2 H11 h11 => ?_
    have cok := cnt_le sx ul
    refine S_ld (enc := Value.int .i64) (x := sx) h11 3 rfl rfl (idxA_arr q0 (by omega) ?_)
    have hc3 : [Value.int .i64 (cnt 0 ul), .int .i64 (cnt 1 ul), .int .i64 (cnt 2 ul)][sx.toNat]? = some (.int .i64 (cnt sx ul)) := by
      have : sx = 0 ∨ sx = 1 ∨ sx = 2 := by omega
      rcases this with rfl | rfl | rfl <;> rfl
    refine S_ld (enc := Value.int .i64) (x := (cnt sx ul : Int)) h11 1 rfl hc3 (idxA_arr q0 (by omega) ?_)
    rw [wrap_succ (k := cnt sx ul) (by omega)]
    refine S_st h11 1 rfl (by show sx.toNat < 3; omega) rfl fun H12 h12 => ?_
    rw [wrap_succ (k := k) (by omega)]
    refine hag hkN _ _ ⟨rfl, ul ++ [(sx, sy)], by simp [hul], fun u hu => ?_, ?_⟩
    · rcases List.mem_append.1 hu with h | h
      · exact hok u h
      · simp at h; subst h; simp [okU]; omega
    · have e3 : [Value.int .i64 (cnt 0 ul), .int .i64 (cnt 1 ul), .int .i64 (cnt 2 ul)].set sx.toNat (.int .i64 ((cnt sx ul + 1 : Nat) : Int)) = [Value.int .i64 (cnt 0 (ul ++ [(sx, sy)])), .int .i64 (cnt 1 (ul ++ [(sx, sy)])), .int .i64 (cnt 2 (ul ++ [(sx, sy)]))] := by
        simp only [cnt_app]
        have : sx = 0 ∨ sx = 1 ∨ sx = 2 := by omega
        rcases this with rfl | rfl | rfl <;> rfl
      rw [e3] at h12
      exact h12.pick [0, 1, 2] (by decide) rfl (by simp)
  have hkN : k = N := by simp at c3; omega
  subst hkN
  clear hag again
  have hs7 : VecN encU 2 H7 q ul := h7.get 2 rfl
  have hulc : (ul.length : Int) = c.2.1 := by omega
  -- the list is not turned any more
  obtain ⟨B0, xB0, vB0, h8⟩ := (show Stars H7 (baseO H5 :: [rowO a46 [.int .i64 (cnt 0 ul), .int .i64 (cnt 1 ul), .int .i64 (cnt 2 ul)]] ++ [vecNO encU 2 q ul]) from h7).freeze
  have lB0 : ListN encU 2 B0 q ul := VecN.listN lenU (show VecN encU 2 B0 q ul from vB0)
  refine tnew_froz h8 ⟨g, rfl, rg.ext (xB0.trans h8.base)⟩ ok (lB0.ext h8.base) (.inr hulc) hok fun B1 a s t H9 xB1 ra h9 => mIf_neg rfl ?_
  have ei : iniL c.2.1.toNat ul = ul := by
    rw [iniL, List.drop_of_length_le (by rw [List.length_replicate]; omega), List.append_nil]
  rw [ei] at h9
  have h9' : Stars H9 [baseO B1, rowO a46 [.int .i64 (cnt 0 ul), .int .i64 (cnt 1 ul), .int .i64 (cnt 2 ul)], vecNO encU 2 s ul, vecO (Value.int .i64) t (List.replicate c.2.1.toNat 0)] := h9
  have hs9 : VecN encU 2 H9 s ul := h9'.get 2 rfl
  have hrl : (List.replicate c.2.1.toNat (0 : Int)).length = ul.length := by rw [List.length_replicate]; omega
  have hn30 : ul.length < 2 ^ 30 := by omega
  refine uses_spec (ra.ext h9'.base) (hs9.listN lenU) (h9'.list 3 rfl) hrl hn30 fun q2 H10 h10 => ?_
  have h10' := h9'.over h10
  have hs10 : VecN encU 2 H10 q2 ul := h10'.get 4 rfl
  refine tnew_froz h10' ⟨g, rfl, rg.ext (xB0.trans (xB1.trans h10'.base))⟩ ok (hs10.listN lenU) (.inr hulc) hok fun B a2 s2' t2 H11 xB2 rb h11 => mIf_neg rfl ?_
  rw [ei] at h11
  have h11' : Stars H11 [baseO B, rowO a46 [.int .i64 (cnt 0 ul), .int .i64 (cnt 1 ul), .int .i64 (cnt 2 ul)], vecNO encU 2 s ul, vecO (Value.int .i64) t (List.replicate c.2.1.toNat 0), vecNO encU 2 q2 ul, vecNO encU 2 s2' ul, vecO (Value.int .i64) t2 (List.replicate c.2.1.toNat 0)] := h11
  have xBB : Ext H B := x05.trans (xB0.trans (xB1.trans xB2))
  have cellc : ∀ {H' L' i v}, Stars H' L' → L'[1]? = some (rowO a46 [.int .i64 (cnt 0 ul), .int .i64 (cnt 1 ul), .int .i64 (cnt 2 ul)]) → [Value.int .i64 (cnt 0 ul), .int .i64 (cnt 1 ul), .int .i64 (cnt 2 ul)][i]? = some v → cellAt H' (a46.add i) = some v := fun {H' L' i v} h hi hj => (h.get 1 hi : RowAt H' a46 _).cell hj
  have hs11 : VecN encU 2 H11 s ul := h11'.get 2 rfl
  have hs11b : VecN encU 2 H11 s2' ul := h11'.get 5 rfl
  refine idxA_arr (by decide) (by decide) ⟨_, cellc h11' rfl rfl, free_spec ((ra.ext xB2).ext h11'.base) (hs11.listN lenU) (by omega) fun H12 x12 => ?_⟩
  have h12 := h11'.ext x12
  refine ⟨cellc h12 rfl rfl, mJoin_intro (mIf_pos (by simp [freeN, cnt]) (idxA_arr (by decide) (by decide) ⟨_, cellc h12 rfl rfl, sealed_spec ((ra.ext xB2).ext h12.base) ((hs11.listN lenU).ext x12) hn30 fun q13 H13 h13 => ?_⟩))⟩
  have l13 := (h13.list (enc := Value.int .i64) 1 rfl).lenI
  have tk : (sealI ul).take (99 : Int).toNat = sealI ul := List.take_of_length_le (by rw [sealI_cnt]; have := cnt_le 2 ul; show cnt 2 ul ≤ 99; omega)
  rw [tk, sealI_cnt] at l13
  have h13' := (h12.over h13).pick [0, 1, 5, 6] (L' := [baseO B, rowO a46 [.int .i64 (cnt 0 ul), .int .i64 (cnt 1 ul), .int .i64 (cnt 2 ul)], vecNO encU 2 s2' ul, vecO (Value.int .i64) t2 (List.replicate c.2.1.toNat 0)]) (by decide) rfl (by simp)
  have hs13 : VecN encU 2 H13 s2' ul := h13'.get 2 rfl
  refine ⟨cellc h13' rfl rfl, mJoin_intro (mIf_pos (by rw [l13]; exact beq_self_eq_true _) (uses_spec (rb.ext h13'.base) (hs13.listN lenU) (h13'.list 3 rfl) hrl hn30 fun q14 H14 h14 => ?_))⟩
  have hs14 : VecN encU 2 H14 q14 ul := h14.get 1 rfl
  have h14' := (h13'.over h14).pick [0, 1, 2, 3] (L' := [baseO B, rowO a46 [.int .i64 (cnt 0 ul), .int .i64 (cnt 1 ul), .int .i64 (cnt 2 ul)], vecNO encU 2 s2' ul, vecO (Value.int .i64) t2 (List.replicate c.2.1.toNat 0)]) (by decide) rfl (by simp)
  refine useq_spec (hs14.listN lenU) (lB0.ext ((xB1.trans xB2).trans h14'.base)) (by omega) ?_
  rw [decide_eq_true rfl]
  refine mJoin_intro (mIf_pos rfl (idxA_arr (by decide) (by decide) ⟨_, cellc h14' rfl rfl, release_spec h14' rb 1 2 rfl rfl (by decide) hrl hn30 fun q15 H15 h15 => ?_⟩))
  have h15' : Stars H15 [baseO B, rowO a46 [.int .i64 (cnt 0 ul), .int .i64 (cnt 1 ul), .int .i64 (cnt 2 ul)], vecNO encU 2 s2' (relL ul (List.replicate c.2.1.toNat 0)), vecO (Value.int .i64) t2 (List.replicate c.2.1.toNat 0), vecO (Value.int .i64) q15 (outL ul (List.replicate c.2.1.toNat 0))] := h15
  have l15 := (h15'.list (enc := Value.int .i64) 4 rfl).lenI
  rw [out_seal, sealI_cnt] at l15
  have hs15 : VecN encU 2 H15 s2' _ := h15'.get 2 rfl
  refine ⟨cellc h15' rfl rfl, mJoin_intro (mIf_pos (by rw [l15]; exact beq_self_eq_true _) (idxA_arr (by decide) (by decide) ⟨_, cellc h15' rfl rfl, idxA_arr (by decide) (by decide) ⟨_, cellc h15' rfl rfl, free_spec (rb.ext h15'.base) (hs15.listN lenU) (by rw [relL, relTo_len]; omega) fun H16 x16 => ?_⟩⟩))⟩
  have h16 := h15'.ext x16
  have ef : freeN (relL ul (List.replicate c.2.1.toNat 0)) = cnt 0 ul + cnt 2 ul := by
    rw [relL, free_relG _ _ _ (Nat.le_refl _)]
    show cnt 0 ul + (outL ul (List.replicate c.2.1.toNat 0)).length = _
    rw [out_seal, sealI_cnt]
  have c0' := cnt_le 0 ul; have c2' := cnt_le 2 ul
  refine ⟨cellc h16 rfl rfl, ⟨cellc h16 rfl rfl, mJoin_intro (mIf_pos ?_ (hawake H16 (xBB.trans h16.base)))⟩⟩
  rw [ef, wrap64_id (by omega) (by omega)]
  simp
end Go.Proofs.Ytmgmjcjpmfdboaa

/- THE LAW DiskSafe, on formulas. -/
import Derived.Test.YtdoldlinaghfbaaDiskT
set_option linter.unusedVariables false
set_option linter.unusedSimpArgs false
namespace Go.Proofs.Ytdoldlinaghfbaa
open Go Go.Kx

theorem safe_law {H : PH} {s0 s1 s2 : Sl} {l0 l1 m : List Int} (h0 : Ints H s0 l0) (h1 : Ints H s1 l1) (h2 : Ints H s2 m) : keelsonlaw3_DiskSafe s0 s1 s2 H (DoneD H) := by
  have hawake : ∀ H2, Ext H H2 → keelsonlaw3_awake H2 (DoneD H) := fun H2 x2 => awake_spec fun H3 x3 => ⟨rfl, x2.trans x3⟩
  have hl0 := h0.lenI; have hl1 := h1.lenI; have hl2 := h2.lenI
  refine mJoin_intro (mIf_intro (fun _ => mJoin_intro (mIf_pos rfl (mIf_pos rfl (hawake H (.refl H))))) (fun c0 => mJoin_intro (mIf_intro (fun _ => mIf_pos rfl (hawake H (.refl H))) (fun c1 => mIf_intro (fun _ => hawake H (.refl H)) (fun c2 => ?_)))))
  have k0 : l0.length ≤ 30 := by simp at c0; omega
  have k1 : l1.length ≤ 30 := by simp at c1; omega
  refine S_new (fun h => absurd ⟨by decide, by decide⟩ h) fun _ A H1 h1s => mJoin_intro (mIf_neg rfl (mIf_neg rfl ?_))
  have g0 : Good 8 0 (fresh 8) := Good.fresh (by decide)
  refine S_row h1s fun a23 H2 h2s x2 => S_row h2s fun a26 H3 h3s x3 => ?_
  have h3' : Stars H3 [baseO H, diskO A (fresh 8), rowO a23 (slots (List.replicate 8 Sl.nil)), rowO a26 (slots (List.replicate 8 Sl.nil))] := h3s
  -- the zero rows
  refine mLoop_count 8 (fun k st Hk => st = (k : Int) ∧ ∃ B old, Ext H B ∧ old.length = 8 ∧ (∀ i, i < k → ∃ s, old[i]? = some s ∧ Bytes B s zeroB.1) ∧ Stars Hk [baseO B, diskO A (fresh 8), rowO a23 (slots old), rowO a26 (slots (List.replicate 8 Sl.nil))])
    ⟨rfl, H, _, .refl H, rfl, fun i hi => absurd hi (by omega), h3'⟩ ?_
  rintro k st H4 again hk ⟨rfl, B, old, xB, ol, hold, h4⟩ hag
  refine mIf_intro (fun c => ?_) (fun c => ?_)
  · have hk8 : k < 8 := by simp at c; omega
    refine S_mk (enc := Value.int .u8) (x := 0) (n := 64) h4 (by decide) (by decide) fun q H5 h5 x5 => idxA_slots (by omega) (by omega) ?_
    rw [Int.toNat_natCast]
    refine S_st h5 2 rfl (by simp [slots, ol]; omega) rfl fun H6 h6 => ?_
    rw [slots_set] at h6
    have h6' : Stars H6 (baseO B :: [diskO A (fresh 8), rowO a23 (slots (old.set k q)), rowO a26 (slots (List.replicate 8 Sl.nil))] ++ [vecO (Value.int .u8) q (List.replicate (64 : Int).toNat 0)]) := h6
    obtain ⟨B', xB', vB, h7⟩ := h6'.freeze
    have vB' : Vec (Value.int .u8) B' q zeroB.1 := vB
    rw [wrap_succ (by omega)]
    refine hag hk8 _ _ ⟨rfl, B', old.set k q, xB.trans xB', by simp [ol], fun i hi => ?_, h7⟩
    by_cases e : k = i
    · subst e; exact ⟨q, by rw [List.getElem?_set_self (by omega)], vB'.list⟩
    · obtain ⟨s, e1, e2⟩ := hold i (by omega)
      exact ⟨s, by rw [List.getElem?_set_ne e, e1], e2.ext xB'⟩
  have hk8 : k = 8 := by simp at c; omega
  subst hk8
  have ro : RowsAt B old (fresh 8).now := by
    refine ⟨by rw [ol]; rfl, fun i s b e1 e2 => ?_⟩
    have hi := (List.getElem?_eq_some_iff.1 e1).1
    obtain ⟨s', e3, e4⟩ := hold i (by omega)
    rw [e1] at e3; cases e3
    have : (fresh 8).now[i]? = some zeroB := by show (List.replicate 8 zeroB)[i]? = _; rw [List.getElem?_replicate, if_pos (by omega)]
    rw [e2] at this; cases this; exact e4
  clear hold hag
  -- the old ones
  refine mLoop_count l0.length (fun k st Hk => st = (k : Int) ∧ ∃ B A' D old, A'.a = A.a ∧ Ext H B ∧ Good 8 k D ∧ D.off = false ∧ D.fuse = -1 ∧ D.faults = List.replicate 8 false ∧ RowsAt B old D.now ∧ Stars Hk [baseO B, diskO A' D, rowO a23 (slots old), rowO a26 (slots (List.replicate 8 Sl.nil))])
    ⟨rfl, B, A, _, old, rfl, xB, g0, rfl, rfl, rfl, ro, h4⟩ ?_
  clear h4 xB ro ol c hk
  clear B old again
  rintro k st H4 again hk ⟨rfl, B, A1, D, old, ea, xB, g, hoff, hfu, hfa, ro, h4⟩ hag
  rw [← ea]
  refine mIf_intro (fun c => ?_) (fun c => ?_)
  · have hkl : k < l0.length := by simp at c; omega
    refine idx_ld (h0.ext (xB.trans h4.base)) (by omega) (by omega) fun x hx => round_spec (by decide) (by decide) ?_
    have q0 := Int.emod_nonneg x (show (8 : Int) ≠ 0 by decide)
    have q1 := Int.emod_lt_of_pos x (show (0 : Int) < 8 by decide)
    obtain ⟨i, hi⟩ := Int.eq_ofNat_of_zero_le q0
    rw [hi]
    have hi8 : i < 8 := by omega
    have ol : old.length = 8 := by rw [ro.1, g.len]
    generalize hfx : IntKind.wrap .i64 ((k : Int) + 1) = fx
    refine S_fill (x := fx) h4 fun q H5 h5 x5 => idxA_slots (by omega) (by omega) ?_
    rw [Int.toNat_natCast]
    refine S_st h5 2 rfl (by simp [slots, ol]; omega) rfl fun H6 h6 => idxA_slots (by omega) (by omega) ?_
    rw [Int.toNat_natCast]
    rw [slots_set] at h6
    have h6' : Stars H6 [baseO B, diskO A1 D, rowO a23 (slots (old.set i q)), rowO a26 (slots (List.replicate 8 Sl.nil)), vecO (Value.int .u8) q (fillB fx).1] := h6
    refine S_ld (x := q) h6' 2 rfl (slots_get (by rw [List.getElem?_set_self (by omega)])) ?_
    have hin : i < D.now.length := by rw [g.len]; exact hi8
    obtain ⟨w1, w2, w3⟩ := wr_live (b := fillB fx) hoff hfu hin
    obtain ⟨v1, v2, v3, v4⟩ := wr_held (b := fillB fx) hoff hfu hin
    refine S_write (i := 1) (j := 4) h6' rfl g.small rfl (by decide) (by rw [(fillB fx).2]; decide) fun A2 H7 ea2 h7 => ?_
    rw [w1]
    refine mIf_neg rfl ?_
    have h7' : Stars H7 (baseO B :: [diskO A2 (D.wr i (fillB fx).1).1, rowO a23 (slots (old.set i q)), rowO a26 (slots (List.replicate 8 Sl.nil))] ++ [vecO (Value.int .u8) q (fillB fx).1]) := h7
    obtain ⟨B', xB', vB, h8⟩ := h7'.freeze
    have vB' : Vec (Value.int .u8) B' q (fillB fx).1 := vB
    refine hag hkl _ _ ⟨?_, B', A2, _, old.set i q, ea2.trans ea, xB.trans xB', g.wr (by omega), w2, w3, by rw [v4]; exact hfa, by rw [v3]; exact (ro.ext xB').set i vB'.list, h8⟩
    rw [← hfx, wrap_succ (by omega)]
  have hk8 : k ≤ 30 := by omega
  clear hag
  obtain ⟨b1, b2⟩ := flush_live (D := D) hoff hfu
  refine S_flush (i := 1) h4 rfl g.small fun A2 H5 ea2 h5 => ?_
  have e1 : D.fl.2 = 0 := by show (if D.act.2 then (0 : Int) else 3) = 0; rw [if_pos b1]
  rw [e1, ← ea2]
  refine mIf_neg rfl ?_
  have gf := g.fl (by omega)
  have ef : D.fl.1 = ⟨putAll D.safe D.held, D.now, [], D.faults, -1, D.acts + 1, false⟩ := b2
  have ro2 : RowsAt B old D.fl.1.safe := by rw [ef]; show RowsAt B old (putAll D.safe D.held); rw [← g.now]; exact ro
  have d2 : D.fl.1.off = false ∧ D.fl.1.fuse = -1 ∧ D.fl.1.faults = List.replicate 8 false ∧ D.fl.1.held = [] := by rw [ef]; exact ⟨rfl, rfl, hfa, rfl⟩
  have gf' : Good 8 31 D.fl.1 := gf.mono (by omega)
  have s8 : D.fl.1.safe.length = 8 := by rw [gf'.small.safe]; exact gf'.len
  generalize D.fl.1 = D2 at *
  obtain ⟨hoff2, hfu2, hfa2, hhe2⟩ := d2
  refine S_row h5 fun a69 H6 h6 x6 => ?_
  have h6' : Stars H6 ([baseO B, diskO A2 D2, rowO a23 (slots old), rowO a26 (slots (List.replicate 8 Sl.nil)), rowO a69 (slots ((List.replicate 8 (Sl.nil, ([] : List Sl))).map (·.1)))] ++ amongO (List.replicate 8 (Sl.nil, []))) :=
    (((((((h6.nilv (enc := Sl.v)).nilv (enc := Sl.v)).nilv (enc := Sl.v)).nilv (enc := Sl.v)).nilv (enc := Sl.v)).nilv (enc := Sl.v)).nilv (enc := Sl.v)).nilv (enc := Sl.v)
  -- the new ones
  generalize hB0 : B = B0 at h6' ro2 xB
  refine mLoop_count l1.length (fun k st Hk => st = (k : Int) ∧ ∃ B A' D nw xs, A'.a = A2.a ∧ Ext B0 B ∧ Good 8 (31 + k) D ∧ D.off = false ∧ D.fuse = -1 ∧ D.faults = List.replicate 8 false ∧ D.safe = D2.safe ∧ nw.length = 8 ∧ xs.length = 8 ∧
      (∀ (i : Nat) (x : Sl × List Sl), xs[i]? = some x → x.2.length ≤ k ∧ ∃ bl, RowsAt B x.2 bl ∧ AmongOk D.held i bl) ∧
      Stars Hk ([baseO B, diskO A' D, rowO a23 (slots old), rowO a26 (slots nw), rowO a69 (slots (xs.map (·.1)))] ++ amongO xs))
    ⟨rfl, B0, A2, D2, List.replicate 8 Sl.nil, List.replicate 8 (Sl.nil, []), rfl, .refl B0, gf', hoff2, hfu2, hfa2, rfl, rfl, rfl, fun i x hx => ?_, h6'⟩ ?_
  · rw [List.getElem?_replicate] at hx
    split at hx
    · cases hx
      exact ⟨Nat.zero_le _, [], ⟨rfl, fun i s b h _ => by simp at h⟩, fun j w hw _ => by rw [hhe2] at hw; simp at hw⟩
    · cases hx
  clear h6 h6' h5 h4 hk c again ef b2 b1 e1 ro g hoff hfu hfa gf ea ea2
  clear hB0 hfu2 hfa2 hoff2 hhe2 B D
  rintro k st H4 again hk ⟨rfl, B, A3, D, nw, xs, ea, xB2, g, hoff, hfu, hfa, hsf, nl, xl, hxs, h4⟩ hag
  rw [← ea]
  refine mIf_intro (fun c => ?_) (fun c => ?_)
  · have hkl : k < l1.length := by simp at c; omega
    refine idx_ld (h1.ext ((xB.trans xB2).trans h4.base)) (by omega) (by omega) fun x hx => round_spec (by decide) (by decide) ?_
    have q0 := Int.emod_nonneg x (show (8 : Int) ≠ 0 by decide)
    have q1 := Int.emod_lt_of_pos x (show (0 : Int) < 8 by decide)
    obtain ⟨i, hi⟩ := Int.eq_ofNat_of_zero_le q0
    rw [hi]
    have hi8 : i < 8 := by omega
    generalize IntKind.wrap .i64 (100 + (k : Int)) = fx at *
    refine S_fill (x := fx) h4 fun q H5 h5 x5 => idxA_slots (by omega) (by omega) ?_
    rw [Int.toNat_natCast]
    refine S_st h5 3 rfl (by simp [slots, nl]; omega) rfl fun H6 h6 => idxA_slots (by omega) (by omega) ?_
    rw [Int.toNat_natCast]
    rw [slots_set] at h6
    have h6' : Stars H6 ([baseO B, diskO A3 D, rowO a23 (slots old), rowO a26 (slots (nw.set i q)), rowO a69 (slots (xs.map (·.1)))] ++ amongO xs ++ [vecO (Value.int .u8) q (fillB fx).1]) := h6
    obtain ⟨y, hy⟩ : ∃ y, xs[i]? = some y := ⟨_, List.getElem?_eq_getElem (by omega)⟩
    obtain ⟨hy1, bl, hy2, hy3⟩ := hxs i y hy
    have gy : (slots (xs.map (·.1)))[i]? = some (Sl.v y.1) := slots_get (by simp [hy])
    have gq : (slots (nw.set i q))[i]? = some (Sl.v q) := slots_get (by rw [List.getElem?_set_self (by omega)])
    have al := amongO_len xs
    refine S_ld (x := y.1) h6' 4 rfl gy (idxA_slots (by omega) (by omega) ?_)
    rw [Int.toNat_natCast]
    refine S_ld (x := q) h6' 3 rfl gq (S_new1 (enc := Sl.v) (x := q) h6' fun r H7 h7 x7 => S_same h7 4 rfl gy ?_)
    have h7' : Stars H7 ([baseO B, diskO A3 D, rowO a23 (slots old), rowO a26 (slots (nw.set i q)), rowO a69 (slots (xs.map (·.1)))] ++ amongO xs ++ [vecO (Value.int .u8) q (fillB fx).1, vecO Sl.v r [q]]) := by
      rw [List.append_assoc] at h7; exact h7
    refine S_app (l := y.2) (ys := [q]) h7' (5 + i) ((get_mid _ _ _ i (by omega)).trans (amongO_get hy)) (h7'.list (5 + 8 + 1) ?_) cvSl rfl (by rw [List.length_singleton]; omega) fun r2 H8 h8 => idxA_slots (by omega) (by omega) ?_
    · rw [List.getElem?_append_right (by simp [al, xl])]; simp [al, xl]
    rw [Int.toNat_natCast]
    rw [show (5 + i) = [baseO B, diskO A3 D, rowO a23 (slots old), rowO a26 (slots (nw.set i q)), rowO a69 (slots (xs.map (·.1)))].length + i from rfl, set_mid _ _ _ _ _ (by omega), amongO_set xs i (r2, y.2 ++ [q])] at h8
    refine S_st h8 4 rfl (by simp [slots, xl]; omega) rfl fun H9 h9 => idxA_slots (by omega) (by omega) ?_
    rw [Int.toNat_natCast]
    rw [slots_set] at h9
    have em : (xs.map (·.1)).set i r2 = (xs.set i (r2, y.2 ++ [q])).map (·.1) := by rw [List.map_set]
    rw [em] at h9
    generalize hxs' : xs.set i (r2, y.2 ++ [q]) = xs' at h9
    have xl' : xs'.length = 8 := by rw [← hxs']; simp [xl]
    have al' := amongO_len xs'
    have h9' : Stars H9 (([baseO B, diskO A3 D, rowO a23 (slots old), rowO a26 (slots (nw.set i q)), rowO a69 (slots (xs'.map (·.1)))] ++ amongO xs' ++ [vecO (Value.int .u8) q (fillB fx).1]) ++ [vecO Sl.v r [q]]) := by
      rw [List.append_assoc _ [_] [_]]; exact h9
    have h10 := h9'.init
    refine S_ld (x := q) h10 3 rfl gq ?_
    have hin : i < D.now.length := by rw [g.len]; exact hi8
    obtain ⟨w1, w2, w3⟩ := wr_live (b := fillB fx) hoff hfu hin
    obtain ⟨v1, v2, v3, v4⟩ := wr_held (b := fillB fx) hoff hfu hin
    refine S_write (i := 1) (j := 5 + 8) h10 rfl g.small ?_ (by decide) (by rw [(fillB fx).2]; decide) fun A4 H11 ea4 h11 => ?_
    · rw [List.getElem?_append_right (by simp [al', xl'])]; simp [al', xl']
    rw [w1]
    refine mIf_neg rfl ?_
    have h11' : Stars H11 (baseO B :: ([diskO A4 (D.wr i (fillB fx).1).1, rowO a23 (slots old), rowO a26 (slots (nw.set i q)), rowO a69 (slots (xs'.map (·.1)))] ++ amongO xs') ++ [vecO (Value.int .u8) q (fillB fx).1]) := h11
    obtain ⟨B', xB', vB, h12⟩ := h11'.freeze
    have vB' : Vec (Value.int .u8) B' q (fillB fx).1 := vB
    refine hag hkl _ _ ⟨?_, B', A4, _, nw.set i q, xs', ea4.trans ea, xB2.trans xB', g.wr (by omega), w2, w3, by rw [v4]; exact hfa, by rw [v2]; exact hsf, by simp [nl], xl', fun j z hz => ?_, h12⟩
    · rw [wrap_succ (by omega)]
    · rw [v1]
      subst hxs'
      by_cases e : i = j
      · subst e
        rw [List.getElem?_set_self (by omega)] at hz
        cases hz
        exact ⟨by simp; omega, bl ++ [fillB fx], (hy2.ext xB').snoc vB'.list, hy3.snoc⟩
      · rw [List.getElem?_set_ne e] at hz
        obtain ⟨z1, bz, z2, z3⟩ := hxs j z hz
        exact ⟨by omega, bz, z2.ext xB', z3.other e⟩
  have hn0 : 0 < D.now.length := by rw [g.len]; decide
  refine S_crash (m := m) (h4.get 1 rfl) g.small hn0 (h2.ext ((xB.trans xB2).trans h4.base)) fun A5 H5 h5 => ?_
  have x5 := h5.base
  have d5 : DiskAt H5 A5 (D.crash m) := h5.get 1 rfl
  refine mJoin_intro (mIf_neg rfl (held_spec d5 (mJoin_intro (mIf_neg rfl (acts_spec d5 (mJoin_intro (mIf_neg rfl (off_spec d5 (mIf_neg rfl ?_)))))))))
  have al := amongO_len xs
  refine safe_tail d5 ((g.crash m).mono (by omega)) hfa (by rw [hsf]; exact s8) ((h4.get 2 rfl : RowAt H4 a23 (slots old)).ext x5) ((h4.get 4 rfl : RowAt H4 a69 (slots (xs.map (·.1)))).ext x5) xl (by rw [hsf]; exact ro2.ext xB2) (fun i x hx => ?_) (h4.base.trans x5) ((xB.trans xB2).trans (h4.base.trans x5))
  obtain ⟨z1, bz, z2, z3⟩ := hxs i x hx
  have hi := (List.getElem?_eq_some_iff.1 hx).1
  exact ⟨(h4.list (enc := Sl.v) (5 + i) (by rw [List.getElem?_append_right (by simp)]; simp; exact amongO_get hx)).ext x5, by omega, bz, z2, z3⟩
end Go.Proofs.Ytdoldlinaghfbaa

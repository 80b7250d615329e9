/- THE DOCUMENT's DISK: Write, Read, Flush, Fuse, Fault. -/
import Derived.Test.YtdoldlinaghfbaaDiskL
set_option linter.unusedVariables false
set_option linter.unusedSimpArgs false
namespace Go.Proofs.Ytdoldlinaghfbaa
open Go Go.Kx

section
variable {H : PH} {L : List Ob} {i : Nat} {m : RM} {D : Dk} {B : PH}
theorem rsmall_len (r : Rows' B m D) (sm : Small D) (h : RdAt H m D) : (m.s.len : Int) = D.now.length := by
  rw [h.safe.list.lenI, r.sl, sm.safe]
theorem part_spec {p : Sl} {l : List Int} {Q : Sl → PH → Prop} (hp : Bytes H p l) (hl : l.length ≤ 2 ^ 40) (hQ : ∀ r H', Stars H' [baseO H, vecO (Value.int .u8) r l] → Q r H') : keelsonref1_Part p 0 (p.len : Int) H Q := by
  have e := hp.lenI
  have ew : IntKind.wrap .i64 ((p.len : Int) - 0) = (l.length : Int) := by rw [wrap64_id (by omega) (by omega)]; omega
  unfold keelsonref1_Part
  rw [ew, e]
  refine S_mk (enc := Value.int .u8) (x := 0) (Stars.start H) (by omega) (by omega) fun r H1 h1 x1 => cut_list (hp.ext x1) (by decide) (by omega) (by omega) fun q lq _ => ?_
  rw [Int.toNat_natCast, Int.toNat_zero, List.drop_zero, Nat.sub_zero, List.take_length] at lq
  rw [Int.toNat_natCast] at h1
  refine S_copy h1 1 rfl lq cvU fun x2 H2 h2 => hQ r H2 ?_
  have e2 : l.take (List.replicate l.length (0 : Int)).length ++ (List.replicate l.length (0 : Int)).drop l.length = l := by simp
  rw [e2] at h2; exact h2

theorem R_turn {m' : RM} {D' : Dk} {H' : PH} (h : Stars H L) (hi : L[i]? = some (rdO m D)) (d : RdAt H' m' D') (f : ∀ c, m'.foot c → m.foot c ∨ H c = none) (b : ∀ c o, H c = some o → ¬ m.foot c → H' c = some o) : Stars H' (L.set i (rdO m' D')) :=
  h.turn (O' := rdO m' D') i hi d f b
theorem R_fuse {n : Int} {Q : PH → Prop} (h : Stars H L) (hi : L[i]? = some (rdO m D)) (hQ : ∀ H', Stars H' (L.set i (rdO m (D.setFuse n))) → Q H') : keelsonref1_Disk_Fuse (some m.a) n H Q := by
  have d : RdAt H m D := h.get i hi
  refine nil_some (st_cell d.row (by simp [cellsR]) rfl fun H1 r1 k1 => mIf_intro (fun c => ?_) (fun c => ?_))
  · have c' : n < 0 := by simpa using c
    refine nil_some (st_cell r1 (by simp [cellsR]) rfl fun H2 r2 k2 => hQ H2 (R_turn h hi (d.turn (D' := D.setFuse n) ?_ (fun c o hc hn => k2 c o (k1 c o hc hn) hn) rfl) (fun c hc => .inl hc) fun c o hc hn => k2 c o (k1 c o hc fun e => hn (.inl e)) fun e => hn (.inl e)))
    have : max n (-1) = -1 := by omega
    unfold cellsR Dk.setFuse at *
    rw [this]; exact r2
  · have c' : ¬ n < 0 := by simpa using c
    refine hQ H1 (R_turn h hi (d.turn (D' := D.setFuse n) ?_ k1 rfl) (fun c hc => .inl hc) fun c o hc hn => k1 c o hc fun e => hn (.inl e))
    have : max n (-1) = n := by omega
    unfold cellsR Dk.setFuse at *
    rw [this]; exact r1
theorem R_fault {at' : Int} {on : Bool} {Q : Int → PH → Prop} (h : Stars H L) (hi : L[i]? = some (rdO m D)) (r : Rows' B m D) (sm : Small D) (hQ : ∀ H', Stars H' (L.set i (rdO m (D.fa at' on).1)) → Q (D.fa at' on).2 H') : keelsonref1_Disk_Fault (some m.a) at' on H Q := by
  have d : RdAt H m D := h.get i hi
  have hl := rsmall_len r sm d
  have := sm.now
  refine nil_some (ld_row (x := m.s) d.row rfl (within_spec ?_))
  rw [hl, wrap64_id (by omega) (by omega)]
  by_cases h1 : 0 ≤ at' ∧ at' < D.now.length
  · have e : D.fa at' on = (D.fault at'.toNat on, 0) := by rw [Dk.fa, if_pos h1]
    rw [e] at hQ
    have e1 : (decide (0 ≤ at') && decide (at' ≤ (D.now.length : Int) - 1)) = true := by simp; omega
    have hfl := sm.faults
    rw [e1]
    refine mIf_neg rfl (nil_some (ld_row (x := m.f) d.row rfl (put_vec (x := on) d.faults h1.1 (by omega) rfl fun H1 v1 k1 => hQ H1 (R_turn h hi ⟨?_, ?_, ?_, v1, d.ap, d.zl⟩ (fun c hc => .inl hc) fun c o hc hn => k1 c o hc fun hh => hn (.inr (.inr (.inr hh)))))))
    · exact d.row.agree fun c o hc ho => k1 c o ho fun hh => d.ap.af (hc ▸ hh)
    · exact d.safe.agree fun c o hc ho => k1 c o ho fun hh => d.ap.sf c hc hh
    · exact d.held.agree fun c o hc ho => k1 c o ho fun hh => d.ap.hf c hc hh
  · have e : D.fa at' on = (D, 1) := by rw [Dk.fa, if_neg h1]
    rw [e] at hQ
    have e1 : (decide (0 ≤ at') && decide (at' ≤ (D.now.length : Int) - 1)) = false := by simp; omega
    rw [e1]
    exact mIf_pos rfl (hQ H (by rw [set_same hi]; exact h))

theorem R_read {at' : Int} {Q : Sl → Int → PH → Prop} (d : RdAt H m D) (x : Ext B H) (r : Rows' B m D) (sm : Small D) (hn : D.now = putAll D.safe D.held)
    (hQ : ∀ q H', Stars H' [baseO H, vecO (Value.int .u8) q (D.rd at').1] → Q q (D.rd at').2 H') : keelsonref1_Disk_Read (some m.a) at' H Q := by
  have hl := rsmall_len r sm d
  have := sm.now; have hsl := sm.safe; have hfl := sm.faults; have hhl := sm.held
  have nilq : (D.rd at').1 = [] → Q Sl.nil (D.rd at').2 H := fun e => hQ Sl.nil H (by rw [e]; exact (Stars.start H).nilv)
  refine nil_some (ld_row (x := m.s) d.row rfl (within_spec ?_))
  rw [hl, wrap64_id (by omega) (by omega)]
  by_cases h1 : 0 ≤ at' ∧ at' < D.now.length
  · obtain ⟨k, rfl⟩ := Int.eq_ofNat_of_zero_le h1.1
    have e : D.rd k = if D.read k = 0 then ((D.now.getD k zeroB).1, 0) else ([], D.read k) := by rw [Dk.rd, if_pos h1]; rfl
    have e1 : (decide (0 ≤ (k : Int)) && decide ((k : Int) ≤ (D.now.length : Int) - 1)) = true := by simp; omega
    rw [e1]
    refine mIf_neg rfl (nil_some (ld_row (x := D.off) d.row rfl (mIf_intro (fun c => ?_) (fun c => ?_))))
    · have e3 : D.read k = 3 := by rw [Dk.read, c]; rfl
      have e' : D.rd k = ([], 3) := by rw [e, e3]; rfl
      have := nilq (by rw [e'])
      rw [e'] at this; exact this
    refine nil_some (ld_row (x := m.f) d.row rfl (idx_ld d.faults.list (by omega) (by omega) fun y hy => ?_))
    rw [Int.toNat_natCast] at hy
    have hg : D.faults.getD k false = y := by simp [List.getD, hy]
    refine mIf_intro (fun c2 => ?_) (fun c2 => ?_)
    · have e3 : D.read k = 4 := by rw [Dk.read, c, hg, c2]; rfl
      have e' : D.rd k = ([], 4) := by rw [e, e3]; rfl
      have := nilq (by rw [e'])
      rw [e'] at this; exact this
    have e0 : D.read k = 0 := by rw [Dk.read, c, hg, c2]; rfl
    refine nil_some (ld_row (x := m.s) d.row rfl (idx_ld d.safe.list (by omega) (by have := r.sl; omega) fun s0 hs0 => ?_))
    rw [Int.toNat_natCast] at hs0
    have hb0 : Bytes B s0 ((D.safe.getD k zeroB)).1 := by
      have hk : D.safe[k]? = some (D.safe[k]'(by omega)) := by simp
      have := r.s k s0 _ hs0 hk
      simpa [List.getD, hk] using this
    refine mLoop_count D.held.length (fun j st Hk => Hk = H ∧ ∃ s, st = (s, (j : Int)) ∧ Bytes B s (((putAll D.safe (D.held.take j)).getD k zeroB)).1) ⟨rfl, s0, rfl, by simpa [putAll] using hb0⟩ ?_
    rintro j st H1 again hj ⟨rfl, s, rfl, hs⟩ hag
    have hml := r.hl
    refine nil_some (ld_row (x := m.h) d.row rfl ?_)
    rw [d.held.lenI, hml]
    refine mIf_intro (fun c3 => ?_) (fun c3 => ?_)
    · have hjl : j < D.held.length := by simpa using c3
      have ew : IntKind.wrap .i64 ((j : Int) + 1) = ((j + 1 : Nat) : Int) := wrap_succ (by omega)
      refine mJoin_intro (nil_some (ld_row (x := m.h) d.row rfl (idxN d.held (by omega) (by omega) fun a w el => ?_)))
      have hw := el.get
      rw [Int.toNat_natCast] at hw
      have hv : D.held[j]? = some (D.held[j]'hjl) := by simp [hjl]
      generalize D.held[j]'hjl = v at hv
      obtain ⟨w1, w2⟩ := r.h j w v hw hv
      obtain ⟨v0, v1⟩ := sm.at_ v (List.mem_of_getElem? hv)
      have hst : putAll D.safe (D.held.take (j + 1)) = (putAll D.safe (D.held.take j)).set v.1.toNat v.2 := by rw [List.take_add_one, hv]; exact putAll_snoc _ _ _
      have hlen : (putAll D.safe (D.held.take j)).length = D.safe.length := putAll_length _ _
      refine ⟨w.1, el.cell lenP rfl, mIf_intro (fun c4 => ?_) (fun c4 => ?_)⟩
      · have c4' : w.1 = k := by simpa using c4
        refine nil_some (ld_row (x := m.h) d.row rfl (idxN d.held (by omega) (by omega) fun a2 w' el2 => ?_))
        have hw' := el2.get
        rw [Int.toNat_natCast, hw] at hw'
        cases hw'
        refine ⟨w.2, el2.cell lenP rfl, ?_⟩
        rw [ew]
        refine hag hjl _ _ ⟨rfl, w.2, rfl, ?_⟩
        have hvk : v.1.toNat = k := by omega
        rw [hst, hvk]
        simp only [List.getD, List.getElem?_set_self (show k < (putAll D.safe (D.held.take j)).length by omega)]
        exact w2
      · have c4' : ¬ w.1 = k := by simpa using c4
        rw [ew]
        refine hag hjl _ _ ⟨rfl, s, rfl, ?_⟩
        have hvk : v.1.toNat ≠ k := by omega
        rw [hst]
        simp only [List.getD, List.getElem?_set_ne hvk]
        exact hs
    · have : j = D.held.length := by simp at c3; omega
      subst this
      rw [List.take_length, ← hn] at hs
      refine part_spec (hs.ext x) (by rw [(D.now.getD k zeroB).2]; decide) fun q H2 h2 => ?_
      have e' : D.rd k = ((D.now.getD k zeroB).1, 0) := by rw [e, if_pos e0]
      have := hQ q H2 (by rw [e']; exact h2)
      rw [e'] at this; exact this
  · have e : D.rd at' = ([], 1) := by rw [Dk.rd, if_neg h1]
    have e1 : (decide (0 ≤ at') && decide (at' ≤ (D.now.length : Int) - 1)) = false := by simp; omega
    rw [e1]
    refine mIf_pos rfl ?_
    have := nilq (by rw [e])
    rw [e] at this; exact this
end
end Go.Proofs.Ytdoldlinaghfbaa

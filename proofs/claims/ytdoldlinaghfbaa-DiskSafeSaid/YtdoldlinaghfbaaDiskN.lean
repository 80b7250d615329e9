/- THE DOCUMENT's DISK: Write, Flush, New, Crash. -/
import Derived.Test.YtdoldlinaghfbaaDiskM
set_option linter.unusedVariables false
set_option linter.unusedSimpArgs false
namespace Go.Proofs.Ytdoldlinaghfbaa
open Go Go.Kx

section
variable {H : PH} {L : List Ob} {i : Nat} {m : RM} {D : Dk} {B : PH}
theorem R_flush {Q : Int → PH → Prop} (h : Stars H L) (hi : L[i]? = some (rdO m D)) (r : Rows' B m D) (sm : Small D)
    (hQ : ∀ m' H', m'.a = m.a → Rows' B m' D.fl.1 → Stars H' (L.set i (rdO m' D.fl.1)) → Q D.fl.2 H') : keelsonref1_Disk_Flush (some m.a) H Q := by
  have d0 : RdAt H m D := h.get i hi
  obtain ⟨s1, s2, s3, s4⟩ := act_same D
  have hhl := sm.held; have hsl := sm.safe
  refine ract_spec d0 sm fun H1 d1 k1 => ?_
  by_cases hact : D.act.2 = true
  · have hw : D.fl = ({ D.act.1 with safe := putAll D.safe D.held, held := [] }, 0) := by rw [Dk.fl, if_pos hact, Dk.flush, if_pos hact]
    rw [hw] at hQ
    rw [hact]
    refine mIf_neg rfl ?_
    -- the pointers that have been laid
    let P (k : Nat) (sl : List Sl) : Prop := sl.length = D.safe.length ∧ ∀ (j : Nat) (s : Sl) (b : Blk), sl[j]? = some s → (putAll D.safe (D.held.take k))[j]? = some b → Bytes B s b.1
    refine mLoop_count D.held.length (fun k st Hk => st = (k : Int) ∧ ∃ sl, P k sl ∧ RdAt Hk { m with sl := sl } D.act.1 ∧ (∀ c o, H c = some o → ¬ m.foot c → Hk c = some o))
      ⟨rfl, m.sl, ⟨r.sl, by simpa [putAll] using r.s⟩, d1, fun c o hc hn => k1 c o hc fun e => hn (.inl e)⟩ ?_
    rintro k st H2 again hk ⟨rfl, sl, ⟨p1, p2⟩, d2, b2⟩ hag
    have hml := r.hl
    refine nil_some (ld_row (x := m.h) d2.row rfl ?_)
    have hvl : (m.h.len : Int) = D.held.length := by rw [d2.held.lenI]; show (m.hl.length : Int) = _; rw [hml]
    rw [hvl]
    refine mIf_intro (fun c3 => ?_) (fun c3 => ?_)
    · have hkl : k < D.held.length := by simpa using c3
      have hdl : k < m.hl.length := by omega
      refine nil_some (ld_row (x := m.s) d2.row rfl (nil_some (ld_row (x := m.h) d2.row rfl (idxN d2.held (by omega) (by simpa using hdl) fun a w el => ?_))))
      have hg := el.get
      rw [Int.toNat_natCast] at hg
      have hv : D.held[k]? = some (D.held[k]'hkl) := by simp [hkl]
      generalize D.held[k]'hkl = v at hv
      obtain ⟨w1, w2⟩ := r.h k w v hg hv
      obtain ⟨v0, v1⟩ := sm.at_ v (List.mem_of_getElem? hv)
      refine ⟨w.1, el.cell lenP rfl, nil_some (ld_row (x := m.h) d2.row rfl (idxN d2.held (by omega) (by simpa using hdl) fun a2 w' el2 => ?_))⟩
      have hg' := el2.get
      rw [Int.toNat_natCast, hg] at hg'
      cases hg'
      refine ⟨w.2, el2.cell lenP rfl, put_vec (x := w.2) d2.safe (by omega) (by show w.1 < (sl.length : Int); omega) rfl fun H3 v3 k3 => ?_⟩
      have ew : w.1.toNat = v.1.toNat := by omega
      rw [wrap_succ (by omega)]
      have hst : putAll D.safe (D.held.take (k + 1)) = (putAll D.safe (D.held.take k)).set v.1.toNat v.2 := by rw [List.take_add_one, hv]; exact putAll_snoc _ _ _
      have hlen : (putAll D.safe (D.held.take k)).length = D.safe.length := putAll_length _ _
      refine hag hkl _ _ ⟨rfl, sl.set w.1.toNat w.2, ⟨by simpa using p1, fun j s b h1 h2 => ?_⟩, ⟨?_, v3, ?_, ?_, ⟨d2.ap.as_, d2.ap.ah, d2.ap.af, d2.ap.sh, d2.ap.sf, d2.ap.hf⟩, d2.zl⟩, fun c o hc hn => k3 c o (b2 c o hc hn) fun hh => hn (.inr (.inl hh))⟩
      · rw [hst] at h2
        rw [ew] at h1
        by_cases e : v.1.toNat = j
        · subst e
          rw [List.getElem?_set_self (by omega)] at h1 h2
          cases h1; cases h2; exact w2
        · rw [List.getElem?_set_ne e] at h1 h2
          exact p2 j s b h1 h2
      · exact d2.row.agree fun c o hc ho => k3 c o ho fun hh => d2.ap.as_ (hc ▸ hh)
      · exact d2.held.agree fun c o hc ho => k3 c o ho fun hh => d2.ap.sh c hh hc
      · exact d2.faults.agree fun c o hc ho => k3 c o ho fun hh => d2.ap.sf c hh hc
    · have : k = D.held.length := by simp at c3; omega
      subst this
      rw [List.take_length] at p2
      refine nil_some (st_cell d2.row (by simp [cellsR]) rfl fun H3 r3 k3 => hQ ⟨m.a, m.s, Sl.nil, m.f, m.z, sl, []⟩ H3 rfl ⟨by show sl.length = (putAll D.safe D.held).length; rw [putAll_length]; exact p1, p2, rfl, fun j w v h1 _ => by simp at h1⟩ ?_)
      refine R_turn h hi ⟨r3, ?_, .inl ⟨rfl, rfl⟩, ?_, ⟨d2.ap.as_, nil_has, d2.ap.af, fun _ _ => nil_has, d2.ap.sf, fun c hc => absurd hc nil_has⟩, d2.zl⟩ (fun c hc => ?_) (fun c o hc hn => k3 c o (b2 c o hc hn) fun e => hn (.inl e))
      · exact d2.safe.agree fun c o hc ho => k3 c o ho fun e => d2.ap.as_ (e ▸ hc)
      · exact d2.faults.agree fun c o hc ho => k3 c o ho fun e => d2.ap.af (e ▸ hc)
      · rcases hc with hc | hc | hc | hc
        · exact .inl (.inl hc)
        · exact .inl (.inr (.inl hc))
        · exact absurd hc nil_has
        · exact .inl (.inr (.inr (.inr hc)))
  · have hf : D.act.2 = false := by simpa using hact
    have hw : D.fl = (D.act.1, 3) := by rw [Dk.fl, if_neg hact, Dk.flush, if_neg hact]
    rw [hw] at hQ
    rw [hf]
    refine mIf_pos rfl (hQ m H1 rfl ⟨by rw [s1]; exact r.sl, by rw [s1]; exact r.s, by rw [s3]; exact r.hl, by rw [s3]; exact r.h⟩ (R_turn h hi d1 (fun c hc => .inl hc) fun c o hc hn => k1 c o hc fun e => hn (.inl e)))

theorem R_write {L' : List Ob} {at' : Int} {p : Sl} {bs : List Int} {Q : Int → PH → Prop} (h : Stars H (baseO B :: L')) (hi : L'[i]? = some (rdO m D)) (r : Rows' B m D) (sm : Small D) (hp : Bytes H p bs) (hp2 : ∀ c, p.has c → ¬ m.foot c) (hl2 : bs.length < 2 ^ 40)
    (hQ : ∀ B' m' H', m'.a = m.a → Ext B B' → Rows' B' m' (D.wr at' bs).1 → Stars H' (baseO B' :: L'.set i (rdO m' (D.wr at' bs).1)) → Q (D.wr at' bs).2 H') : keelsonref1_Disk_Write (some m.a) at' p H Q := by
  have hi1 : (baseO B :: L')[i + 1]? = some (rdO m D) := by simpa using hi
  have d : RdAt H m D := h.get (i + 1) hi1
  have hl := rsmall_len r sm d
  have := sm.now; have hsl := sm.safe; have hhl := sm.held
  obtain ⟨s1, s2, s3, s4⟩ := act_same D
  refine nil_some (ld_row (x := m.s) d.row rfl (within_spec ?_))
  rw [hl, wrap64_id (by omega) (by omega)]
  by_cases hc : (0 ≤ at' ∧ at' < D.now.length) ∧ bs.length = 64
  · have e : D.wr at' bs = (D.write at'.toNat ⟨bs, hc.2⟩, if D.act.2 then 0 else 3) := by rw [Dk.wr, dif_pos hc]
    rw [e] at hQ
    have e1 : (decide (0 ≤ at') && decide (at' ≤ (D.now.length : Int) - 1)) = true := by simp; omega
    rw [e1]
    have e2 : ((p.len : Int) != 64) = false := by rw [hp.lenI, hc.2]; rfl
    refine mJoin_intro (mIf_neg rfl ?_)
    rw [e2]
    refine mIf_neg rfl (ract_spec d sm fun H1 d1 k1 => ?_)
    have h1 : Stars H1 ((baseO B :: L').set (i + 1) (rdO m D.act.1)) := R_turn h hi1 d1 (fun c hc => .inl hc) fun c o hc hn => k1 c o hc fun e => hn (.inl e)
    have h1' : Stars H1 (baseO B :: L'.set i (rdO m D.act.1)) := h1
    have hlt := (List.getElem?_eq_some_iff.1 hi).1
    by_cases hact : D.act.2 = true
    · rw [if_pos hact] at hQ
      have hw : D.write at'.toNat ⟨bs, hc.2⟩ = { D.act.1 with held := D.held ++ [((at'.toNat : Int), ⟨bs, hc.2⟩)], now := D.now.set at'.toNat ⟨bs, hc.2⟩ } := by rw [Dk.write, if_pos hact]
      rw [hact]
      refine mIf_neg rfl (nil_some (ld_row (x := m.h) d1.row rfl (part_spec (list_agree hp fun c o hh ho => k1 c o ho fun e => hp2 c hh (.inl e)) (by omega) fun q H2 n2 => ?_)))
      have h2 := h1'.over n2
      obtain ⟨B', xB, vB, h3⟩ := h2.freeze
      have hi3 : (baseO B' :: L'.set i (rdO m D.act.1))[i + 1]? = some (rdO m D.act.1) := by simp [hlt]
      have d3 : RdAt H2 m D.act.1 := h3.get (i + 1) hi3
      refine ⟨d3.row.cell rfl, fun r4 H4 hn4 => ?_⟩
      have x4 := Ext.newS hn4
      have v4 : VecN encP 2 H4 r4 [(at', q)] := VecN.ofNewL hn4 rfl rfl
      have o4 : Own0 H2 r4 := .ofNew hn4
      have d4 : RdAt H4 m D.act.1 := d3.agree fun c o _ ho => x4 c o ho
      have hml := r.hl
      refine ⟨d4.row.cell rfl, appN lenP (by decide) d4.held (v4.cells lenP (by decide)) v4.len cvP rfl (by rw [hml, List.length_singleton]; omega) fun r5 H5 v5 k5 n5 => nil_some ?_⟩
      have row5 : RowAt H5 m.a (cellsR m D.act.1) := d4.row.agree fun c o hc ho => k5 c o ho fun hh => d4.ap.ah (hc ▸ hh)
      refine st_cell row5 (by simp [cellsR]) rfl fun H6 r6 k6 => ?_
      have at0 : (at'.toNat : Int) = at' := by omega
      have n5' : ∀ c, r5.has c → m.h.has c ∨ H2 c = none := fun c hc => (n5 c hc).imp id fun hn => x4.none hn
      have a5 : ¬ r5.has m.a.block := fun hh => by
        rcases n5 _ hh with h' | h'
        · exact d4.ap.ah h'
        · obtain ⟨e, he⟩ := d4.row.2.2; rw [he] at h'; cases h'
      have s5 : ∀ c, m.s.has c → ¬ r5.has c := fun c h1 hh => by
        rcases n5 _ hh with h' | h'
        · exact d4.ap.sh c h1 h'
        · obtain ⟨o, ho⟩ := d4.safe.has_some h1; rw [ho] at h'; cases h'
      have f5 : ∀ c, r5.has c → ¬ m.f.has c := fun c hh h1 => by
        rcases n5 _ hh with h' | h'
        · exact d4.ap.hf c h' h1
        · obtain ⟨o, ho⟩ := d4.faults.has_some h1; rw [ho] at h'; cases h'
      refine hQ B' ⟨m.a, m.s, r5, m.f, m.z, m.sl, m.hl ++ [(at', q)]⟩ H6 rfl xB ?_ ?_
      · rw [hw]
        refine ⟨by show m.sl.length = D.act.1.safe.length; rw [s1]; exact r.sl, by show ∀ (i : Nat) (s : Sl) (b : Blk), m.sl[i]? = some s → D.act.1.safe[i]? = some b → Bytes B' s b.1; rw [s1]; exact fun i s b h1 h2 => (r.s i s b h1 h2).ext xB, by simp [hml], fun j w v h1 h2 => ?_⟩
        by_cases hj : j < m.hl.length
        · rw [List.getElem?_append_left hj] at h1
          rw [List.getElem?_append_left (by omega)] at h2
          exact ⟨(r.h j w v h1 h2).1, (r.h j w v h1 h2).2.ext xB⟩
        · rw [List.getElem?_append_right (by omega)] at h1
          rw [List.getElem?_append_right (by omega)] at h2
          have hj2 := (List.getElem?_eq_some_iff.1 h1).1
          simp at hj2
          have e0 : j - m.hl.length = 0 := by omega
          have e00 : j - D.held.length = 0 := by omega
          rw [e0] at h1; rw [e00] at h2
          simp at h1 h2
          subst h1; subst h2
          exact ⟨by show at' = max at' 0; omega, Vec.list (enc := Value.int .u8) vB⟩
      · rw [hw]
        have := R_turn (i := i + 1) h3 hi3 (H' := H6) (m' := ⟨m.a, m.s, r5, m.f, m.z, m.sl, m.hl ++ [(at', q)]⟩) (D' := { D.act.1 with held := D.held ++ [((at'.toNat : Int), ⟨bs, hc.2⟩)], now := D.now.set at'.toNat ⟨bs, hc.2⟩ })
          ⟨r6, d4.safe.agree fun c o hc ho => k6 c o (k5 c o ho fun hh => d4.ap.sh c hc hh) fun e => d4.ap.as_ (e ▸ hc), v5.agree fun c o hc ho => k6 c o ho fun e => a5 (e ▸ hc),
            by show Vec Value.bool H6 m.f D.act.1.faults; exact d4.faults.agree fun c o hc ho => k6 c o (k5 c o ho fun hh => d4.ap.hf c hh hc) fun e => d4.ap.af (e ▸ hc), ⟨d4.ap.as_, a5, d4.ap.af, s5, d4.ap.sf, f5⟩, d4.zl⟩
          (fun c hc => by
            rcases hc with hc | hc | hc | hc
            · exact .inl (.inl hc)
            · exact .inl (.inr (.inl hc))
            · exact (n5' c hc).imp (fun h => .inr (.inr (.inl h))) id
            · exact .inl (.inr (.inr (.inr hc))))
          (fun c o hc hn => k6 c o (k5 c o (x4 c o hc) fun hh => hn (.inr (.inr (.inl hh)))) fun e => hn (.inl e))
        simp only [List.set_cons_succ, List.set_set] at this
        exact this
    · have hf : D.act.2 = false := by simpa using hact
      have hw : D.write at'.toNat ⟨bs, hc.2⟩ = D.act.1 := by rw [Dk.write, if_neg hact]
      rw [if_neg hact, hw] at hQ
      rw [hf]
      exact mIf_pos rfl (hQ B m H1 rfl (.refl B) ⟨by rw [s1]; exact r.sl, by rw [s1]; exact r.s, by rw [s3]; exact r.hl, by rw [s3]; exact r.h⟩ h1')
  · have e : D.wr at' bs = (D, 1) := by rw [Dk.wr, dif_neg hc]
    rw [e] at hQ
    have q := hQ B m H rfl (.refl B) r (by rw [set_same hi]; exact h)
    by_cases h1 : 0 ≤ at' ∧ at' < D.now.length
    · have h2 : ¬ bs.length = 64 := fun h2 => hc ⟨h1, h2⟩
      have e1 : (decide (0 ≤ at') && decide (at' ≤ (D.now.length : Int) - 1)) = true := by simp; omega
      have e2 : ((p.len : Int) != 64) = true := by rw [hp.lenI]; simp; omega
      rw [e1]
      refine mJoin_intro (mIf_neg rfl ?_)
      rw [e2]
      exact mIf_pos rfl q
    · have e1 : (decide (0 ≤ at') && decide (at' ≤ (D.now.length : Int) - 1)) = false := by simp; omega
      rw [e1]
      exact mJoin_intro (mIf_pos rfl (mIf_pos rfl q))
end
end Go.Proofs.Ytdoldlinaghfbaa

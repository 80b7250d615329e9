/- THE LAW DiskFuse, on formulas. -/
import Derived.Test.YtdoldlinaghfbaaDiskG
set_option linter.unusedVariables false
set_option linter.unusedSimpArgs false
namespace Go.Proofs.Ytdoldlinaghfbaa
open Go Go.Kx

/-- As idx_ld, and the cell stays known. -/
theorem idx_ld2 {α : Type} {enc : α → Value} {H : PH} {s : Sl} {l : List α} {i : Int} {K : Addr → α → Prop} (h : ListAt enc H s l) (h0 : 0 ≤ i) (h1 : i < l.length) (hK : ∀ a x, l[i.toNat]? = some x → cellAt H a = some (enc x) → K a x) :
    mIdx s 1 i fun a => mLd enc H a (K a) := by
  have hlt : i.toNat < l.length := by omega
  obtain ⟨a, ha, hs, hc⟩ := h.2.2 i.toNat l[i.toNat] (by simp [hlt])
  have hc' : cellAt H (a.add (i.toNat * 1)) = some (enc l[i.toNat]) := by simpa using hc
  exact ⟨_, ⟨a, ha, h0, by rw [h.1]; omega, rfl⟩, _, hc', hK _ _ (by simp [hlt]) hc'⟩
theorem Small.flush {D : Dk} (h : Small D) (ha : D.acts + 1 < 2 ^ 40) : Small D.flush := by
  have hA := h.act ha
  obtain ⟨s1, s2, s3, s4⟩ := act_same D
  unfold Dk.flush
  split
  · refine ⟨hA.fuse0, hA.fuse1, hA.acts0, hA.acts1, by simp, ?_, ?_, ?_, by simp⟩
    · show D.act.1.now.length ≤ 4096; rw [s2]; exact h.now
    · show (putAll D.safe D.held).length = D.act.1.now.length; rw [putAll_length, s2]; exact h.safe
    · show D.act.1.faults.length = D.act.1.now.length; rw [s4, s2]; exact h.faults
  · exact hA
theorem and1 (x : Int) : iand .i64 x 1 = 0 ∨ iand .i64 x 1 = 1 := by
  have : iand .i64 x 1 = IntKind.i64.wrap ((BitVec.ofInt 64 x &&& 1#64).toNat : Int) := rfl
  rw [this]
  have h2 : (BitVec.ofInt 64 x &&& 1#64).toNat = (BitVec.ofInt 64 x).toNat % 2 := by rw [BitVec.toNat_and]; exact Nat.and_one_is_mod _
  rw [h2]
  rcases Nat.mod_two_eq_zero_or_one (BitVec.ofInt 64 x).toNat with h | h <;> rw [h]
  · exact .inl rfl
  · exact .inr rfl

/-- Where a disk of three sectors with a fuse of n stands behind k acts. -/
structure Burnt (n k : Nat) (D : Dk) (held : Int) : Prop where
  small : Small D
  now : D.now.length = 3
  acts : D.acts = k
  off : D.off = decide (n < k)
  fuse : D.fuse = ((n - k : Nat) : Int)
  faults : D.faults = List.replicate 3 false
  held : k ≤ n → held = D.held.length
  few : D.held.length ≤ k
theorem burnt_act {n k : Nat} {D : Dk} {held : Int} (h : Burnt n k D held) : D.act.2 = decide (k < n) ∧ D.act.1.acts = ((k + 1 : Nat) : Int) ∧ D.act.1.off = decide (n < k + 1) ∧ D.act.1.fuse = ((n - (k + 1) : Nat) : Int) := by
  have h1 := h.off
  have h2 := h.fuse
  have h3 := h.acts
  by_cases hk : k < n
  · have c1 : D.off = false := by rw [h1]; simp; omega
    have c2 : (D.fuse == 0) = false := by rw [h2]; simp; omega
    have : D.act = ({ D with acts := D.acts + 1, off := false, fuse := max (D.fuse - 1) (-1) }, true) := by rw [Dk.act, c1, c2]; rfl
    rw [this]
    refine ⟨by simp [hk], ?_, ?_, ?_⟩
    · show D.acts + 1 = _; rw [h3]; push_cast; rfl
    · show false = _; symm; simp; omega
    · show max (D.fuse - 1) (-1) = _; rw [h2]; omega
  · have c : (D.off || D.fuse == 0) = true := by
      rw [h1, h2]
      by_cases hn : n < k
      · simp [hn]
      · have : n - k = 0 := by omega
        rw [this]; simp
    have : D.act = ({ D with acts := D.acts + 1, off := true }, false) := by rw [Dk.act, c]; rfl
    rw [this]
    refine ⟨by simp; omega, ?_, ?_, ?_⟩
    · show D.acts + 1 = _; rw [h3]; push_cast; rfl
    · show true = _; symm; simp; omega
    · show D.fuse = _; rw [h2]; omega
theorem burnt_write {n k i : Nat} {D : Dk} {held : Int} {b : Blk} (h : Burnt n k D held) (hi : i < 3) (hk : k < 1000) : Burnt n (k + 1) (D.write i b) (held + 1) := by
  obtain ⟨a1, a2, a3, a4⟩ := burnt_act h
  obtain ⟨s1, s2, s3, s4⟩ := act_same D
  have hf := h.few
  have ha := h.acts
  refine ⟨h.small.write (by rw [h.now]; exact hi) (by omega) (by omega), ?_, ?_, ?_, ?_, ?_, fun hkn => ?_, ?_⟩ <;> unfold Dk.write <;> split
  · show (D.now.set i b).length = 3; rw [List.length_set]; exact h.now
  · rw [s2]; exact h.now
  · exact a2
  · exact a2
  · exact a3
  · exact a3
  · exact a4
  · exact a4
  · show D.act.1.faults = _; rw [s4]; exact h.faults
  · rw [s4]; exact h.faults
  · show held + 1 = ((D.held ++ [((i : Int), b)]).length : Int); rw [h.held (by omega)]; simp
  · rename_i hc; rw [a1] at hc; simp at hc; omega
  · show (D.held ++ [((i : Int), b)]).length ≤ k + 1; simp; exact hf
  · rw [s3]; omega
theorem burnt_flush {n k : Nat} {D : Dk} {held : Int} (h : Burnt n k D held) (hk : k < 1000) : Burnt n (k + 1) D.flush 0 := by
  obtain ⟨a1, a2, a3, a4⟩ := burnt_act h
  obtain ⟨s1, s2, s3, s4⟩ := act_same D
  have hf := h.few
  have ha := h.acts
  refine ⟨h.small.flush (by omega), ?_, ?_, ?_, ?_, ?_, fun hkn => ?_, ?_⟩ <;> unfold Dk.flush <;> split
  · show D.act.1.now.length = 3; rw [s2]; exact h.now
  · rw [s2]; exact h.now
  · exact a2
  · exact a2
  · exact a3
  · exact a3
  · exact a4
  · exact a4
  · show D.act.1.faults = _; rw [s4]; exact h.faults
  · rw [s4]; exact h.faults
  · rfl
  · rename_i hc; rw [a1] at hc; simp at hc; omega
  · show ([] : List (Int × Blk)).length ≤ k + 1; simp
  · rw [s3]; omega

theorem fuse_law {H : PH} {p0 : Int} {s : Sl} {m : List Int} (hs : Ints H s m) : keelsonlaw3_DiskFuse p0 s H (DoneD H) := by
  have hlen := hs.lenI
  have hawake : ∀ H2, Ext H H2 → keelsonlaw3_awake H2 (DoneD H) := fun H2 x2 => awake_spec fun H3 x3 => ⟨rfl, x2.trans x3⟩
  refine mJoin_intro (mIf_intro (fun _ => mJoin_intro (mIf_pos rfl (mIf_pos rfl (hawake H (.refl _))))) (fun h0 => ?_))
  refine mJoin_intro (mIf_intro (fun _ => mIf_pos rfl (hawake H (.refl _))) (fun h1 => ?_))
  refine mIf_intro (fun _ => hawake H (.refl _)) (fun h2 => ?_)
  have hp0 : 0 ≤ p0 := by simpa using h0
  have hp1 : p0 ≤ 100 := by simpa using h1
  have hm : m.length ≤ 100 := by simp at h2; omega
  obtain ⟨n, rfl⟩ := Int.eq_ofNat_of_zero_le hp0
  refine new_spec (n := 3) (by decide) (by decide) fun A H1 x1 d1 f1 => ?_
  refine mJoin_intro (mIf_neg rfl (mIf_neg rfl (fuse_spec d1 fun H2 d2 af2 => ?_)))
  have x02 := af2.ext0 x1 f1
  have sm2 : Small ((fresh 3).setFuse n) := by
    have := small_fresh 3 (by decide)
    exact ⟨by show -1 ≤ max (n : Int) (-1); omega, by show max (n : Int) (-1) < 2 ^ 63; omega, this.acts0, this.acts1, this.held, this.now, this.safe, this.faults, this.at_⟩
  have b0 : Burnt n 0 ((fresh 3).setFuse n) 0 := ⟨sm2, rfl, rfl, by simp [Dk.setFuse, fresh], by show max (n : Int) (-1) = _; omega, rfl, fun _ => rfl, by simp [Dk.setFuse, fresh]⟩
  refine mLoop_count m.length (fun k st Hk => ∃ A' D held, A'.a = A.a ∧ st = (held, (k : Int)) ∧ Ext H Hk ∧ DiskAt Hk A' D ∧ (∀ c, A'.foot c → H c = none) ∧ Burnt n k D held ∧ -1 ≤ held ∧ held ≤ k) ⟨A, _, 0, rfl, rfl, x02, d2, f1, b0, by omega, by omega⟩ ?_
  rintro k st H3 again hk ⟨A', D, held, ea, rfl, x3, d3, f3, bu, hd0, hd1⟩ hag
  rw [← ea]
  refine mIf_intro (fun hlt => ?_) (fun hge => ?_)
  · have hkm : k < m.length := by simp at hlt; omega
    obtain ⟨b1, b2, b3, b4⟩ := burnt_act bu
    have ew : IntKind.wrap .i64 ((k : Int) + 1) = ((k + 1 : Nat) : Int) := by rw [wrap64_id (by omega) (by omega)]; push_cast; rfl
    -- behind the act
    have tail : ∀ (A4 : DA) (H4 : PH) (D4 : Dk) (held4 : Int), A4.a = A'.a → Ext H H4 → DiskAt H4 A4 D4 → (∀ c, A4.foot c → H c = none) → Burnt n (k + 1) D4 held4 → -1 ≤ held4 → held4 ≤ k + 1 →
        mJoin (fun (s38 : Bool) (H40 : PH) => mJoin (fun (s43 : Bool) (H45 : PH) => mJoin (fun (s48 : Bool) (H50 : PH) => mIf s48 (DoneD H false H50)
          (mJoin (fun (s54 : Bool) (H56 : PH) => mIf s54 (DoneD H false H56) (again (held4, IntKind.wrap .i64 ((k : Int) + 1)) H56)) fun j55 => mIf (decide ((k : Int) < n)) (vdisk_Disk_Held (some A'.a) H50 fun y60 H59 => j55 (y60 != held4) H59) (j55 false H50)))
          fun j49 => mIf s43 (j49 true H45) (vdisk_Disk_Acts (some A'.a) H45 fun y62 H61 => j49 (y62 != (IntKind.wrap .i64 ((k : Int) + 1))) H61))
          fun j44 => mIf s38 (j44 true H40) (vdisk_Disk_Off (some A'.a) H40 fun y64 H63 => j44 (y64 != (decide ((n : Int) ≤ k))) H63))
          fun j39 => mIf (((if D.act.2 then (0 : Int) else 3) == 0) != (decide ((k : Int) < n))) (j39 true H4) (mJoin (fun (s66 : Bool) (H68 : PH) => j39 s66 H68) fun j67 => mIf ((if D.act.2 then (0 : Int) else 3) != 0) (j67 ((if D.act.2 then (0 : Int) else 3) != 3) H4) (j67 false H4)) := by
      intro A4 H4 D4 held4 ea4 x4 d4 f4 bu4 g0 g1
      rw [b1, ← ea4, ew]
      have c1 : (((if decide (k < n) = true then (0 : Int) else 3) == 0) != (decide ((k : Int) < n))) = false := by
        by_cases h : k < n
        · have : (k : Int) < n := by omega
          simp [h]
        · have : ¬ (k : Int) < n := by omega
          simp [h]
      refine mJoin_intro (mIf_neg c1 (mJoin_intro ?_))
      have go : mJoin (fun (s43 : Bool) (H45 : PH) => mJoin (fun (s48 : Bool) (H50 : PH) => mIf s48 (DoneD H false H50)
          (mJoin (fun (s54 : Bool) (H56 : PH) => mIf s54 (DoneD H false H56) (again (held4, ((k + 1 : Nat) : Int)) H56)) fun j55 => mIf (decide ((k : Int) < n)) (vdisk_Disk_Held (some A4.a) H50 fun y60 H59 => j55 (y60 != held4) H59) (j55 false H50)))
          fun j49 => mIf s43 (j49 true H45) (vdisk_Disk_Acts (some A4.a) H45 fun y62 H61 => j49 (y62 != ((k + 1 : Nat) : Int)) H61))
          fun j44 => mIf false (j44 true H4) (vdisk_Disk_Off (some A4.a) H4 fun y64 H63 => j44 (y64 != (decide ((n : Int) ≤ k))) H63) := by
        refine mJoin_intro (mIf_neg rfl (off_spec d4 ?_))
        have e1 : (D4.off != decide ((n : Int) ≤ k)) = false := by
          rw [bu4.off]
          by_cases h : n < k + 1
          · have : (n : Int) ≤ k := by omega
            simp [h, this]
          · have : ¬ (n : Int) ≤ k := by omega
            simp [h, this]
        rw [e1]
        refine mJoin_intro (mIf_neg rfl (acts_spec d4 ?_))
        have e2 : (D4.acts != ((k + 1 : Nat) : Int)) = false := by rw [bu4.acts]; simp
        rw [e2]
        have nxt := hag hkm (held4, ((k + 1 : Nat) : Int)) H4 ⟨A4, D4, held4, ea4.trans ea, rfl, x4, d4, f4, bu4, g0, by push_cast; exact g1⟩
        refine mIf_neg rfl (mJoin_intro (mIf_intro (fun hkn => held_spec d4 ?_) (fun _ => mIf_neg rfl nxt)))
        have hkn' : k < n := by simpa using hkn
        have e3 : ((D4.held.length : Int) != held4) = false := by rw [← bu4.held (by omega)]; simp
        rw [e3]; exact mIf_neg rfl nxt
      refine mIf_intro (fun e => ?_) (fun _ => go)
      have : ((if decide (k < n) = true then (0 : Int) else 3) != 3) = false := by
        by_cases h : k < n <;> simp [h] at e ⊢
      rw [this]; exact go
    refine idx_ld (hs.ext x3) (by simp) (by simpa using hkm) fun x hx => mJoin_intro (mIf_intro (fun _ => ?_) (fun _ => ?_))
    · refine flush_spec d3 bu.small fun A4 H4 d4 af4 => ?_
      exact tail A4 H4 _ 0 af4.same (af4.ext0 x3 f3) d4 (af4.foot0 x3 f3) (burnt_flush bu (by omega)) (by omega) (by omega)
    · refine idx_ld2 (hs.ext x3) (by simp) (by simpa using hkm) fun a y hy hc => fill_spec fun r4 H4 x4 o4 v4 => ⟨x4.cell hc, ?_⟩
      have ehd : IntKind.wrap .i64 (held + 1) = held + 1 := wrap64_id (by omega) (by omega)
      rcases and1 y with e | e <;> rw [e]
      · refine write_spec (i := 0) (b := fillB k) (d3.ext x4) bu.small (by rw [bu.now]; decide) v4.list (apart_new d3 o4) fun A5 H5 d5 af5 => ?_
        rw [ehd]
        exact tail A5 H5 _ (held + 1) af5.same (af5.ext0 (x3.trans x4) f3) d5 (af5.foot0 (x3.trans x4) f3) (burnt_write bu (by decide) (by omega)) (by omega) (by omega)
      · refine write_spec (i := 1) (b := fillB k) (d3.ext x4) bu.small (by rw [bu.now]; decide) v4.list (apart_new d3 o4) fun A5 H5 d5 af5 => ?_
        rw [ehd]
        exact tail A5 H5 _ (held + 1) af5.same (af5.ext0 (x3.trans x4) f3) d5 (af5.foot0 (x3.trans x4) f3) (burnt_write bu (by decide) (by omega)) (by omega) (by omega)
  · have : k = m.length := by simp at hge; omega
    subst this
    have fin : ∀ (y84 : Int) (H4 : PH), Ext H3 H4 → (y84 == 0) = decide (m.length ≤ n) → vdisk_Disk_Crash (some A'.a) Sl.nil H4 fun y86 H85 => mIf (Option.isNone y86) (DoneD H false H85) (vdisk_Disk_Read y86 0 H85 fun y89 y90 H88 =>
        mJoin (fun (s92 : Bool) (H94 : PH) => mJoin (fun (s97 : Bool) (H99 : PH) => mJoin (fun (s102 : Bool) (H104 : PH) => DoneD H s102 H104) fun j103 => mIf s97 (keelsonlaw3_awake H99 fun y107 H106 => j103 y107 H106) (j103 false H99))
        fun j98 => mIf s92 (keelsonalike_Fill 1 H94 fun y109 H108 => vdisk_Disk_Write y86 0 y109 H108 fun y111 H110 => j98 (y111 == 0) H110) (j98 false H94))
        fun j93 => mIf ((y84 == 0) == (decide ((s.len : Int) ≤ n))) (j93 (y90 == 0) H88) (j93 false H88)) := by
      intro y84 H4 x4 hy
      have hnow : 0 < D.now.length := by rw [bu.now]; decide
      refine crash_spec (d3.ext x4) bu.small hnow ListAt.nil fun A5 H5 x5 d5 f5 => mIf_neg rfl ?_
      have x05 := (x3.trans x4).trans x5
      have f5' : ∀ c, A5.foot c → H c = none := fun c hc => (x3.trans x4).none (f5 c hc)
      have sm5 := bu.small.crash []
      have hl5 : (D.crash []).now.length = 3 := by
        show (crashTo [] D.safe D.held D.held.length).1.length = 3
        rw [crashTo_length, bu.small.safe, bu.now]
      have hr5 : (D.crash []).read 0 = 0 := by
        show (if false = true then (3 : Int) else if D.faults.getD 0 false = true then 4 else 0) = 0
        rw [bu.faults]; rfl
      refine read_ok (i := 0) (b := (D.crash []).now[0]'(by rw [hl5]; decide)) d5 sm5 (by simp [hl5]) hr5 fun r6 H6 x6 o6 v6 => ?_
      have ec : ((y84 == 0) == (decide ((s.len : Int) ≤ n))) = true := by
        rw [hy, hlen]; simp
      refine mJoin_intro (mIf_pos ec (mJoin_intro (mIf_pos rfl (fill_spec fun r7 H7 x7 o7 v7 => ?_))))
      have x57 := x6.trans x7
      refine write_spec (i := 0) (b := fillB 1) (d5.ext x57) sm5 (by rw [hl5]; decide) v7.list (fun c hc hf => none_no ((d5.ext x6).has_some hf) (o7 c hc)) fun A8 H8 d8 af8 => ?_
      have hact : (D.crash []).act.2 = true := rfl
      rw [if_pos hact]
      exact mJoin_intro (mIf_pos rfl (hawake H8 (af8.ext0 (x05.trans x57) f5')))
    have hoff := bu.off
    have hfa : D.faults.getD 0 false = false := by rw [bu.faults]; rfl
    by_cases hn : n < m.length
    · have hr : D.read 0 = 3 := by rw [Dk.read, hoff]; simp [hn]
      refine read_spec (i := 0) d3 bu.small (by rw [bu.now]; decide) (fun _ => fin 3 H3 (.refl _) ?_) (fun e => by rw [hr] at e; cases e) (fun e => by rw [hr] at e; cases e)
      have : ¬ m.length ≤ n := by omega
      simp [this]
    · have hr : D.read 0 = 0 := by rw [Dk.read, hoff, hfa]; simp [hn]
      refine read_spec (i := 0) d3 bu.small (by rw [bu.now]; decide) (fun e => by rw [hr] at e; cases e) (fun e => by rw [hr] at e; cases e) (fun _ r H4 b _ x4 _ _ => fin 0 H4 x4 ?_)
      have : m.length ≤ n := by omega
      simp [this]
end Go.Proofs.Ytdoldlinaghfbaa

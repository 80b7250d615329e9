/- THE LAWS' OWN FUNCTIONS (chapter 3): Fill, Equal, awake. -/
import Derived.Test.YtdoldlinaghfbaaDiskD
set_option linter.unusedVariables false
set_option linter.unusedSimpArgs false
namespace Go.Proofs.Ytdoldlinaghfbaa
open Go Go.Kx

theorem mod_spec {H : PH} {x m : Int} {Q : Int → PH → Prop} (hm : 0 < m) (hm2 : m < 2 ^ 62) (hQ : Q (x % m) H) : keelsonref1_Mod x m H Q := by
  have h3 := Int.tmod_eq_emod (a := x) (b := m)
  have h4 := Int.emod_nonneg x (by omega : m ≠ 0)
  have h5 := Int.emod_lt_of_pos x hm
  refine ⟨by omega, mJoin_intro (mIf_intro (fun hc => ?_) (fun hc => ?_))⟩
  · have h1 : x.tmod m < 0 := by simpa using hc
    have h2 := Int.lt_tmod_of_pos x hm
    have e : x.tmod m + m = x % m := by split at h3 <;> omega
    rw [wrap64_id (by omega) (by omega), e]; exact hQ
  · have h1 : ¬ x.tmod m < 0 := by simpa using hc
    have e : x.tmod m = x % m := by split at h3 <;> omega
    rw [e]; exact hQ
theorem round_spec {H : PH} {x m : Int} {Q : Int → PH → Prop} (hm : 0 < m) (hm2 : m < 2 ^ 62) (hQ : Q (x % m) H) : keelsonalike_Round x m H Q := mod_spec hm hm2 hQ

def fillL (x : Int) : List Int := (List.range 64).map fun (k : Nat) => (x % 256 + (k : Int)) % 256
def fillB (x : Int) : Blk := ⟨fillL x, by simp [fillL]⟩
theorem fill_spec {H : PH} {x : Int} {Q : Sl → PH → Prop} (hQ : ∀ r H', Ext H H' → Own0 H r → Vec (Value.int .u8) H' r (fillB x).1 → Q r H') : keelsonalike_Fill x H Q := by
  refine mk_vec (enc := Value.int .u8) (by decide) (by decide) fun r H1 x1 o1 v1 => ?_
  refine mLoop_count 64 (fun k s Hk => s = (k : Int) ∧ Ext H Hk ∧ Vec (Value.int .u8) Hk r ((fillL x).take k ++ List.replicate (64 - k) 0)) ⟨rfl, x1, v1⟩ ?_
  rintro k s H2 again hk ⟨rfl, x2, v2⟩ hag
  refine mIf_intro (fun hlt => ?_) (fun hge => ?_)
  · have hk64 : k < 64 := by simp at hlt; omega
    have a0 := Int.emod_nonneg x (show (256 : Int) ≠ 0 by decide)
    have a1 := Int.emod_lt_of_pos x (show (0 : Int) < 256 by decide)
    refine round_spec (by decide) (by decide) ?_
    rw [wrap64_id (by omega) (by omega)]
    refine round_spec (by decide) (by decide) ?_
    have b0 := Int.emod_nonneg (x % 256 + k) (show (256 : Int) ≠ 0 by decide)
    have b1 := Int.emod_lt_of_pos (x % 256 + k) (show (0 : Int) < 256 by decide)
    have ew : IntKind.wrap .u8 ((x % 256 + (k : Int)) % 256) = (x % 256 + (k : Int)) % 256 := by
      simp only [IntKind.wrap, IntKind.bits, IntKind.signed, Bool.false_and, Bool.false_eq_true, if_false]; omega
    rw [ew]
    have hl : ((fillL x).take k ++ List.replicate (64 - k) (0 : Int)).length = 64 := by simp [fillL]; omega
    refine put_vec v2 (by omega) (by rw [hl]; omega) rfl fun H3 v3 k3 => hag hk64 _ _ ⟨?_, x2.keep k3 o1, ?_⟩
    · rw [wrap64_id (by omega) (by omega)]; push_cast; rfl
    · have e : ((fillL x).take k ++ List.replicate (64 - k) (0 : Int)).set k ((x % 256 + (k : Int)) % 256) = (fillL x).take (k + 1) ++ List.replicate (64 - (k + 1)) 0 := by
        have hf : (fillL x)[k]? = some ((x % 256 + (k : Int)) % 256) := by simp [fillL, hk64]
        rw [List.take_add_one, hf, show 64 - k = (64 - (k + 1)) + 1 by omega, List.replicate_succ]
        have hlen : ((fillL x).take k).length = k := by simp [fillL]; omega
        rw [List.set_append_right _ _ (by omega), hlen, Nat.sub_self]; simp
      rw [Int.toNat_natCast, e] at v3; exact v3
  · have : k = 64 := by simp at hge; omega
    subst this
    have e : (fillL x).take 64 ++ List.replicate (64 - 64) (0 : Int) = (fillB x).1 := by
      rw [List.take_of_length_le (by simp [fillL])]; simp [fillB]
    rw [e] at v2
    exact hQ r H2 x2 o1 v2
theorem equal_spec {H : PH} {s t : Sl} {l m : List Int} {Q : Bool → PH → Prop} (hs : Bytes H s l) (ht : Bytes H t m) (hl : l.length < 2 ^ 62) (hQ : Q (decide (l = m)) H) : keelsonref1_Equal s t H Q := by
  have e1 := hs.lenI
  have e2 := ht.lenI
  refine mIf_intro (fun h => ?_) (fun h => ?_)
  · have : l ≠ m := fun e => by subst e; simp [e1, e2] at h
    rw [decide_eq_false this] at hQ; exact hQ
  · have hlen : l.length = m.length := by simp at h; omega
    refine mLoop_count l.length (fun k s' Hk => s' = (k : Int) ∧ Hk = H ∧ l.take k = m.take k) ⟨rfl, rfl, rfl⟩ ?_
    rintro k s' H2 again hk ⟨rfl, rfl, htk⟩ hag
    refine mIf_intro (fun hlt => ?_) (fun hge => ?_)
    · have hkl : k < l.length := by simp at hlt; omega
      refine idx_ld hs (by omega) (by omega) fun x hx => idx_ld ht (by omega) (by omega) fun y hy => ?_
      rw [Int.toNat_natCast] at hx hy
      refine mIf_intro (fun hne => ?_) (fun heq => hag hkl _ _ ⟨?_, rfl, ?_⟩)
      · have : l ≠ m := fun e => by subst e; rw [hx] at hy; cases hy; simp at hne
        rw [decide_eq_false this] at hQ; exact hQ
      · rw [wrap64_id (by omega) (by omega)]; push_cast; rfl
      · have : x = y := by simpa using heq
        rw [List.take_add_one, List.take_add_one, hx, hy, htk, this]
    · have : k = l.length := by simp at hge; omega
      subst this
      have : l = m := by rw [List.take_length, hlen, List.take_length] at htk; exact htk
      rw [decide_eq_true this] at hQ; exact hQ
theorem bytes_spec {H : PH} {s t : Sl} {l m : List Int} {Q : Bool → PH → Prop} (hs : Bytes H s l) (ht : Bytes H t m) (hl : l.length < 2 ^ 62) (hQ : Q (decide (l = m)) H) : keelsonalike_Bytes s t H Q := equal_spec hs ht hl hQ

/-- A read that tells bytes. -/
theorem read_ok {H : PH} {A : DA} {D : Dk} {i : Nat} {b : Blk} {Q : Sl → Int → PH → Prop} (h : DiskAt H A D) (sm : Small D) (hi : D.now[i]? = some b) (hr : D.read i = 0) (hQ : ∀ r H', Ext H H' → Own0 H r → Vec (Value.int .u8) H' r b.1 → Q r 0 H') : vdisk_Disk_Read (some A.a) i H Q := by
  refine read_spec h sm (List.getElem?_eq_some_iff.1 hi).1 (fun e => by rw [hr] at e; cases e) (fun e => by rw [hr] at e; cases e) fun _ r H' b' hb' x o v => ?_
  rw [hi] at hb'; cases hb'
  exact hQ r H' x o v
theorem small_fresh (n : Nat) (h : n ≤ 4096) : Small (fresh n) := ⟨by simp [fresh], by simp [fresh], by simp [fresh], by simp [fresh], by simp [fresh], by simp [fresh]; omega, by simp [fresh], by simp [fresh], by simp [fresh]⟩
theorem Small.act {D : Dk} (h : Small D) (ha : D.acts + 1 < 2 ^ 40) : Small D.act.1 := by
  obtain ⟨s1, s2, s3, s4⟩ := act_same D
  have h1 := h.fuse0
  have h2 := h.fuse1
  have h3 := h.acts0
  have e : -1 ≤ D.act.1.fuse ∧ D.act.1.fuse < 2 ^ 63 ∧ D.act.1.acts = D.acts + 1 := by
    unfold Dk.act; split
    · exact ⟨h1, h2, rfl⟩
    · refine ⟨?_, ?_, rfl⟩
      · show -1 ≤ max (D.fuse - 1) (-1); omega
      · show max (D.fuse - 1) (-1) < 2 ^ 63; omega
  exact ⟨e.1, e.2.1, by rw [e.2.2]; omega, by rw [e.2.2]; exact ha, by rw [s3]; exact h.held, by rw [s2]; exact h.now, by rw [s1, s2]; exact h.safe, by rw [s4, s2]; exact h.faults, by rw [s3, s2]; exact h.at_⟩
theorem Small.write {D : Dk} (h : Small D) {i : Nat} {b : Blk} (hi : i < D.now.length) (hl : D.held.length + 1 < 2 ^ 30) (ha : D.acts + 1 < 2 ^ 40) : Small (D.write i b) := by
  have hA := h.act ha
  obtain ⟨s1, s2, s3, s4⟩ := act_same D
  unfold Dk.write
  split
  · refine ⟨hA.fuse0, hA.fuse1, hA.acts0, hA.acts1, ?_, ?_, ?_, ?_, ?_⟩
    · show (D.held ++ [((i : Int), b)]).length < 2 ^ 30; rw [List.length_append, List.length_singleton]; exact hl
    · show (D.now.set i b).length ≤ 4096; rw [List.length_set]; exact h.now
    · show D.act.1.safe.length = (D.now.set i b).length; rw [List.length_set, s1]; exact h.safe
    · show D.act.1.faults.length = (D.now.set i b).length; rw [List.length_set, s4]; exact h.faults
    · intro w hw
      show 0 ≤ w.1 ∧ w.1 < ((D.now.set i b).length : Int)
      rw [List.length_set]
      rcases List.mem_append.1 hw with hw | hw
      · exact h.at_ w hw
      · rw [List.mem_singleton] at hw; subst hw; exact ⟨by simp, by simpa using hi⟩
  · exact hA
theorem Small.crash {D : Dk} (h : Small D) (m : List Int) : Small (D.crash m) := by
  have hl := crashTo_length m D.safe D.held D.held.length
  have := h.now; have := h.safe; have := h.faults
  constructor <;> simp [Dk.crash, hl] <;> omega
theorem Small.fault {D : Dk} (h : Small D) (i : Nat) (on : Bool) : Small (D.fault i on) := ⟨h.fuse0, h.fuse1, h.acts0, h.acts1, h.held, h.now, h.safe, by simp [Dk.fault, h.faults], h.at_⟩

theorem new_zero {H : PH} {Q : Option Addr → Int → PH → Prop} (hQ : Q none 1 H) : vdisk_New 0 H Q := mJoin_intro (mIf_pos rfl (mIf_pos rfl hQ))
end Go.Proofs.Ytdoldlinaghfbaa

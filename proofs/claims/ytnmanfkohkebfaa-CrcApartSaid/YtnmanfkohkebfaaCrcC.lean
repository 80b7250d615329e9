/- THE LAWS' OWN FUNCTIONS: awake, joined, few, Turned; and the four laws on formulas. -/
import Derived.Test.YtnmanfkohkebfaaCrcB
set_option linter.unusedVariables false
set_option linter.unusedSimpArgs false
namespace Go.Proofs.Ytnmanfkohkebfaa
open Go Go.Kx Crc

theorem newBytes {H : PH} {l : List Int} {e : TypeId} {K : Sl → PH → Prop} (h : ∀ r H', Ext H H' → Bytes H' r l → K r H') :
    mNewS H (row (l.map (Value.int .u8)) e) l.length fun r H2 => mMark H2 r fun H4 => K r H4 := by
  rintro r H2 ⟨b, hb, rfl, rfl⟩
  refine ⟨b, 0, l.map (Value.int .u8), e, rfl, by simp, h _ _ ?_ ⟨rfl, Nat.le_refl _, fun i x hi => ⟨_, rfl, rfl, ?_⟩⟩⟩
  · exact ((Ext.upd hb).put hb)
  · rw [add_mk, cellAt_of_row (PH.upd_same _ _ _), Nat.zero_add, List.getElem?_map, hi]; rfl
theorem newRow1 {H : PH} {s : Sl} {l : List Int} {e : TypeId} {K : Sl → PH → Prop} (hs : Bytes H s l) (hb : Byt l) (hl : l.length < 2 ^ 62) (h : ∀ r H', Ext H H' → Rows H' r [(s, l)] → K r H') :
    mNewS H (row [Sl.v s] e) 1 fun r H2 => K r H2 := by
  intro r H' hn
  have hx := Ext.newS hn
  have hv : Vec Sl.v H' r [s] := Vec.ofNew (e := e) hn
  exact h r H' hx ⟨by simpa using hv.list, fun p hp => by simp at hp; subst hp; exact ⟨hs.ext hx, hb, hl⟩⟩

theorem awake_spec {H : PH} {Q : Bool → PH → Prop} (hQ : ∀ H', Ext H H' → Q true H') : keelsonlaw2_awake H Q := by
  refine newBytes (l := [49, 50, 51, 52, 53, 54, 55, 56, 57]) fun r1 H1 x1 b1 => ?_
  refine newRow1 b1 (by decide) (by decide) fun r2 H2 x2 b2 => Sum_spec b2 (by simp) ?_
  have e1 : ((sumB (cat [(r1, [49, 50, 51, 52, 53, 54, 55, 56, 57])])).toNat : Int) = 3808858755 := by
    show ((sumB [49, 50, 51, 52, 53, 54, 55, 56, 57]).toNat : Int) = 3808858755
    decide +kernel
  rw [e1]
  refine mJoin_intro (mIf_intro (fun _ => Sum_nil ?_) (fun h => by simp at h))
  refine mJoin_intro (mIf_intro (fun _ => ?_) (fun h => by simp at h))
  refine newBytes (l := [49, 50, 51, 52]) fun r3 H3 x3 b3 => ?_
  refine newRow1 b3 (by decide) (by decide) fun r4 H4 x4 b4 => Sum_spec b4 (by simp) ?_
  refine newBytes (l := [53, 54, 55, 56, 57]) fun r5 H5 x5 b5 => More_spec b5 (by decide) (by decide) ?_
  have e2 : ((moreB (sumB (cat [(r3, [49, 50, 51, 52])])) [53, 54, 55, 56, 57]).toNat : Int) = 3808858755 := by
    show ((moreB (sumB [49, 50, 51, 52]) [53, 54, 55, 56, 57]).toNat : Int) = 3808858755
    decide +kernel
  rw [e2]
  exact hQ _ ((((x1.trans x2).trans x3).trans x4).trans x5)

/-- A vector of the call's own, apart from what stood in H0. -/
def Own0 (H0 : PH) (s : Sl) : Prop := ∀ c, s.has c → H0 c = none

theorem joined_spec {H : PH} {s : Sl} {ls : List (Sl × List Int)} {Q : Sl → PH → Prop} (hb : Rows H s ls) (hl : ls.length < 2 ^ 62) (hbd : (cat ls).length ≤ 2 ^ 40)
    (hQ : ∀ r H', Ext H H' → Vec (Value.int .u8) H' r (cat ls) → Own0 H r → Q r H') : keelsonlaw2_joined s H Q := by
  have hlen : s.len = ls.length := by simpa using hb.1.1
  refine mLoop_count ls.length (fun k s1 H1 => Ext H H1 ∧ Vec (Value.int .u8) H1 s1.1 (cat (ls.take k)) ∧ Own0 H s1.1 ∧ s1.2 = (k : Int)) ⟨.refl _, .inl ⟨rfl, rfl⟩, (fun c ⟨a, ha, _⟩ => by cases ha), rfl⟩ ?_
  rintro k ⟨v, i⟩ H1 again hk ⟨hx, hv, ho, rfl⟩ hag
  have hb1 := hb.ext hx
  refine mIf_intro (fun hc => ?_) (fun hc => ?_)
  · have hlt : k < ls.length := by simp at hc; omega
    refine idx_ld hb1.1 (by simp) (by simpa using hlt) fun x hx2 => ?_
    simp only [Int.toNat_natCast, List.getElem?_map, Option.map_eq_some_iff] at hx2
    obtain ⟨p, hp, rfl⟩ := hx2
    obtain ⟨h1, h2, h3⟩ := hb1.2 p (List.mem_of_getElem? hp)
    have hcl : (cat (ls.take k)).length + p.2.length ≤ (cat ls).length := by
      have e : cat ls = cat (ls.take (k + 1)) ++ cat (ls.drop (k + 1)) := by simp [cat, ← List.flatten_append, ← List.map_append]
      rw [e, cat_take hp]; simp
    refine app_vec hv h1 (fun _ => rfl) rfl (by omega) fun r H2 hv2 hk2 hn2 => hag hlt _ _ ⟨fun c o hc => ?_, ?_, fun c hc => ?_, ?_⟩
    · exact hk2 c o (hx c o hc) (fun hh => by have := ho c hh; rw [hc] at this; cases this)
    · rw [cat_take hp]; exact hv2
    · rcases hn2 c hc with hh | hh
      · exact ho c hh
      · exact hx.none hh
    · rw [wrap64_id (by omega) (by omega)]; push_cast; rfl
  · have : k = ls.length := by simp at hc; omega
    subst this
    rw [List.take_length] at hv
    exact hQ _ _ hx hv ho

theorem few_spec {H : PH} {s : Sl} {ls : List (Sl × List Int)} {Q : Bool → PH → Prop} (hb : Rows H s ls) (hl : ls.length < 2 ^ 62) (hbd : (cat ls).length ≤ 2 ^ 40)
    (hQ : ∀ H', Ext H H' → Q (decide (ls.length ≤ 20) && decide ((cat ls).length ≤ 2000)) H') : keelsonlaw2_few s H Q := by
  have hlen : s.len = ls.length := by simpa using hb.1.1
  refine mJoin_intro (mIf_intro (fun hc => ?_) (fun hc => ?_))
  · refine joined_spec hb hl hbd fun r H' hx hv ho => ?_
    have h1 : ls.length ≤ 20 := by simp at hc; omega
    have h2 := hv.list.1
    have := hQ H' hx
    simp only [h1, decide_true, Bool.true_and] at this
    rw [h2]
    have e : decide (((cat ls).length : Int) ≤ 2000) = decide ((cat ls).length ≤ 2000) := by
      rw [decide_eq_decide]; omega
    rw [e]; exact this
  · have h1 : ¬ ls.length ≤ 20 := by simp at hc; omega
    have := hQ H (.refl _)
    simpa [h1] using this

/-- The end of a law: it has answered true; all stands as it stood. -/
def Done (H : PH) (r : Bool) (H' : PH) : Prop := r = true ∧ Ext H H'

theorem tells_law {H : PH} {s : Sl} {ls : List (Sl × List Int)} {x : Int} {b : Sl} {l : List Int} (hb : Rows H s ls) (hl : ls.length < 2 ^ 62) (hbd : (cat ls).length ≤ 2 ^ 40) (hb2 : Bytes H b l) (hr : Byt l) (hl2 : l.length < 2 ^ 62)
    (hr2 : Byt (cat ls)) : keelsonlaw2_CrcTells s x b H (Done H) := by
  refine few_spec hb hl hbd fun H1 x1 => ?_
  have hawake : ∀ H2, Ext H H2 → keelsonlaw2_awake H2 (Done H) := fun H2 x2 => awake_spec fun H3 x3 => ⟨rfl, x2.trans x3⟩
  have hbig : ∀ H2, Ext H H2 → mIf true (keelsonlaw2_awake H2 fun y10 H9 => Done H y10 H9) True := fun H2 x2 => mIf_intro (fun _ => hawake H2 x2) (fun h => by cases h)
  refine mJoin_intro (mIf_intro (fun hc => ?_) (fun hc => ?_))
  · exact mIf_intro (fun _ => hawake H1 x1) (fun h => by cases h)
  · refine mIf_intro (fun _ => hawake H1 x1) (fun hc2 => ?_)
    refine Sum_spec (hb.ext x1) hl ?_
    refine joined_spec (hb.ext x1) hl hbd fun r H2 x2 hv _ => ?_
    have h12 := x1.trans x2
    refine refSum_spec hv.list hr2 (by omega) ?_
    refine mJoin_intro (mIf_intro (fun _ => ?_) (fun h => by simp at h))
    refine More_any (hb2.ext h12) hr hl2 (refMore_spec (hb2.ext h12) hr hl2 ?_)
    refine mJoin_intro (mIf_intro (fun _ => ?_) (fun h => by simp at h))
    exact hawake H2 h12
end Go.Proofs.Ytnmanfkohkebfaa

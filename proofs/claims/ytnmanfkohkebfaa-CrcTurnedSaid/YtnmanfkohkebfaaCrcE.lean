/- THE LAWS CrcParts, CrcTurned AND CrcApart, on formulas. -/
import Derived.Test.YtnmanfkohkebfaaCrcC
import Derived.Test.YtnmanfkohkebfaaCrcD
import Derived.Test.YtnmanfkohkebfaaKxX
set_option linter.unusedVariables false
set_option linter.unusedSimpArgs false
namespace Go.Proofs.Ytnmanfkohkebfaa
open Go Go.Kx Crc

theorem whole_spec {H : PH} {s : Sl} {l : List Int} {Q : Sl → PH → Prop} (hs : Bytes H s l) (hl : l.length ≤ 2 ^ 40)
    (hQ : ∀ r H', Ext H H' → Go.Kx.Own0 H r → Vec (Value.int .u8) H' r l → Q r H') : keelsonref1_Part s 0 (s.len : Int) H Q := by
  have e : IntKind.wrap .i64 ((s.len : Int) - 0) = (l.length : Int) := by rw [hs.lenI, wrap64_id (by omega) (by omega), Int.sub_zero]
  unfold keelsonref1_Part
  rw [e, hs.lenI]
  refine mk_vec (enc := Value.int .u8) (by omega) (by omega) fun r H1 x1 o1 v1 => ?_
  refine cut_list hs (by omega) (by omega) (by omega) fun r2 l2 _ => ?_
  refine copy_vec v1 (l2.ext x1) (fun _ => rfl) fun H2 v2 k2 => hQ r H2 (x1.keep k2 o1) o1 ?_
  have : (List.take (List.replicate ((l.length : Int)).toNat (0 : Int)).length ((l.drop (0 : Int).toNat).take ((l.length : Int).toNat - (0 : Int).toNat)) ++ (List.replicate ((l.length : Int)).toNat (0 : Int)).drop ((l.drop (0 : Int).toNat).take ((l.length : Int).toNat - (0 : Int).toNat)).length) = l := by simp
  rw [this] at v2; exact v2

theorem shr_test {p : Int} {k : Nat} (h0 : 0 ≤ p) (h1 : p < 2 ^ 32) (hk : k < 32) : (iand .u32 (ishr .u32 p (k : Int)) 1 == 1) = p.toNat.testBit k := by
  obtain ⟨n, rfl⟩ := Int.eq_ofNat_of_zero_le h0
  have hn : n < 2 ^ 32 := by exact_mod_cast h1
  have e : ishr .u32 (n : Int) (k : Int) = (((BitVec.ofNat 32 n) >>> k).toNat : Int) := by
    simp only [ishr, IntKind.bits, Int.toNat_natCast]
    rw [Nat.min_eq_left (by omega), Int.fdiv_eq_ediv_of_nonneg _ (by exact_mod_cast Nat.zero_le _)]
    rw [BitVec.toNat_ushiftRight, BitVec.toNat_ofNat, Nat.mod_eq_of_lt hn, Nat.shiftRight_eq_div_pow]
    push_cast; rfl
  rw [e, odd_v]
  rw [BitVec.getLsbD_ushiftRight, BitVec.getLsbD_ofNat]
  simp [hk]

/-- Behind k rounds. -/
structure At (l x : List Int) (first pat k : Nat) : Prop where
  len : x.length = l.length
  byt : Byt x
  bits : ∀ p, p < 8 * l.length → bit x p = (bit l p ^^ (decide (first ≤ p) && decide (p < first + k) && pat.testBit (p - first)))
def anyOf (n first pat k : Nat) : Bool := (List.range k).any fun j => pat.testBit j && decide (first + j < n)

theorem Turned_spec {H : PH} {s : Sl} {l : List Int} {at' pat : Int} {Q : Sl → Bool → PH → Prop} (hs : Bytes H s l) (hb : Byt l) (h1 : 1 ≤ l.length) (hl : l.length ≤ 1000) (hp0 : 0 ≤ pat) (hp1 : pat < 2 ^ 32)
    (hQ : ∀ r H' x, Ext H H' → Bytes H' r x → Byt x → Turn l x (at' % (8 * l.length)).toNat pat.toNat → Q r (anyOf (8 * l.length) (at' % (8 * l.length)).toNat pat.toNat 32) H') :
    keelsonalike_Turned s (s.len : Int) at' pat H Q := by
  have hlen := hs.lenI
  refine whole_spec hs (by omega) fun r H1 x1 o1 v1 => ?_
  refine mJoin_intro (mIf_intro (fun h => by simp at h; omega) (fun _ => ?_))
  have e0 : decide ((s.len : Int) < (s.len : Int)) = false := by simp
  rw [e0]
  refine mIf_intro (fun h => by cases h) (fun _ => ?_)
  have e8 : IntKind.wrap .i64 (8 * (s.len : Int)) = 8 * (l.length : Int) := by rw [hlen, wrap64_id (by omega) (by omega)]
  rw [e8]
  refine Round_spec (by omega) (by omega) ?_
  generalize hf : at' % (8 * (l.length : Int)) = f at *
  have hf0 : 0 ≤ f := by rw [← hf]; exact Int.emod_nonneg _ (by omega)
  have hf1 : f < 8 * l.length := by rw [← hf]; exact Int.emod_lt_of_pos _ (by omega)
  obtain ⟨fn, rfl⟩ := Int.eq_ofNat_of_zero_le hf0
  obtain ⟨pn, rfl⟩ := Int.eq_ofNat_of_zero_le hp0
  simp only [Int.toNat_natCast] at hQ
  refine mLoop_count 32 (fun k s1 H2 => Ext H H2 ∧ s1 = (anyOf (8 * l.length) fn pn k, (k : Int)) ∧ ∃ x, Vec (Value.int .u8) H2 r x ∧ At l x fn pn k) ⟨x1, rfl, l, v1, rfl, hb, fun p _ => ?_⟩ ?_
  · have : ¬ (fn ≤ p ∧ p < fn + 0) := by omega
    have : (decide (fn ≤ p) && decide (p < fn + 0)) = false := by rw [← Bool.decide_and, decide_eq_false this]
    rw [this]; simp
  rintro k s1 H2 again hk ⟨x2, rfl, x, v2, a2⟩ hag
  refine mIf_intro (fun hc => ?_) (fun hc => ?_)
  · have hk32 : k < 32 := by simp at hc; omega
    have ea : anyOf (8 * l.length) fn pn (k + 1) = (anyOf (8 * l.length) fn pn k || (pn.testBit k && decide (fn + k < 8 * l.length))) := by simp [anyOf, List.range_succ]
    have ew : IntKind.wrap .i64 ((fn : Int) + (k : Int)) = ((fn + k : Nat) : Int) := by rw [wrap64_id (by omega) (by omega)]; push_cast; rfl
    refine mJoin_intro ⟨by simp, mJoin_intro ?_⟩
    dsimp only
    rw [shr_test (by omega) hp1 hk32, ew]
    have enext : IntKind.wrap .i64 ((k : Int) + 1) = ((k + 1 : Nat) : Int) := by rw [wrap64_id (by omega) (by omega)]; push_cast; rfl
    rw [enext]
    have hno : (pn.testBit k && decide (fn + k < 8 * l.length)) = false → again (anyOf (8 * l.length) fn pn k, ((k + 1 : Nat) : Int)) H2 := fun hno => by
      refine hag hk32 _ _ ⟨x2, by rw [ea, hno, Bool.or_false], x, v2, a2.len, a2.byt, fun p hp => ?_⟩
      rw [a2.bits p hp]
      congr 1
      by_cases hpk : p = fn + k
      · subst hpk
        simp only [hp, decide_true, Bool.and_true] at hno
        simp [hno]
      · have : decide (p < fn + k) = decide (p < fn + (k + 1)) := by rw [decide_eq_decide]; omega
        rw [this]
    simp only [Int.toNat_natCast]
    refine mIf_intro (fun hb1 => ?_) (fun hb1 => ?_)
    · have e8' : decide (((fn + k : Nat) : Int) < 8 * (l.length : Int)) = decide (fn + k < 8 * l.length) := by rw [decide_eq_decide]; omega
      rw [e8']
      refine mIf_intro (fun hb2 => ?_) (fun hb2 => ?_)
      · have hlt : fn + k < 8 * l.length := by simpa using hb2
        have ed : IntKind.wrap .i64 (((fn + k : Nat) : Int).tdiv 8) = (((fn + k) / 8 : Nat) : Int) := by
          have : ((fn + k : Nat) : Int).tdiv 8 = (((fn + k) / 8 : Nat) : Int) := by rw [Int.tdiv_eq_ediv_of_nonneg (by omega)]; omega
          rw [this, wrap64_id (by omega) (by omega)]
        have em : ((fn + k : Nat) : Int).tmod 8 = (((fn + k) % 8 : Nat) : Int) := by
          rw [Int.tmod_eq_emod_of_nonneg (by omega)]; omega
        rw [ed, em]
        have hq : (fn + k) / 8 < x.length := by rw [a2.len]; omega
        refine idx_ld v2.list (by omega) (by omega) fun y hy => ?_
        simp only [Int.toNat_natCast] at hy
        obtain ⟨g0, g1⟩ := a2.byt.get hy
        refine ⟨by omega, ?_⟩
        obtain ⟨z, hz, z0, z1, zb⟩ := flip_byte g0 g1 (show (fn + k) % 8 < 8 by omega)
        rw [hz]
        refine put_vec (x := z) v2 (by omega) (by omega) rfl fun H3 v3 k3 => ?_
        refine hag hk32 _ _ ⟨x2.keep k3 o1, by rw [ea, hb1]; simp [hlt], _, v3, by simp [a2.len], fun c hcm => ?_, fun p hp => ?_⟩
        · rcases List.mem_or_eq_of_mem_set hcm with h | h
          · exact a2.byt c h
          · rw [h]; exact ⟨z0, z1⟩
        · simp only [Int.toNat_natCast]
          rw [bit_set hy (by omega) zb, a2.bits p hp]
          have e9 : 8 * ((fn + k) / 8) + (fn + k) % 8 = fn + k := by omega
          rw [e9, Bool.xor_assoc]
          congr 1
          by_cases hpk : p = fn + k
          · subst hpk; simp [hb1]
          · have : decide (p < fn + k) = decide (p < fn + (k + 1)) := by rw [decide_eq_decide]; omega
            rw [this]; simp [hpk]
      · exact hno (by rw [hb2, Bool.and_false])
    · exact mIf_intro (fun h => by cases h) (fun _ => hno (by rw [hb1, Bool.false_and]))
  · have : k = 32 := by simp at hc; omega
    subst this
    refine hQ _ _ x x2 v2.list a2.byt ⟨a2.len, fun p hp => ?_⟩
    rw [a2.bits p hp]; rfl

theorem sum1_spec {H : PH} {s : Sl} {l : List Int} {K : Int → PH → Prop} (hs : Bytes H s l) (hb : Byt l) (hl : l.length < 2 ^ 62) (h : ∀ H', Ext H H' → K ((sumB l).toNat : Int) H') :
    mNewS H (row [Sl.v s] 23) 1 fun r H2 => crc_Sum r H2 fun y H3 => K y H3 :=
  newRow1 hs hb hl fun r H' hx hr => Sum_spec hr (by simp) (by simpa [cat] using h H' hx)
theorem neq_xor (a b : BitVec 32) : ((a.toNat : Int) != (b.toNat : Int)) = decide (a ^^^ b ≠ 0) := by
  have h1 : a ^^^ b = 0 ↔ a = b := by
    constructor
    · intro h
      have : (a ^^^ b) ^^^ b = b := by rw [h]; exact BitVec.zero_xor
      rw [BitVec.xor_assoc, BitVec.xor_self] at this
      simpa using this
    · intro h; subst h; exact BitVec.xor_self
  have h2 : ((a.toNat : Int) = (b.toNat : Int)) ↔ a = b := by
    constructor
    · intro h; exact BitVec.eq_of_toNat_eq (by exact_mod_cast h)
    · intro h; rw [h]
  by_cases h : a = b
  · subst h; simp
  · have h3 : ¬ (a ^^^ b = 0) := fun e => h (h1.1 e)
    have h4 : ¬ ((a.toNat : Int) = (b.toNat : Int)) := fun e => h (h2.1 e)
    rw [decide_eq_true h3, bne_iff_ne]; exact h4
theorem any_dif {n f pn : Nat} (hf : f < n) : decide (dif n f pn ≠ 0) = anyOf n f pn 32 := by
  by_cases h : dif n f pn = 0
  · rw [decide_eq_false (fun h' => h' h)]
    have := (dif_zero hf).1 h
    symm
    unfold anyOf
    rw [List.any_eq_false]
    intro k hk
    have hk : k < 32 := by simpa using hk
    by_cases hn : f + k < n
    · simp [this k hk hn]
    · simp [hn]
  · rw [decide_eq_true h]
    symm
    cases ha : anyOf n f pn 32 with
    | true => rfl
    | false =>
      refine absurd ((dif_zero hf).2 fun k hk hn => ?_) h
      have := List.any_eq_false.1 ha k (by simpa using hk)
      simpa [hn] using this

theorem turned_law {H : PH} {s : Sl} {l : List Int} {at' pat : Int} (hs : Bytes H s l) (hb : Byt l) (hp0 : 0 ≤ pat) (hp1 : pat < 2 ^ 32) : keelsonlaw2_CrcTurned s at' pat H (Done H) := by
  have hlen := hs.lenI
  have hawake : ∀ H2, Ext H H2 → keelsonlaw2_awake H2 (Done H) := fun H2 x2 => awake_spec fun H3 x3 => ⟨rfl, x2.trans x3⟩
  have main : 1 ≤ l.length → l.length ≤ 1000 → keelsonalike_Turned s (s.len : Int) at' pat H fun y10 y11 H9 =>
      mNewS H9 (row [Sl.v y10] 23) 1 fun r12 H13 => crc_Sum r12 H13 fun y16 H15 => mNewS H15 (row [Sl.v s] 23) 1 fun r17 H18 => crc_Sum r17 H18 fun y21 H20 =>
      mJoin (fun (s23 : Bool) (H25 : PH) => Done H s23 H25) fun j24 => mIf ((y16 != y21) == y11) (keelsonlaw2_awake H20 fun y28 H27 => j24 y28 H27) (j24 false H20) := fun h1 h2 => by
    refine Turned_spec hs hb h1 h2 hp0 hp1 fun r H1 x x1 v1 b1 t1 => ?_
    refine sum1_spec v1 b1 (by rw [t1.1]; omega) fun H2 x2 => ?_
    refine sum1_spec (hs.ext (x1.trans x2)) hb (by omega) fun H3 x3 => ?_
    have hf : (at' % (8 * l.length)).toNat < 8 * l.length := by
      have := Int.emod_lt_of_pos at' (show (0 : Int) < 8 * l.length by omega)
      have := Int.emod_nonneg at' (show (8 * (l.length : Int)) ≠ 0 by omega)
      omega
    rw [neq_xor, sum_turn t1, any_dif hf]
    refine mJoin_intro (mIf_intro (fun _ => hawake H3 ((x1.trans x2).trans x3)) (fun h => by simp at h))
  unfold keelsonlaw2_CrcTurned
  refine mJoin_intro (mIf_intro (fun hc => ?_) (fun hc => ?_))
  · exact mIf_intro (fun _ => hawake H (.refl _)) (fun h => by cases h)
  · have h1 : 1 ≤ l.length := by simp at hc; omega
    refine mIf_intro (fun _ => hawake H (.refl _)) (fun hc2 => main h1 ?_)
    simp at hc2; omega

theorem apart_law {H : PH} {s t : Sl} {l m : List Int} {at' pat : Int} (hs : Bytes H s l) (ht : Bytes H t m) (hb : Byt l) (hbm : Byt m) (hp0 : 0 ≤ pat) (hp1 : pat < 2 ^ 32) : keelsonlaw2_CrcApart s t at' pat H (Done H) := by
  have hlen := hs.lenI
  have hlen2 := ht.lenI
  have hawake : ∀ H2, Ext H H2 → keelsonlaw2_awake H2 (Done H) := fun H2 x2 => awake_spec fun H3 x3 => ⟨rfl, x2.trans x3⟩
  unfold keelsonlaw2_CrcApart
  refine mJoin_intro (mIf_intro (fun hc => ?_) (fun hc => ?_))
  · refine mJoin_intro (mIf_intro (fun _ => ?_) (fun h => by cases h))
    exact mIf_intro (fun _ => hawake H (.refl _)) (fun h => by cases h)
  · have h1 : 1 ≤ l.length := by simp at hc; omega
    refine mJoin_intro (mIf_intro (fun _ => ?_) (fun hne => ?_))
    · exact mIf_intro (fun _ => hawake H (.refl _)) (fun h => by cases h)
    · have heq : l.length = m.length := by simp at hne; omega
      refine mIf_intro (fun _ => hawake H (.refl _)) (fun hc2 => ?_)
      have h2 : l.length ≤ 500 := by simp at hc2; omega
      refine Turned_spec hs hb h1 (by omega) hp0 hp1 fun r1 H1 x x1 v1 b1 t1 => ?_
      refine Turned_spec (ht.ext x1) hbm (by omega) (by omega) hp0 hp1 fun r2 H2 y x2 v2 b2 t2 => ?_
      refine sum1_spec (v1.ext x2) b1 (by rw [t1.1]; omega) fun H3 x3 => ?_
      refine sum1_spec (hs.ext ((x1.trans x2).trans x3)) hb (by omega) fun H4 x4 => ?_
      refine sum1_spec (v2.ext (x3.trans x4)) b2 (by rw [t2.1]; omega) fun H5 x5 => ?_
      refine sum1_spec (ht.ext ((((x1.trans x2).trans x3).trans x4).trans x5)) hbm (by omega) fun H6 x6 => ?_
      rw [xor_words, xor_words, sum_turn t1, sum_turn t2, heq]
      exact mJoin_intro (mIf_intro (fun _ => hawake H6 (((((x1.trans x2).trans x3).trans x4).trans x5).trans x6)) (fun h => by simp at h))

theorem Own0.app {H H1 : PH} {s r : Sl} (o : Go.Kx.Own0 H s) (x : Ext H H1) (hn : ∀ c, r.has c → s.has c ∨ H1 c = none) : Go.Kx.Own0 H r := fun c hc => by
  rcases hn c hc with h | h
  · exact o c h
  · exact x.none h

theorem parts_law {H : PH} {s t : Sl} {l m : List Int} (hs : Bytes H s l) (ht : Ints H t m) (hb : Byt l) : keelsonlaw2_CrcParts s t H (Done H) := by
  have hlen := hs.lenI
  have hlen2 := ht.lenI
  have hawake : ∀ H2, Ext H H2 → keelsonlaw2_awake H2 (Done H) := fun H2 x2 => awake_spec fun H3 x3 => ⟨rfl, x2.trans x3⟩
  unfold keelsonlaw2_CrcParts
  refine mJoin_intro (mIf_intro (fun hc => ?_) (fun hc => ?_))
  · exact mIf_intro (fun _ => hawake H (.refl _)) (fun h => by cases h)
  · have h1 : l.length ≤ 1000 := by simp at hc; omega
    refine mIf_intro (fun _ => hawake H (.refl _)) (fun hc2 => ?_)
    have h2 : m.length ≤ 20 := by simp at hc2; omega
    refine sum1_spec hs hb (by omega) fun H1 x1 => Sum_nil ?_
    have e0 : ((sumB ([] : List Int)).toNat : Int) = 0 := by decide
    refine mLoop_count m.length (fun k s1 H2 => Ext H H2 ∧ ∃ (f : Nat) (v : Sl) (ls : List (Sl × List Int)), s1 = (((sumB (l.take f)).toNat : Int), (f : Int), v, (k : Int)) ∧ f ≤ l.length ∧ ls.length = k ∧ cat ls = l.take f ∧ Vec Sl.v H2 v (ls.map (·.1)) ∧ Go.Kx.Own0 H v ∧ ∀ p, p ∈ ls → Bytes H p.1 p.2 ∧ Byt p.2 ∧ p.2.length < 2 ^ 62)
      ⟨x1, 0, Sl.nil, [], by rw [List.take_zero, e0]; rfl, by omega, rfl, rfl, .inl ⟨rfl, rfl⟩, .nil, fun p hp => by cases hp⟩ ?_
    rintro k s1 H2 again hk ⟨x2, f, v, ls, rfl, hf, hls, hcat, hv, ho, hrow⟩ hag
    refine mIf_intro (fun hc3 => ?_) (fun hc3 => ?_)
    · have hkm : k < m.length := by simp at hc3; omega
      refine idx_ld (ht.ext x2) (by simp) (by simpa using hkm) fun c hcx => ?_
      have ed : IntKind.wrap .i64 (IntKind.wrap .i64 ((s.len : Int) - (f : Int)) + 1) = (l.length : Int) - f + 1 := by rw [hlen, wrap64_id (x := (l.length : Int) - f) (by omega) (by omega), wrap64_id (by omega) (by omega)]
      dsimp only
      rw [ed]
      refine Round_spec (by omega) (by omega) ?_
      have hr0 := Int.emod_nonneg c (show (l.length : Int) - f + 1 ≠ 0 by omega)
      have hr1 := Int.emod_lt_of_pos c (show (0 : Int) < (l.length : Int) - f + 1 by omega)
      obtain ⟨g, hg⟩ := Int.eq_ofNat_of_zero_le hr0
      rw [hg]
      rw [hg] at hr1
      have ew : IntKind.wrap .i64 ((f : Int) + (g : Int)) = ((f + g : Nat) : Int) := by rw [wrap64_id (by omega) (by omega)]; push_cast; rfl
      rw [ew]
      refine cut_list (hs.ext x2) (by omega) (by omega) (by omega) fun r2 l2 _ => ?_
      simp only [Int.toNat_natCast] at l2
      have hbd : Byt ((l.drop f).take (f + g - f)) := fun x hx => hb x (List.mem_of_mem_drop (List.mem_of_mem_take hx))
      have hll : ((l.drop f).take (f + g - f)).length < 2 ^ 62 := by simp; omega
      have et : l.take f ++ (l.drop f).take (f + g - f) = l.take (f + g) := by rw [Nat.add_sub_cancel_left, ← List.take_add]
      refine More_spec l2 hbd hll ?_
      rw [← sum_more, et]
      refine cut_list hs (by omega) (by omega) (by omega) fun r3 l3 _ => ?_
      simp only [Int.toNat_natCast] at l3
      refine new1 (enc := Sl.v) fun r4 H3 x3 l4 o4 => ?_
      refine app_vec (hv.ext x3) l4 (fun _ => rfl) rfl (by simp; omega) fun r5 H4 v5 k5 n5 => ?_
      have x23 := x2.trans x3
      refine hag hkm _ _ ⟨x23.keep k5 ho, f + g, r5, ls ++ [(r3, (l.drop f).take (f + g - f))], ?_, by omega, by simp [hls], ?_, by simpa using v5, Own0.app ho x23 n5, ?_⟩
      · have : IntKind.wrap .i64 ((k : Int) + 1) = ((k + 1 : Nat) : Int) := by rw [wrap64_id (by omega) (by omega)]; push_cast; rfl
        rw [this]
      · rw [← et, ← hcat]; simp [cat]
      · intro p hp
        rcases List.mem_append.1 hp with hp | hp
        · exact hrow p hp
        · simp only [List.mem_singleton] at hp; subst hp; exact ⟨l3, hbd, hll⟩
    · have : k = m.length := by simp at hc3; omega
      subst this
      dsimp only
      rw [hlen]
      have hbd : Byt ((l.drop f).take (l.length - f)) := fun x hx => hb x (List.mem_of_mem_drop (List.mem_of_mem_take hx))
      have hll : ((l.drop f).take (l.length - f)).length < 2 ^ 62 := by simp; omega
      have et : l.take f ++ (l.drop f).take (l.length - f) = l := by rw [List.take_of_length_le (l := l.drop f) (by simp), List.take_append_drop]
      refine cut_list hs (by omega) (by omega) (by omega) fun r3 l3 _ => ?_
      simp only [Int.toNat_natCast] at l3
      refine new1 (enc := Sl.v) fun r4 H3 x3 l4 o4 => ?_
      refine app_vec (hv.ext x3) l4 (fun _ => rfl) rfl (by simp; omega) fun r5 H4 v5 k5 n5 => ?_
      have x4 := (x2.trans x3).keep k5 ho
      refine cut_list (K := fun r6 => crc_More _ r6 H4 _) hs (by omega) (by omega) (by omega) fun r6 l6 _ => ?_
      refine More_spec (l := (l.drop f).take (l.length - f)) ((by simpa only [Int.toNat_natCast] using l6 : Bytes H r6 _).ext x4) hbd hll ?_
      rw [← sum_more, et]
      refine mJoin_intro (mIf_intro (fun _ => ?_) (fun h => by simp at h))
      have hrows : Rows H4 r5 (ls ++ [(r3, (l.drop f).take (l.length - f))]) := ⟨by simpa using v5.list, fun p hp => by
        rcases List.mem_append.1 hp with hp | hp
        · exact ⟨(hrow p hp).1.ext x4, (hrow p hp).2⟩
        · simp only [List.mem_singleton] at hp; subst hp; exact ⟨l3.ext x4, hbd, hll⟩⟩
      refine Sum_spec hrows (by simp; omega) ?_
      have ec : cat (ls ++ [(r3, (l.drop f).take (l.length - f))]) = l := by
        have : cat (ls ++ [(r3, (l.drop f).take (l.length - f))]) = cat ls ++ (l.drop f).take (l.length - f) := by simp [cat]
        rw [this, hcat, et]
      rw [ec]
      have hlt := (sumB l).isLt
      have d1 : decide ((0 : Int) ≤ ((sumB l).toNat : Int)) = true := by simp
      have d2 : decide (((sumB l).toNat : Int) ≤ 4294967295) = true := by simp; omega
      rw [d1, d2]
      have d0 : (((sumB l).toNat : Int) == ((sumB l).toNat : Int)) = true := by simp
      rw [d0]
      refine mJoin_intro (mIf_intro (fun _ => ?_) (fun h => by cases h))
      refine mJoin_intro (mIf_intro (fun _ => ?_) (fun h => by cases h))
      exact mJoin_intro (mIf_intro (fun _ => hawake H4 x4) (fun h => by cases h))
end Go.Proofs.Ytnmanfkohkebfaa

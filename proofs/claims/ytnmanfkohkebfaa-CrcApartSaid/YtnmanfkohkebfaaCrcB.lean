/- WHAT THE FUNCTIONS OF crc DO: contracts of their formulas. -/
import Derived.Test.YtnmanfkohkebfaaCrcA
import Derived.Test.YtnmanfkohkebfaaFn
set_option linter.unusedVariables false
set_option linter.unusedSimpArgs false
namespace Go.Proofs.Ytnmanfkohkebfaa
open Go Go.Kx Crc

abbrev Byt (l : List Int) : Prop := ∀ x, x ∈ l → 0 ≤ x ∧ x ≤ 255
theorem Byt.get {l : List Int} (h : Byt l) {i : Nat} {x : Int} (hx : l[i]? = some x) : 0 ≤ x ∧ x ≤ 255 := h x (List.mem_of_getElem? hx)
theorem take_succ_get {l : List Int} {k : Nat} {x : Int} (h : l[k]? = some x) : l.take (k + 1) = l.take k ++ [x] := by
  rw [List.take_add_one, h]; rfl

theorem add_spec {H : PH} {s : Sl} {l : List Int} {v : BitVec 32} {Q : Int → PH → Prop} (hb : Bytes H s l) (hr : Byt l) (hl : l.length < 2 ^ 62) (hQ : Q ((addB v l).toNat : Int) H) : crc_add (v.toNat : Int) s H Q := by
  refine mLoop_count l.length (fun k s1 H1 => H1 = H ∧ s1 = (((addB v (l.take k)).toNat : Int), (k : Int))) ⟨rfl, rfl⟩ ?_
  rintro k s1 H1 again hk ⟨rfl, rfl⟩ hag
  refine mIf_intro (fun hc => ?_) (fun hc => ?_)
  · have hlt : k < l.length := by simp at hc; rw [hb.1] at hc; omega
    refine idx_ld hb (by simp) (by simpa using hlt) fun x hx => ?_
    obtain ⟨h0, h1⟩ := hr.get hx
    rw [show ((k : Int)).toNat = k by simp] at hx
    refine mLoop_count 8 (fun i s2 H2 => H2 = H1 ∧ s2 = (((bitsF (addB v (l.take k)) x.toNat i).toNat : Int), (i : Int))) ⟨rfl, rfl⟩ ?_
    rintro i s2 H2 again2 hi ⟨rfl, rfl⟩ hag2
    refine mIf_intro (fun hc2 => ?_) (fun hc2 => ?_)
    · have hi8 : i < 8 := by simp at hc2; omega
      refine mJoin_intro ⟨by simp, ?_⟩
      rw [bit_cond h0 h1 hi8, wrap64_id (by omega) (by omega)]
      refine mIf_intro (fun hb2 => hag2 hi8 _ _ ⟨rfl, ?_⟩) (fun hb2 => hag2 hi8 _ _ ⟨rfl, ?_⟩)
      · rw [shr_v, xor_P]; simp only [bitsF, stepB, hb2, if_true]; push_cast; rfl
      · rw [shr_v]; simp only [bitsF, stepB, hb2]; push_cast; rfl
    · have hi8 : i = 8 := by simp at hc2; omega
      subst hi8
      refine hag hlt _ _ ⟨rfl, ?_⟩
      rw [wrap64_id (by omega) (by omega), take_succ_get hx, addB_append]
      simp only [addB, List.foldl_cons, List.foldl_nil, byteB]
      push_cast; rfl
  · have : k = l.length := by simp at hc; rw [hb.1] at hc; omega
    subst this
    simpa using hQ

theorem More_spec {H : PH} {s : Sl} {l : List Int} {v : BitVec 32} {Q : Int → PH → Prop} (hb : Bytes H s l) (hr : Byt l) (hl : l.length < 2 ^ 62) (hQ : Q ((moreB v l).toNat : Int) H) : crc_More (v.toNat : Int) s H Q := by
  unfold crc_More
  have e : IntKind.wrap .u32 (iand .i64 (v.toNat : Int) 4294967295) = v.toNat := by
    have h1 : iand .i64 (v.toNat : Int) 4294967295 = v.toNat := by
      show IntKind.i64.wrap ((BitVec.ofInt 64 (v.toNat : Int) &&& BitVec.ofInt 64 4294967295).toNat : Int) = _
      have hv := v.isLt
      have : (BitVec.ofInt 64 (v.toNat : Int) &&& BitVec.ofInt 64 4294967295).toNat = v.toNat := by
        rw [BitVec.toNat_and]
        have e1 : (BitVec.ofInt 64 (v.toNat : Int)).toNat = v.toNat := by simp; omega
        have e2 : (BitVec.ofInt 64 4294967295).toNat = 2 ^ 32 - 1 := rfl
        rw [e1, e2, Nat.and_two_pow_sub_one_eq_mod, Nat.mod_eq_of_lt hv]
      rw [this, wrap_v]
    rw [h1, wrap32_v]
  rw [e, com_v]
  refine add_spec hb hr hl ?_
  rw [com_v, wrap_v]; exact hQ
/-- The register behind a sum that is any number: modulo 2 to the 32. -/
def Rg (x : Int) : BitVec 32 := BitVec.ofInt 32 x
theorem iand_mask (x : Int) : IntKind.wrap .u32 (iand .i64 x 4294967295) = ((Rg x).toNat : Int) := by
  have h1 : iand .i64 x 4294967295 = ((Rg x).toNat : Int) := by
    show IntKind.i64.wrap ((BitVec.ofInt 64 x &&& BitVec.ofInt 64 4294967295).toNat : Int) = _
    have : (BitVec.ofInt 64 x &&& BitVec.ofInt 64 4294967295).toNat = (Rg x).toNat := by
      rw [BitVec.toNat_and]
      have e2 : (BitVec.ofInt 64 4294967295).toNat = 2 ^ 32 - 1 := rfl
      rw [e2, Nat.and_two_pow_sub_one_eq_mod]
      simp only [Rg, BitVec.toNat_ofInt]
      omega
    rw [this, wrap_v]
  rw [h1, wrap32_v]
theorem More_any {H : PH} {s : Sl} {l : List Int} {x : Int} {Q : Int → PH → Prop} (hb : Bytes H s l) (hr : Byt l) (hl : l.length < 2 ^ 62) (hQ : Q ((moreB (Rg x) l).toNat : Int) H) : crc_More x s H Q := by
  unfold crc_More
  rw [iand_mask, com_v]
  refine add_spec hb hr hl ?_
  rw [com_v, wrap_v]; exact hQ

/-- Rows of bytes. -/
def Rows (H : PH) (s : Sl) (ls : List (Sl × List Int)) : Prop := ListAt Sl.v H s (ls.map (·.1)) ∧ ∀ p, p ∈ ls → Bytes H p.1 p.2 ∧ Byt p.2 ∧ p.2.length < 2 ^ 62
theorem Rows.ext {A B : PH} {s : Sl} {ls : List (Sl × List Int)} (h : Rows A s ls) (hx : Ext A B) : Rows B s ls := ⟨h.1.ext hx, fun p hp => ⟨(h.2 p hp).1.ext hx, (h.2 p hp).2⟩⟩
def cat (ls : List (Sl × List Int)) : List Int := (ls.map (·.2)).flatten
theorem cat_take {ls : List (Sl × List Int)} {k : Nat} {p : Sl × List Int} (h : ls[k]? = some p) : cat (ls.take (k + 1)) = cat (ls.take k) ++ p.2 := by
  rw [List.take_add_one, h]; simp [cat]

theorem Sum_spec {H : PH} {s : Sl} {ls : List (Sl × List Int)} {Q : Int → PH → Prop} (hb : Rows H s ls) (hl : ls.length < 2 ^ 62) (hQ : Q ((sumB (cat ls)).toNat : Int) H) : crc_Sum s H Q := by
  have hlen : s.len = ls.length := by simpa using hb.1.1
  refine mLoop_count ls.length (fun k s1 H1 => H1 = H ∧ s1 = (((addB (BitVec.allOnes 32) (cat (ls.take k))).toNat : Int), (k : Int))) ⟨rfl, rfl⟩ ?_
  rintro k s1 H1 again hk ⟨rfl, rfl⟩ hag
  refine mIf_intro (fun hc => ?_) (fun hc => ?_)
  · have hlt : k < ls.length := by simp at hc; omega
    refine idx_ld hb.1 (by simp) (by simpa using hlt) fun x hx => ?_
    simp only [Int.toNat_natCast, List.getElem?_map, Option.map_eq_some_iff] at hx
    obtain ⟨p, hp, rfl⟩ := hx
    obtain ⟨h1, h2, h3⟩ := hb.2 p (List.mem_of_getElem? hp)
    refine add_spec h1 h2 h3 (hag hlt _ _ ⟨rfl, ?_⟩)
    rw [wrap64_id (by omega) (by omega), cat_take hp, addB_append]
    push_cast; rfl
  · have : k = ls.length := by simp at hc; omega
    subst this
    rw [com_v, wrap_v]
    rw [List.take_length] ; exact hQ
theorem rows_nil {H : PH} : Rows H Sl.nil [] := ⟨.nil, fun p hp => by cases hp⟩
theorem Sum_nil {H : PH} {Q : Int → PH → Prop} (hQ : Q 0 H) : crc_Sum Sl.nil H Q := Sum_spec rows_nil (by decide) (by simpa [cat, sumB, addB] using hQ)

/-! ### The references -/
theorem Mod_spec {H : PH} {x m : Int} {Q : Int → PH → Prop} (hm : 0 < m) (hm2 : m < 2 ^ 62) (hQ : Q (x % m) H) : keelsonref1_Mod x m H Q := by
  refine ⟨by omega, mJoin_intro (mIf_intro (fun hc => ?_) (fun hc => ?_))⟩
  · have h1 : x.tmod m < 0 := by simpa using hc
    have h2 := Int.lt_tmod_of_pos x hm
    have e : x.tmod m + m = x % m := by
      have h3 := Int.tmod_eq_emod (a := x) (b := m)
      have h4 := Int.emod_nonneg x (by omega : m ≠ 0)
      have h5 := Int.emod_lt_of_pos x hm
      split at h3 <;> omega
    rw [wrap64_id (by omega) (by omega), e]; exact hQ
  · have h1 : ¬ x.tmod m < 0 := by simpa using hc
    have e : x.tmod m = x % m := by
      have h3 := Int.tmod_eq_emod (a := x) (b := m)
      have h4 := Int.emod_nonneg x (by omega : m ≠ 0)
      have h5 := Int.emod_lt_of_pos x hm
      split at h3 <;> omega
    rw [e]; exact hQ
theorem Round_spec {H : PH} {x m : Int} {Q : Int → PH → Prop} (hm : 0 < m) (hm2 : m < 2 ^ 62) (hQ : Q (x % m) H) : keelsonalike_Round x m H Q := Mod_spec hm hm2 hQ

theorem refMore_spec {H : PH} {s : Sl} {l : List Int} {x : Int} {Q : Int → PH → Prop} (hb : Bytes H s l) (hr : Byt l) (hl : l.length < 2 ^ 62) (hQ : Q ((moreB (Rg x) l).toNat : Int) H) : keelsonref1_More x s H Q := by
  refine Mod_spec (by decide) (by decide) ?_
  have e0 : IntKind.wrap .u32 (x % 4294967296) = ((Rg x).toNat : Int) := by
    have h1 := Int.emod_nonneg x (by decide : (4294967296 : Int) ≠ 0)
    have h2 := Int.emod_lt_of_pos x (by decide : (0 : Int) < 4294967296)
    have : x % 4294967296 = ((Rg x).toNat : Int) := by simp only [Rg, BitVec.toNat_ofInt]; omega
    rw [this, wrap32_v]
  rw [e0, com_v]
  refine mLoop_count l.length (fun k s1 H1 => H1 = H ∧ s1 = (((addB (~~~ Rg x) (l.take k)).toNat : Int), (k : Int))) ⟨rfl, rfl⟩ ?_
  rintro k s1 H1 again hk ⟨rfl, rfl⟩ hag
  refine mIf_intro (fun hc => ?_) (fun hc => ?_)
  · have hlt : k < l.length := by simp at hc; rw [hb.1] at hc; omega
    refine idx_ld hb (by simp) (by simpa using hlt) fun y hx => ?_
    obtain ⟨h0, h1⟩ := hr.get hx
    rw [show ((k : Int)).toNat = k by simp] at hx
    refine mLoop_count 8 (fun i s2 H2 => H2 = H1 ∧ s2 = (((bitsF (addB (~~~ Rg x) (l.take k)) y.toNat i).toNat : Int), (((BitVec.ofNat 32 y.toNat) >>> i).toNat : Int), (i : Int))) ⟨rfl, ?_⟩ ?_
    · have hy : IntKind.u32.wrap y = (((BitVec.ofNat 32 y.toNat) >>> 0).toNat : Int) := by
        obtain ⟨n, rfl⟩ := Int.eq_ofNat_of_zero_le h0
        rw [wrapU (by omega)]
        simp; omega
      rw [hy]; rfl
    rintro i s2 H2 again2 hi ⟨rfl, rfl⟩ hag2
    refine mIf_intro (fun hc2 => ?_) (fun hc2 => ?_)
    · have hi8 : i < 8 := by simp at hc2; omega
      refine mJoin_intro ?_
      have hbit : ((BitVec.ofNat 32 y.toNat) >>> i).getLsbD 0 = y.toNat.testBit i := by
        simp [BitVec.getLsbD_ushiftRight, BitVec.getLsbD_ofNat]; omega
      have hsh : ((BitVec.ofNat 32 y.toNat) >>> i) >>> 1 = (BitVec.ofNat 32 y.toNat) >>> (i + 1) := by rw [BitVec.shiftRight_add]
      dsimp only
      rw [cond_ref, hbit]
      refine mIf_intro (fun hb2 => hag2 hi8 _ _ ⟨rfl, ?_⟩) (fun hb2 => hag2 hi8 _ _ ⟨rfl, ?_⟩)
      · rw [shr_v, shr_v, xor_P, hsh, wrap64_id (by omega) (by omega)]; simp only [bitsF, stepB, hb2, if_true]; push_cast; rfl
      · rw [shr_v, shr_v, hsh, wrap64_id (by omega) (by omega)]; simp only [bitsF, stepB, hb2]; push_cast; rfl
    · have hi8 : i = 8 := by simp at hc2; omega
      subst hi8
      refine hag hlt _ _ ⟨rfl, ?_⟩
      rw [wrap64_id (by omega) (by omega), take_succ_get hx, addB_append]
      simp only [addB, List.foldl_cons, List.foldl_nil, byteB]
      push_cast; rfl
  · have : k = l.length := by simp at hc; rw [hb.1] at hc; omega
    subst this
    dsimp only
    rw [com_v, wrap_v, List.take_length]
    exact hQ
theorem refSum_spec {H : PH} {s : Sl} {l : List Int} {Q : Int → PH → Prop} (hb : Bytes H s l) (hr : Byt l) (hl : l.length < 2 ^ 62) (hQ : Q ((sumB l).toNat : Int) H) : keelsonref1_Sum s H Q :=
  refMore_spec hb hr hl (by simpa [Rg, moreB, sumB] using hQ)
end Go.Proofs.Ytnmanfkohkebfaa

/- ideal: small functions; what is frozen; the contracts of the device without a disk. -/
import Derived.Test.YtfjpapddfdhhlaaFn
import Derived.Test.YtfjpapddfdhhlaaKxCp
import Derived.Test.YtfjpapddfdhhlaaKxIn
import Derived.Test.YtfjpapddfdhhlaaKxNu
set_option linter.unusedVariables false
set_option linter.unusedSimpArgs false
namespace Go.Proofs.Ytfjpapddfdhhlaa
open Go Go.Kx

theorem wrap_succ {k : Nat} (h : k < 2 ^ 60) : IntKind.wrap .i64 ((k : Int) + 1) = ((k + 1 : Nat) : Int) := by rw [wrap64_id (by omega) (by omega)]; push_cast; rfl
theorem cvSl (s : Sl) : cellV (Sl.v s) = true := rfl
theorem cvU (x : Int) : cellV (Value.int .u8 x) = true := rfl
theorem mod_spec {H : PH} {x m : Int} {Q : Int → PH → Prop} (hm : 0 < m) (hm2 : m < 2 ^ 62) (hQ : Q (x % m) H) : keelsonref1_Mod x m H Q := by
  have h3 := Int.tmod_eq_emod (a := x) (b := m)
  have h4 := Int.emod_nonneg x (by omega : m ≠ 0)
  have h5 := Int.emod_lt_of_pos x hm
  refine ⟨by omega, mJoin_intro (mIf_intro (fun hc => ?_) (fun hc => ?_))⟩
  · have h1 : x.tmod m < 0 := by simpa using hc
    have h2 := Int.lt_tmod_of_pos x hm
    have e : x.tmod m + m = x % m := by split at h3 <;> omega
    rw [wrap64_id (by omega) (by omega), e]; exact hQ
  · have h1 : ¬ x.tmod m < 0 := by simpa using hc
    have e : x.tmod m = x % m := by split at h3 <;> omega
    rw [e]; exact hQ
theorem round_spec {H : PH} {x m : Int} {Q : Int → PH → Prop} (hm : 0 < m) (hm2 : m < 2 ^ 62) (hQ : Q (x % m) H) : keelsonalike_Round x m H Q := mod_spec hm hm2 hQ
def fillL (x : Int) : List Int := (List.range 64).map fun (k : Nat) => (x % 256 + (k : Int)) % 256
theorem fillL_len (x : Int) : (fillL x).length = 64 := by simp [fillL]
section
variable {H B : PH} {L : List Ob}
theorem F_row {cs : List Value} {e : TypeId} {K : Addr → PH → Prop} (h : Stars H (baseO B :: L)) (hK : ∀ a B' H', Ext B B' → RowAt B' a cs → Stars H' (baseO B' :: L) → K a H') : mNew H (row cs e) K :=
  S_row h fun a H' h' x => by
    obtain ⟨B', xb, r, h2⟩ := Stars.freeze (L := L) (O := rowO a cs) h'
    exact hK a B' H' xb r h2
theorem F_vec {α : Type} {enc : α → Value} {s : Sl} {l : List α} {H' : PH} {K : Prop} (h : Stars H (baseO B :: L ++ [vecO enc s l])) (hK : ∀ B', Ext B B' → ListAt enc B' s l → Stars H (baseO B' :: L) → K) : K := by
  obtain ⟨B', xb, r, h2⟩ := Stars.freeze (L := L) (O := vecO enc s l) h
  exact hK B' xb (Vec.list r) h2
theorem F_zero {e : TypeId} {K : Sl → PH → Prop} (h : Stars H (baseO B :: L)) (hK : ∀ r B' H', Ext B B' → Bytes B' r (List.replicate 64 0) → Stars H' (baseO B' :: L) → K r H') : mNewSI H (row (zeros (64 : Int).toNat [.int .u8 0]) e) 64 64 K :=
  S_mkSI (enc := Value.int .u8) (x := (0 : Int)) (n := 64) h fun r H' h' x => F_vec (H' := H') h' fun B' xb hr h2 => hK r B' H' xb hr h2
theorem F_zeroM {e m : Nat} {K : Sl → PH → Prop} (h : Stars H (baseO B :: L)) (hm : m ≤ 64) (hK : ∀ r B' H', Ext B B' → Bytes B' r (List.replicate 64 0) → Stars H' (baseO B' :: L) → K r H') : mMk H e m [.int .u8 0] 64 64 K :=
  S_mk (enc := Value.int .u8) (x := (0 : Int)) (n := 64) h (by decide) (by omega) fun r H' h' x => F_vec (H' := H') h' fun B' xb hr h2 => hK r B' H' xb hr h2
theorem F_clone {s : Sl} {l : List Int} {K : Sl → PH → Prop} (h : Stars H (baseO B :: L)) (hx : Bytes H s l) (hl : l.length ≤ 65536) (hK : ∀ r B' H', Ext B B' → Bytes B' r l → Stars H' (baseO B' :: L) → K r H') :
    mIf (Option.isNone s.a) (K Sl.nil H) (mNewS H (row [] 5) 0 fun r2 H3 => mApp H3 5 1 1 [.int .u8 0] r2 s K) :=
  S_clone0 (enc := Value.int .u8) hx cvU rfl (by omega) fun r H' h' => F_vec (H' := H') (h.over h') fun B' xb hr h2 => hK r B' H' xb hr h2
theorem F_fill {x : Int} {K : Sl → PH → Prop} (h : Stars H (baseO B :: L)) (hK : ∀ r B' H', Ext B B' → Bytes B' r (fillL x) → Stars H' (baseO B' :: L) → K r H') : keelsonalike_Fill x H K := by
  refine S_mk (enc := Value.int .u8) (x := (0 : Int)) (Stars.start H) (by decide) (by decide) fun r H1 h1 x1 => ?_
  refine mLoop_count 64 (fun k s Hk => s = (k : Int) ∧ Stars Hk [baseO H, vecO (Value.int .u8) r ((fillL x).take k ++ List.replicate (64 - k) 0)]) ⟨rfl, by simpa using h1⟩ ?_
  rintro k s H2 again hk ⟨rfl, h2⟩ hag
  refine mIf_intro (fun hlt => ?_) (fun hge => ?_)
  · have hk64 : k < 64 := by simp at hlt; omega
    have a0 := Int.emod_nonneg x (show (256 : Int) ≠ 0 by decide)
    have a1 := Int.emod_lt_of_pos x (show (0 : Int) < 256 by decide)
    refine round_spec (by decide) (by decide) ?_
    rw [wrap64_id (by omega) (by omega)]
    refine round_spec (by decide) (by decide) ?_
    have b0 := Int.emod_nonneg (x % 256 + k) (show (256 : Int) ≠ 0 by decide)
    have b1 := Int.emod_lt_of_pos (x % 256 + k) (show (0 : Int) < 256 by decide)
    have ew : IntKind.wrap .u8 ((x % 256 + (k : Int)) % 256) = (x % 256 + (k : Int)) % 256 := by
      simp only [IntKind.wrap, IntKind.bits, IntKind.signed, Bool.false_and, Bool.false_eq_true, if_false]; omega
    rw [ew]
    have hl : ((fillL x).take k ++ List.replicate (64 - k) (0 : Int)).length = 64 := by simp [fillL]; omega
    refine S_put (enc := Value.int .u8) h2 1 rfl (by omega) (by rw [hl]; omega) rfl fun H3 h3 => ?_
    rw [wrap_succ (by omega)]
    refine hag hk64 _ _ ⟨rfl, ?_⟩
    have e : ((fillL x).take k ++ List.replicate (64 - k) (0 : Int)).set k ((x % 256 + (k : Int)) % 256) = (fillL x).take (k + 1) ++ List.replicate (64 - (k + 1)) 0 := by
      have hf : (fillL x)[k]? = some ((x % 256 + (k : Int)) % 256) := by simp [fillL, hk64]
      rw [List.take_add_one, hf, show 64 - k = (64 - (k + 1)) + 1 by omega, List.replicate_succ]
      have hlen : ((fillL x).take k).length = k := by simp [fillL]; omega
      rw [List.set_append_right _ _ (by omega), hlen, Nat.sub_self]; simp
    rw [Int.toNat_natCast, e] at h3; exact h3
  · have : k = 64 := by simp at hge; omega
    subst this
    have e : (fillL x).take 64 ++ List.replicate (64 - 64) (0 : Int) = fillL x := by
      rw [List.take_of_length_le (by simp [fillL])]; simp
    rw [e] at h2
    exact F_vec (H' := H2) (h.over h2) fun B' xb hr h3 => hK r B' H2 xb hr h3
theorem equal_spec {s t : Sl} {l m : List Int} {Q : Bool → PH → Prop} (hs : Bytes H s l) (ht : Bytes H t m) (hl : l.length < 2 ^ 60) (hQ : Q (decide (l = m)) H) : keelsonalike_Bytes s t H Q := by
  have e1 := hs.lenI
  have e2 := ht.lenI
  show keelsonref1_Equal s t H Q
  refine mIf_intro (fun h => ?_) (fun h => ?_)
  · have : l ≠ m := fun e => by subst e; simp [e1, e2] at h
    rw [decide_eq_false this] at hQ; exact hQ
  · have hlen : l.length = m.length := by simp at h; omega
    refine mLoop_count l.length (fun k s' Hk => s' = (k : Int) ∧ Hk = H ∧ l.take k = m.take k) ⟨rfl, rfl, rfl⟩ ?_
    rintro k s' H2 again hk ⟨rfl, rfl, htk⟩ hag
    refine mIf_intro (fun hlt => ?_) (fun hge => ?_)
    · have hkl : k < l.length := by simp at hlt; omega
      refine idx_ld hs (by omega) (by omega) fun x hx => idx_ld ht (by omega) (by omega) fun y hy => ?_
      rw [Int.toNat_natCast] at hx hy
      refine mIf_intro (fun hne => ?_) (fun heq => hag hkl _ _ ⟨wrap_succ (by omega), rfl, ?_⟩)
      · have : l ≠ m := fun e => by subst e; rw [hx] at hy; cases hy; simp at hne
        rw [decide_eq_false this] at hQ; exact hQ
      · have : x = y := by simpa using heq
        rw [List.take_add_one, List.take_add_one, hx, hy, htk, this]
    · have : k = l.length := by simp at hge; omega
      subst this
      have : l = m := by rw [List.take_length, hlen, List.take_length] at htk; exact htk
      rw [decide_eq_true this] at hQ; exact hQ
end

/-! ### What a device is -/
abbrev Bk := Option (List Int)
def BkAt (B : PH) (s : Sl) : Bk → Prop
  | none => s = Sl.nil
  | some l => l.length = 64 ∧ Bytes B s l
theorem BkAt.ext {B B' : PH} {s : Sl} {x : Bk} (h : BkAt B s x) (e : Ext B B') : BkAt B' s x := by
  cases x with
  | none => exact h
  | some l => exact ⟨h.1, h.2.ext e⟩
theorem BkAt.isNone {B : PH} {s : Sl} {x : Bk} (h : BkAt B s x) : Option.isNone s.a = x.isNone := by
  cases x with
  | none => rw [show s = Sl.nil from h]; rfl
  | some l =>
    obtain ⟨h1, h2⟩ := h
    obtain ⟨a, ha, _⟩ := h2.2.2 0 (l[0]'(by omega)) (List.getElem?_eq_getElem (by omega))
    rw [ha]; rfl
structure Fo (B : PH) (ls : List Sl) (lx : List Bk) : Prop where
  len : ls.length = lx.length
  at' : ∀ (i : Nat) (s : Sl) (x : Bk), ls[i]? = some s → lx[i]? = some x → BkAt B s x
theorem Fo.ext {B B' : PH} {ls : List Sl} {lx : List Bk} (h : Fo B ls lx) (e : Ext B B') : Fo B' ls lx := ⟨h.len, fun i s x hs hx => (h.at' i s x hs hx).ext e⟩
theorem Fo.set {B : PH} {ls : List Sl} {lx : List Bk} (h : Fo B ls lx) {s : Sl} {x : Bk} (hx : BkAt B s x) (i : Nat) : Fo B (ls.set i s) (lx.set i x) := by
  refine ⟨by rw [List.length_set, List.length_set]; exact h.len, fun j s' x' hs hx' => ?_⟩
  rw [List.getElem?_set] at hs hx'
  split at hs
  · rename_i e
    split at hs
    · rw [if_pos e, if_pos (by rw [← h.len]; assumption)] at hx'
      cases hs; cases hx'; exact hx
    · cases hs
  · rename_i e
    rw [if_neg e] at hx'
    exact h.at' j s' x' hs hx'
theorem Fo.get {B : PH} {ls : List Sl} {lx : List Bk} (h : Fo B ls lx) {i : Nat} (hi : i < lx.length) : ∃ s x, ls[i]? = some s ∧ lx[i]? = some x ∧ BkAt B s x :=
  ⟨_, _, List.getElem?_eq_getElem (by rw [h.len]; exact hi), List.getElem?_eq_getElem hi, h.at' i _ _ (List.getElem?_eq_getElem (by rw [h.len]; exact hi)) (List.getElem?_eq_getElem hi)⟩
structure Ids where
  base : List Bk
  over : List Bk
  ep : Int
  sq : Int
  dn : Int
structure IdOk (n : Nat) (S : Ids) : Prop where
  b : S.base.length = n
  o : S.over.length = n
  pos : 1 ≤ n
  le : n ≤ 64
  has : ∀ (i : Nat) (x : Bk), S.base[i]? = some x → ∃ l : List Int, x = some l ∧ l.length = 64
  has2 : ∀ (i : Nat) (x : Bk) (l : List Int), S.over[i]? = some x → x = some l → l.length = 64
/-- All its counts are small. -/
def Sm (k : Int) (S : Ids) : Prop := (0 ≤ S.ep ∧ S.ep ≤ k) ∧ (0 ≤ S.sq ∧ S.sq ≤ k) ∧ (0 ≤ S.dn ∧ S.dn ≤ k)
def idRow (sb so : Sl) (S : Ids) : List Value := [Sl.v sb, Sl.v so, .int .i64 S.ep, .int .i64 S.sq, .int .i64 S.dn]
def idO (a : Addr) (sb so : Sl) (lb lo : List Sl) (S : Ids) : List Ob := [rowO a (idRow sb so S), vecO Sl.v sb lb, vecO Sl.v so lo]
def IdS (H B : PH) (a : Addr) (S : Ids) (R : List Ob) : Prop := ∃ sb so lb lo, Fo B lb S.base ∧ Fo B lo S.over ∧ Stars H (baseO B :: (idO a sb so lb lo S ++ R))
theorem IdS.ext {H B : PH} {a : Addr} {S : Ids} {R : List Ob} (h : IdS H B a S R) : Ext B H := let ⟨_, _, _, _, _, _, h⟩ := h; h.base
def hasS (n : Nat) (b k : Int) : Bool := decide (1 ≤ k ∧ k ≤ n ∧ 0 ≤ b ∧ b ≤ n - k)
def mayS (n : Nat) (ep k b c e : Int) (dl : Nat) : Bool :=
  if k = 1 ∨ k = 5 then hasS n b 1 && c == 0 && e == 0 && (dl : Int) == 64
  else if k = 2 ∨ k = 6 then hasS n b c && e == 0 && (dl : Int) == 0
  else if k = 3 then e == ep + 1 && b == 0 && c == 0 && (dl : Int) == 0 else false
def fillS {α : Type} (l : List α) (b : Nat) (x : α) : Nat → List α
  | 0 => l
  | m + 1 => (fillS l b x m).set (b + m) x
def mkTo (S : Ids) : Nat → Ids
  | 0 => S
  | k + 1 => if ((mkTo S k).over.getD k none).isNone then mkTo S k else { mkTo S k with base := (mkTo S k).base.set k ((mkTo S k).over.getD k none), over := (mkTo S k).over.set k none }
def zer : Bk := some (List.replicate 64 0)
def doS (n : Nat) (S : Ids) (k b c e : Int) (d : List Int) : Ids :=
  if k = 1 then { S with over := fillS S.over b.toNat (some d) 1, sq := S.sq + 1 }
  else if k = 2 then { S with over := fillS S.over b.toNat zer c.toNat, sq := S.sq + 1 }
  else if k = 3 then { mkTo S n with ep := e, sq := S.sq + 1, dn := S.sq + 1 }
  else if k = 5 then { S with base := fillS S.base b.toNat (some d) 1 }
  else { S with base := fillS S.base b.toNat zer c.toNat }
def rdS (S : Ids) (b : Int) : List Int := if 0 ≤ b ∧ b < S.base.length then (S.base.getD b.toNat none).getD [] else []
def lkS (S : Ids) (b : Int) : List Int := if 0 ≤ b ∧ b < S.base.length then (match S.over.getD b.toNat none with | some l => l | none => rdS S b) else []
theorem fillS_len {α : Type} (l : List α) (b : Nat) (x : α) : ∀ m, (fillS l b x m).length = l.length
  | 0 => rfl
  | m + 1 => by rw [fillS, List.length_set, fillS_len l b x m]
theorem fillS_get {α : Type} (l : List α) (b : Nat) (x : α) : ∀ m (j : Nat), b + m ≤ l.length → (fillS l b x m)[j]? = if b ≤ j ∧ j < b + m then some x else l[j]?
  | 0, j, _ => by rw [if_neg (by omega)]; rfl
  | m + 1, j, h => by
    have hl := fillS_len l b x m
    rw [fillS]
    by_cases e : b + m = j
    · subst e; rw [List.getElem?_set_self (by omega), if_pos (by omega)]
    · rw [List.getElem?_set_ne e, fillS_get l b x m j (by omega)]
      by_cases c : b ≤ j ∧ j < b + m
      · rw [if_pos c, if_pos (by omega)]
      · rw [if_neg c, if_neg (by omega)]
theorem mk_len (S : Ids) : ∀ k, (mkTo S k).base.length = S.base.length ∧ (mkTo S k).over.length = S.over.length ∧ (mkTo S k).ep = S.ep ∧ (mkTo S k).sq = S.sq ∧ (mkTo S k).dn = S.dn
  | 0 => ⟨rfl, rfl, rfl, rfl, rfl⟩
  | k + 1 => by
    obtain ⟨h1, h2, h3⟩ := mk_len S k
    rw [mkTo]
    split
    · exact ⟨h1, h2, h3⟩
    · exact ⟨by rw [List.length_set]; exact h1, by rw [List.length_set]; exact h2, h3⟩
/-- What a Mark makes of each block. -/
def mk1 (o b : Bk) : Bk := match o with | some l => some l | none => b
theorem mk_get {n : Nat} {S : Ids} (hb : S.base.length = n) (ho : S.over.length = n) : ∀ k : Nat, k ≤ n → ∀ j : Nat, j < n → (mkTo S k).base[j]? = some (if j < k then mk1 (S.over.getD j none) (S.base.getD j none) else S.base.getD j none) ∧ (mkTo S k).over[j]? = some (if j < k then none else S.over.getD j none)
  | 0, _, j, hj => by
    rw [if_neg (by omega), if_neg (by omega)]
    exact ⟨by simp [mkTo, List.getD, show j < S.base.length by omega], by simp [mkTo, List.getD, show j < S.over.length by omega]⟩
  | k + 1, hk, j, hj => by
    obtain ⟨e1, e2⟩ := mk_get hb ho k (by omega) j hj
    obtain ⟨f1, f2⟩ := mk_get hb ho k (by omega) k (by omega)
    obtain ⟨l1, l2, _⟩ := mk_len S k
    rw [if_neg (by omega)] at f1 f2
    have g2 : (mkTo S k).over.getD k none = S.over.getD k none := by rw [List.getD, f2]; rfl
    rw [mkTo, g2]
    cases hc : S.over.getD k none with
    | none =>
      rw [if_pos (show (none : Bk).isNone = true from rfl)]
      by_cases e : j = k
      · subst e
        rw [f1, f2, if_pos (by omega), if_pos (by omega), hc]
        exact ⟨rfl, rfl⟩
      · rw [e1, e2]
        by_cases c : j < k
        · rw [if_pos c, if_pos c, if_pos (by omega), if_pos (by omega)]; exact ⟨rfl, rfl⟩
        · rw [if_neg c, if_neg c, if_neg (by omega), if_neg (by omega)]; exact ⟨rfl, rfl⟩
    | some l =>
      rw [if_neg (by simp)]
      simp only []
      by_cases e : j = k
      · subst e
        rw [List.getElem?_set_self (by omega), List.getElem?_set_self (by omega), if_pos (by omega), if_pos (by omega), hc]
        exact ⟨rfl, rfl⟩
      · rw [List.getElem?_set_ne (by omega), List.getElem?_set_ne (by omega), e1, e2]
        by_cases c : j < k
        · rw [if_pos c, if_pos c, if_pos (by omega), if_pos (by omega)]; exact ⟨rfl, rfl⟩
        · rw [if_neg c, if_neg c, if_neg (by omega), if_neg (by omega)]; exact ⟨rfl, rfl⟩
end Go.Proofs.Ytfjpapddfdhhlaa

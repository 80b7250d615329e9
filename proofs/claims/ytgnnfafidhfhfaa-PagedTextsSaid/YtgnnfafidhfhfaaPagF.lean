/- THE LAW PagedTexts, on formulas. -/
import Derived.Test.YtgnnfafidhfhfaaPagE
import Derived.Test.YtgnnfafidhfhfaaPagS
set_option linter.unusedVariables false
set_option linter.unusedSimpArgs false
namespace Go.Proofs.Ytgnnfafidhfhfaa
open Go Go.Kx

theorem S_newL {α : Type} {enc : α → Value} {H : PH} {L : List Ob} {l : List α} {cs : List Value} {n : Nat} {e : TypeId} {K : Sl → PH → Prop} (h : Stars H L) (hc : cs = l.map enc) (hn : n = l.length)
    (hK : ∀ r H', Stars H' (L ++ [vecO enc r l]) → Ext H H' → K r H') : mNewS H (row cs e) n K := by
  subst hc; subst hn
  intro r H' hn
  exact hK r H' (h.new (O' := vecO enc r l) (.newS hn) (Vec.ofNew (l := l) (e := e) hn) (Own0.ofNew hn)) (.newS hn)
theorem newS_froz {H B : PH} {L : List Ob} {n per : Int} {v : ByteArray} {Q : Option Addr → PH → Prop} (h : Stars H (baseO B :: L)) (hg : 1 ≤ n ∧ n ≤ 65536 ∧ 1 ≤ per ∧ per ≤ 65536)
    (hQ : ∀ B' a s t H', Ext B B' → RowAt B' a (pgRow s t per) → Stars H' (baseO B' :: (L ++ [vecO Value.string s (List.replicate n.toNat v), vecO Value.bool t (List.replicate (pgs n per).toNat false)])) → Q (some a) H') : paged_New_string n per v H Q := by
  refine PStr.new_spec (fun hb => absurd hg hb) fun _ a s t H1 h1 => ?_
  have h2 := h.over h1
  have h3 : Stars H1 (baseO B :: (L ++ [vecO Value.string s (List.replicate n.toNat v), vecO Value.bool t (List.replicate (pgs n per).toNat false)]) ++ [rowO a (pgRow s t per)]) := by
    simpa [PStr.E] using h2
  obtain ⟨B', x, r, h4⟩ := h3.freeze
  exact hQ B' a s t H1 x r h4

def nms : List ByteArray := [(⟨#[]⟩ : ByteArray), (⟨#[97]⟩ : ByteArray), (⟨#[98]⟩ : ByteArray), (⟨#[99]⟩ : ByteArray)]
def nm (x : Int) : ByteArray := nms.getD x.toNat (⟨#[]⟩ : ByteArray)
theorem tl0 : (⟨#[]⟩ : ByteArray).toList = [] := by unfold ByteArray.toList; rw [ByteArray.toList.loop]; rfl
theorem tl1 (x : UInt8) : (⟨#[x]⟩ : ByteArray).toList = [x] := by
  unfold ByteArray.toList; rw [ByteArray.toList.loop, if_pos (show 0 < (⟨#[x]⟩ : ByteArray).size from Nat.zero_lt_one), ByteArray.toList.loop, if_neg (show ¬ 0 + 1 < (⟨#[x]⟩ : ByteArray).size from Nat.lt_irrefl 1)]; rfl
theorem nm_ne {a b : Int} (ha : 0 ≤ a ∧ a < 4) (hb : 0 ≤ b ∧ b < 4) : PStr.ne (nm a) (nm b) = PInt.ne a b := by
  have h1 : a = 0 ∨ a = 1 ∨ a = 2 ∨ a = 3 := by omega
  have h2 : b = 0 ∨ b = 1 ∨ b = 2 ∨ b = 3 := by omega
  have n0 : (nm 0).toList = [] := tl0
  have n1 : (nm 1).toList = [97] := tl1 97
  have n2 : (nm 2).toList = [98] := tl1 98
  have n3 : (nm 3).toList = [99] := tl1 99
  unfold PStr.ne
  rcases h1 with rfl | rfl | rfl | rfl <;> rcases h2 with rfl | rfl | rfl | rfl <;> simp only [n0, n1, n2, n3] <;> decide
theorem nm_get {a : Int} (ha : 0 ≤ a ∧ a < 4) : nms[a.toNat]? = some (nm a) := by
  have h1 : a = 0 ∨ a = 1 ∨ a = 2 ∨ a = 3 := by omega
  rcases h1 with rfl | rfl | rfl | rfl <;> rfl
theorem hit_nm {l : List Int} {k v : Int} (hl : ∀ x, x ∈ l → 0 ≤ x ∧ x < 4) (hv : 0 ≤ v ∧ v < 4) : hitAt PStr.ne (l.map nm) k (nm v) = hitAt PInt.ne l k v := by
  unfold hitAt
  rw [List.length_map, List.getElem?_map]
  cases h : l[k.toNat]? with
  | none => rfl
  | some x => simp only [Option.map_some]; rw [nm_ne (hl x (List.mem_of_getElem? h)) hv]
theorem setL_nm {l : List Int} {k v : Int} (hl : ∀ x, x ∈ l → 0 ≤ x ∧ x < 4) (hv : 0 ≤ v ∧ v < 4) : setL PStr.ne (l.map nm) k (nm v) = (setL PInt.ne l k v).map nm := by
  unfold setL
  rw [hit_nm hl hv]
  split
  · rw [List.map_set]
  · rfl
theorem setD_nm {l : List Int} {k v per : Int} {d : List Bool} (hl : ∀ x, x ∈ l → 0 ≤ x ∧ x < 4) (hv : 0 ≤ v ∧ v < 4) : setD PStr.ne per (l.map nm) d k (nm v) = setD PInt.ne per l d k v := by
  unfold setD
  rw [hit_nm hl hv]
theorem setL_all {l : List Int} {k v : Int} (hl : ∀ x, x ∈ l → 0 ≤ x ∧ x < 4) (hv : 0 ≤ v ∧ v < 4) : ∀ x, x ∈ setL PInt.ne l k v → 0 ≤ x ∧ x < 4 := by
  intro x hx
  unfold setL at hx
  split at hx
  · rcases List.mem_or_eq_of_mem_set hx with h | h
    · exact hl x h
    · subst h; exact hv
  · exact hl x hx

theorem texts_law {H : PH} {p0 p1 : Int} {s2 : Sl} {l2 : List (Int × Int)} (h2 : ListN enc2 2 H s2 l2) : keelsonlaw11_PagedTexts p0 p1 s2 H (DoneD H) := by
  have hawake : ∀ H2, Ext H H2 → keelsonlaw11_awake H2 (DoneD H) := fun H2 x2 => awake_spec fun H3 x3 => ⟨rfl, x2.trans x3⟩
  have hl2 := h2.lenI
  refine mJoin_intro (mIf_intro (fun _ => mJoin_intro (mIf_pos rfl (mJoin_intro (mIf_pos rfl (mJoin_intro (mIf_pos rfl (mIf_pos rfl (hawake H (.refl H))))))))) (fun c0 => ?_))
  refine mJoin_intro (mIf_intro (fun _ => mJoin_intro (mIf_pos rfl (mJoin_intro (mIf_pos rfl (mIf_pos rfl (hawake H (.refl H))))))) (fun c1 => ?_))
  refine mJoin_intro (mIf_intro (fun _ => mJoin_intro (mIf_pos rfl (mIf_pos rfl (hawake H (.refl H))))) (fun c2 => ?_))
  refine mJoin_intro (mIf_intro (fun _ => mIf_pos rfl (hawake H (.refl H))) (fun c3 => mIf_intro (fun _ => hawake H (.refl H)) (fun c4 => ?_)))
  have hg : 1 ≤ p0 ∧ p0 ≤ 65536 ∧ 1 ≤ p1 ∧ p1 ≤ 65536 := by simp at c0 c1 c2 c3; omega
  have hp0 : p0 ≤ 60 := by simp at c1; omega
  have k2 : l2.length ≤ 40 := by simp at c4; omega
  refine S_newL (enc := Value.string) (l := nms) (Stars.start H) rfl rfl fun rn H0 h0 x0 => ?_
  obtain ⟨B0, xB0, vn, h0'⟩ := (show Stars H0 (baseO H :: [] ++ [vecO Value.string rn nms]) from h0).freeze
  refine new_froz h0' hg fun B1 a s t H1 xB1 r1 h1 => newS_froz h1 hg fun B a2 s2' t2 H2 xB2 r2 h2s => ?_
  refine mJoin_intro (mIf_neg rfl (mIf_neg rfl ?_))
  have xB : Ext H B := (xB0.trans xB1).trans xB2
  have ln : ListAt Value.string B rn nms := (Vec.list (enc := Value.string) (show Vec Value.string B0 rn nms from vn)).ext (xB1.trans xB2)
  have rx : ∀ {H' L}, Stars H' (baseO B :: L) → RowAt H' a (pgRow s t p1) := fun h => (r1.ext xB2).ext h.base
  have rx2 : ∀ {H' L}, Stars H' (baseO B :: L) → RowAt H' a2 (pgRow s2' t2 p1) := fun h => r2.ext h.base
  have hx : ∀ {H' L}, Stars H' (baseO B :: L) → Ext H H' := fun h => xB.trans h.base
  have e0 : List.replicate p0.toNat (⟨#[]⟩ : ByteArray) = (List.replicate p0.toNat (0 : Int)).map nm := by rw [List.map_replicate]; rfl
  rw [e0] at h2s
  refine mLoop_count l2.length (fun k st Hk => st = (k : Int) ∧ ∃ (l : List Int) (d : List Bool), (l.length : Int) = p0 ∧ PgOk l.length p1 d ∧ (∀ x, x ∈ l → 0 ≤ x ∧ x < 4) ∧ Stars Hk [baseO B, vecO PInt.E s l, vecO Value.bool t d, vecO PStr.E s2' (l.map nm), vecO Value.bool t2 d])
    ⟨rfl, List.replicate p0.toNat (0 : Int), _, by rw [List.length_replicate]; omega, pgok_new hg, fun x hx => by have := List.eq_of_mem_replicate hx; omega, h2s⟩ ?_
  clear h2s h1 h0' h0
  rintro k st H3 again hk ⟨rfl, l, d, hl, ok, h4, h3⟩ hag
  refine mIf_intro (fun c => ?_) (fun _ => ?_)
  · have hkl : k < l2.length := by simp at c; omega
    refine pair1 (h2.ext (hx h3)) (by omega) (by omega) fun x _ => pair2' (h2.ext (hx h3)) (by omega) (by omega) fun b y _ hb => round_spec (by omega) (by omega) ⟨hb, round_spec (by decide) (by decide) ?_⟩
    have q0 := Int.emod_nonneg x.1 (show p0 ≠ 0 by omega)
    have q1 := Int.emod_lt_of_pos x.1 (show 0 < p0 by omega)
    have w0 := Int.emod_nonneg y.2 (show (4 : Int) ≠ 0 by decide)
    have w1 := Int.emod_lt_of_pos y.2 (show (0 : Int) < 4 by decide)
    generalize x.1 % p0 = i at q0 q1
    generalize y.2 % 4 = v at w0 w1
    refine mJoin_cut (fun _ Hk => ∃ d, PgOk l.length p1 d ∧ Stars Hk [baseO B, vecO PInt.E s l, vecO Value.bool t d, vecO PStr.E s2' (l.map nm), vecO Value.bool t2 d]) ?_ fun k' hk' => mIf_intro (fun _ => ?_) (fun _ => hk' () H3 ⟨d, ok, h3⟩)
    · rintro _ H4 ⟨d, ok, h3⟩
      refine PInt.set_spec h3 (rx h3) 1 2 rfl rfl (by decide) ok fun H5 h5 => mJoin_intro ?_
      have h5' : Stars H5 [baseO B, vecO PInt.E s (setL PInt.ne l i v), vecO Value.bool t (setD PInt.ne p1 l d i v), vecO PStr.E s2' (l.map nm), vecO Value.bool t2 d] := h5
      rw [decide_eq_true (show 0 ≤ i ∧ i < (l.length : Int) from ⟨q0, by omega⟩)]
      refine mIf_neg rfl (idx_ld (ln.ext h5.base) w0 (by show v < ((4 : Nat) : Int); omega) fun z hz => ?_)
      rw [nm_get ⟨w0, w1⟩] at hz; cases hz
      refine PStr.set_spec h5' (rx2 h5') 3 4 rfl rfl (by decide) (by rw [List.length_map]; exact ok) fun H6 h6 => ?_
      rw [List.length_map, decide_eq_true (show 0 ≤ i ∧ i < (l.length : Int) from ⟨q0, by omega⟩)]
      refine mIf_neg rfl ?_
      rw [wrap_succ (by omega)]
      rw [setL_nm h4 ⟨w0, w1⟩, setD_nm h4 ⟨w0, w1⟩] at h6
      exact hag hkl _ _ ⟨rfl, _, _, by rw [setL_len]; exact hl, ok.set _ _, setL_all h4 ⟨w0, w1⟩, h6⟩
    · refine PInt.clean_spec h3 (rx h3) 2 rfl fun H5 h5 => ?_
      have h5' : Stars H5 [baseO B, vecO PInt.E s l, vecO Value.bool t (List.replicate d.length false), vecO PStr.E s2' (l.map nm), vecO Value.bool t2 d] := h5
      refine PStr.clean_spec h5' (rx2 h5') 4 rfl fun H6 h6 => hk' () H6 ⟨_, ok.clean, h6⟩
  clear hag again
  have hn2 := ok.n2
  refine mLoop_count l.length (fun j st Hk => st = (j : Int) ∧ Hk = H3) ⟨rfl, rfl⟩ ?_
  rintro j st H4 again hj ⟨rfl, rfl⟩ hag
  refine mIf_intro (fun c => ?_) (fun _ => ?_)
  · have hjl : j < l.length := by simp at c; omega
    refine PInt.get_spec (rx h3) (h3.list 1 rfl) (fun x _ _ hx => ?_) (fun hn => absurd ⟨by omega, by omega⟩ hn)
    refine PStr.get_spec (rx2 h3) (h3.list 3 rfl) (fun y _ _ hy => ?_) (fun hn => absurd ⟨by omega, by rw [List.length_map]; omega⟩ hn)
    rw [Int.toNat_natCast] at hx hy
    rw [List.getElem?_map, hx] at hy
    cases hy
    have hx4 := h4 x (List.mem_of_getElem? hx)
    have e1 : decide (x < 0) = false := by simp; omega
    have e2 : decide (3 < x) = false := by simp; omega
    refine mJoin_intro (mIf_neg rfl (mJoin_intro (mIf_neg rfl ?_)))
    rw [e1]
    refine mJoin_intro (mIf_neg rfl ?_)
    rw [e2]
    refine mJoin_intro (mIf_neg rfl (idx_ld (ln.ext h3.base) hx4.1 hx4.2 fun z hz => ?_))
    rw [nm_get hx4] at hz; cases hz
    have e3 : (!((nm x).toList == (nm x).toList)) = false := by simp
    rw [e3]
    refine mIf_neg rfl ?_
    rw [wrap_succ (by omega)]
    exact hag hjl _ _ ⟨rfl, rfl⟩
  refine S_row h3 fun a116 H5 h5 x5 => S_row h5 fun c0' H6 h6 x6 => ⟨.inr ⟨_, _, _, rfl⟩, mIf_neg rfl ?_⟩
  have h7 := h6.nilv (enc := Value.int .i64)
  have hfew := ok.few
  refine paged_Paged_string_Dirty_c1_s _ _ _ _ _ (PStr.dirty_c1_spec (a := a2) (s := s2') (t := t2) (per := p1) (d := d)
    (fun k _ Hk => ∃ q, Stars Hk [baseO B, vecO PInt.E s l, vecO Value.bool t d, vecO PStr.E s2' (l.map nm), vecO Value.bool t2 d, rowO a116 [Sl.v q], rowO c0' [.pointer (some a2)], vecO PInt.E q (dirtyTo d k)]) hfew
    ?_ ⟨Sl.nil, h7⟩ ?_ ?_ ?_)
  · rintro k _ Hk ⟨q, hk⟩
    exact ⟨hk.cell1 6 rfl, rx2 hk, hk.list 4 rfl⟩
  · rintro k _ Hk hkl ⟨q, hk⟩ hf
    exact ⟨q, by rw [dirtyTo_none hf]; exact hk⟩
  · rintro k _ Hk K hkl ⟨q, hk⟩ hf hnext hbrk
    have hlen := dirtyTo_len d k
    refine ⟨_, rfl, S_ld1 hk 5 rfl (S_new1 (enc := PInt.E) hk fun q1 H8 h8 x8 => S_app (ys := [(k : Int)]) h8 7 rfl (h8.list 8 rfl) ints_enc rfl (by simp; omega) fun r3 H9 h9 => S_st1 h9 5 rfl rfl fun H10 h10 => ?_)⟩
    refine hnext () H10 ⟨r3, ?_⟩
    rw [dirtyTo_some hf]
    exact h10.pick [0, 1, 2, 3, 4, 5, 6, 7] (by decide) rfl (by simp)
  · rintro _ Hk ⟨q, hk⟩
    refine S_ld1 hk 5 rfl (dirty_spec (rx hk) (hk.list 2 rfl) hfew fun q2 H8 h8 => ?_)
    have h9 := hk.over h8
    have c9 : cellAt H8 a116 = some (Sl.v q) := h9.cell1 5 rfl
    have hdl : d.length ≤ 60 := by
      have h1 := ok.d
      have h2 := pgs_le (n := l.length) (per := p1) (by omega) ok.p1
      omega
    have hll := dirtyL_len d
    have tk : (dirtyL d).take (100 : Int).toNat = dirtyL d := List.take_of_length_le (by show (dirtyL d).length ≤ 100; omega)
    rw [tk] at h8
    refine ⟨c9, ints_spec (h8.list 1 rfl) (h9.list (enc := PInt.E) 7 rfl) (by omega) ?_⟩
    rw [decide_eq_true (show dirtyL d = dirtyTo d d.length from rfl)]
    exact mJoin_intro (mIf_pos rfl (hawake H8 (hx h9)))
end Go.Proofs.Ytgnnfafidhfhfaa

/- WHAT THE FUNCTIONS OF vdisk DO: New, Write, Read, Fault, Fuse, and what is told. -/
import Derived.Test.YtdoldlinaghfbaaDiskA
set_option linter.unusedVariables false
set_option linter.unusedSimpArgs false
namespace Go.Proofs.Ytdoldlinaghfbaa
open Go Go.Kx

theorem VecN.has_some {α : Type} {enc : α → List Value} {sz : Nat} {H : PH} {s : Sl} {l : List α} (h : VecN enc sz H s l) {c : Nat} (hc : s.has c) : ∃ o, H c = some o := by
  rcases h with ⟨rfl, _⟩ | ⟨b, sp, e, spare, rfl, _, hb⟩
  · obtain ⟨a, ha, _⟩ := hc; cases ha
  · obtain ⟨a, ha, rfl⟩ := hc; cases ha; exact ⟨_, hb⟩
theorem Vec.has_some {α : Type} {enc : α → Value} {H : PH} {s : Sl} {l : List α} (h : Vec enc H s l) {c : Nat} (hc : s.has c) : ∃ o, H c = some o := by
  rcases h with ⟨rfl, _⟩ | ⟨b, sp, e, rfl, hb⟩
  · obtain ⟨a, ha, _⟩ := hc; cases ha
  · obtain ⟨a, ha, rfl⟩ := hc; cases ha; exact ⟨_, hb⟩
theorem DiskAt.has_some {H : PH} {A : DA} {D : Dk} (h : DiskAt H A D) {c : Nat} (hc : A.foot c) : ∃ o, H c = some o := by
  rcases hc with rfl | hc | hc | hc | hc
  · obtain ⟨e, he⟩ := h.row.2.2; exact ⟨_, he⟩
  · exact VecN.has_some h.safe hc
  · exact VecN.has_some h.now hc
  · exact VecN.has_some h.held hc
  · exact Vec.has_some h.faults hc
theorem none_no {H : PH} {c : Nat} (h : ∃ o, H c = some o) (hn : H c = none) : False := by obtain ⟨o, ho⟩ := h; rw [ho] at hn; cases hn
theorem nil_has {c : Nat} : ¬ Sl.nil.has c := fun ⟨a, ha, _⟩ => by cases ha

def zeroB : Blk := ⟨List.replicate 64 0, by simp⟩
def fresh (n : Nat) : Dk := ⟨List.replicate n zeroB, List.replicate n zeroB, [], List.replicate n false, -1, 0, false⟩
theorem newSI {α : Type} {enc : α → List Value} {sz : Nat} {H : PH} {e : TypeId} {x : α} {n : Int} {cs : List Value} {K : Sl → PH → Prop} (hc : cs = zeros n.toNat (enc x)) (hK : ∀ r H', Ext H H' → Own0 H r → VecN enc sz H' r (List.replicate n.toNat x) → K r H') : mNewSI H (row cs e) n n K := by
  subst hc
  exact fun r H' hn => hK r H' (.newS hn) (.ofNew hn) (VecN.ofNewL hn mkN_list (by simp))
theorem newSI1 {α : Type} {enc : α → Value} {H : PH} {e : TypeId} {x : α} {n : Int} {K : Sl → PH → Prop} (hK : ∀ r H', Ext H H' → Own0 H r → Vec enc H' r (List.replicate n.toNat x) → K r H') : mNewSI H (row (zeros n.toNat [enc x]) e) n n K := by
  intro r H' hn
  have e1 : zeros n.toNat [enc x] = (List.replicate n.toNat x).map enc := by rw [zeros_one, List.map_replicate]
  rw [e1] at hn
  exact hK r H' (.newS hn) (.ofNew hn) (Vec.ofNew (l := List.replicate n.toNat x) (e := e) (by simpa using hn))

theorem new_spec {H : PH} {n : Nat} {Q : Option Addr → Int → PH → Prop} (h1 : 1 ≤ n) (h2 : n ≤ 4096) (hQ : ∀ A H', Ext H H' → DiskAt H' A (fresh n) → (∀ c, A.foot c → H c = none) → Q (some A.a) 0 H') : vdisk_New n H Q := by
  have e1 : decide ((n : Int) < 1) = false := by simp; omega
  have e2 : decide ((4096 : Int) < n) = false := by simp; omega
  refine mJoin_intro (mIf_neg e1 ?_)
  rw [e2]
  refine mIf_neg rfl ⟨⟨by omega, by omega, by omega⟩, ⟨by omega, by omega, by omega⟩, ⟨by omega, by omega, by omega⟩, ?_⟩
  refine newSI (enc := encB) (sz := 64) (x := zeroB) rfl fun r1 H1 x1 o1 v1 => newSI (enc := encB) (sz := 64) (x := zeroB) rfl fun r2 H2 x2 o2 v2 => newSI1 (x := false) fun r3 H3 x3 o3 v3 => ?_
  refine new_row fun a H4 x4 rw4 f4 => ?_
  rw [Int.toNat_natCast] at v1 v2 v3
  have v1' := v1.ext (x2.trans x3)
  have v2' := v2.ext x3
  refine hQ ⟨a, r1, r2, Sl.nil, r3⟩ H4 (((x1.trans x2).trans x3).trans x4) ⟨rw4, v1'.ext x4, v2'.ext x4, .inl ⟨rfl, rfl⟩, v3.ext x4, ⟨?_, ?_, nil_has, ?_, ?_, fun _ _ => nil_has, ?_, fun _ _ => nil_has, ?_, fun c hc => absurd hc nil_has⟩⟩ ?_
  · exact fun hc => none_no (VecN.has_some v1' hc) f4
  · exact fun hc => none_no (VecN.has_some v2' hc) f4
  · exact fun hc => none_no (Vec.has_some v3 hc) f4
  · exact fun c h1 h2 => none_no (VecN.has_some v1 h1) (o2 c h2)
  · exact fun c h1 h2 => none_no (VecN.has_some (v1.ext x2) h1) (o3 c h2)
  · exact fun c h1 h2 => none_no (VecN.has_some v2 h1) (o3 c h2)
  · rintro c (rfl | hc | hc | hc | hc)
    · exact ((x1.trans x2).trans x3).none f4
    · exact o1 c hc
    · exact x1.none (o2 c hc)
    · exact absurd hc nil_has
    · exact (x1.trans x2).none (o3 c hc)

/-- What a call leaves of a disk: its struct where it was; what it has was its own, or is new; what is beside stands. -/
structure After (A : DA) (H : PH) (A' : DA) (H' : PH) : Prop where
  same : A'.a = A.a
  foot : ∀ c, A'.foot c → A.foot c ∨ H c = none
  beside : Beside A H H'
theorem After.of_keepB {A : DA} {H H' : PH} (k : KeepB A.a.block H H') : After A H A H' := ⟨rfl, fun c h => .inl h, .keepB k⟩
theorem After.refl {A : DA} {H : PH} : After A H A H := ⟨rfl, fun c h => .inl h, .refl⟩
theorem After.ext {A : DA} {H H' : PH} (x : Ext H H') : After A H A H' := ⟨rfl, fun c h => .inl h, fun c o hc _ => x c o hc⟩
theorem After.trans {A B C : DA} {H1 H2 H3 : PH} (h : After A H1 B H2) (k : After B H2 C H3) (hB : ∀ c, H1 c ≠ none → ¬ A.foot c → H2 c ≠ none) : After A H1 C H3 := by
  refine ⟨k.same.trans h.same, fun c hc => ?_, h.beside.trans k.beside h.foot⟩
  rcases k.foot c hc with h1 | h1
  · exact h.foot c h1
  · by_cases hA : A.foot c
    · exact .inl hA
    · cases hn : H1 c with
      | none => exact .inr rfl
      | some o => have := h.beside c o hn hA; rw [h1] at this; cases this
theorem After.tr {A B C : DA} {H1 H2 H3 : PH} (h : After A H1 B H2) (k : After B H2 C H3) : After A H1 C H3 :=
  h.trans k fun c hn hA => by
    cases hc : H1 c with
    | none => exact absurd hc hn
    | some o => rw [h.beside c o hc hA]; simp
/-- What stood apart from A stands. -/
theorem After.ext0 {A B : DA} {H0 H H' : PH} (h : After A H B H') (x : Ext H0 H) (f : ∀ c, A.foot c → H0 c = none) : Ext H0 H' := fun c o hc => h.beside c o (x c o hc) fun hf => by rw [f c hf] at hc; cases hc
theorem After.foot0 {A B : DA} {H0 H H' : PH} (h : After A H B H') (x : Ext H0 H) (f : ∀ c, A.foot c → H0 c = none) : ∀ c, B.foot c → H0 c = none := fun c hc => (h.foot c hc).elim (f c) fun hn => x.none hn

theorem arr_list {α : Type} {enc : α → Value} {H : PH} {s : Sl} {l : List α} {n : Nat} {K : Addr → Prop} (h : ListAt enc H s l) (hn : n = l.length) (h0 : 0 < n) (hK : ∀ a, s.a = some a → K a) : mArr s n K := by
  subst hn
  obtain ⟨a, ha, _, _⟩ := h.2.2 0 l[0] (by simp [h0])
  exact ⟨by rw [h.1]; omega, a, ha, hK a ha⟩
theorem arr_cells {α : Type} {enc : α → Value} {H : PH} {s : Sl} {l : List α} {a : Addr} (h : ListAt enc H s l) (ha : s.a = some a) : cellsAt H a l.length = some (l.map enc) := by
  have := h.cells
  unfold sliceCells at this
  rw [ha] at this
  simpa [h.1] using this
theorem list_agree {α : Type} {enc : α → Value} {A B : PH} {s : Sl} {l : List α} (h : ListAt enc A s l) (x : ∀ c o, s.has c → A c = some o → B c = some o) : ListAt enc B s l :=
  ⟨h.1, h.2.1, fun i y hi => let ⟨a, ha, hs, hc⟩ := h.2.2 i y hi; ⟨a, ha, hs, by
    unfold cellAt at hc ⊢
    rw [add_block] at hc ⊢
    split at hc
    · rename_i c e f hb; rw [x _ _ ⟨a, ha, rfl⟩ hb]; exact hc
    · cases hc⟩⟩

def Dk.write (D : Dk) (i : Nat) (b : Blk) : Dk := if D.act.2 then { D.act.1 with held := D.held ++ [((i : Int), b)], now := D.now.set i b } else D.act.1
theorem act_same (D : Dk) : D.act.1.safe = D.safe ∧ D.act.1.now = D.now ∧ D.act.1.held = D.held ∧ D.act.1.faults = D.faults := by
  unfold Dk.act; split <;> exact ⟨rfl, rfl, rfl, rfl⟩
theorem write_spec {H : PH} {A : DA} {D : Dk} {i : Nat} {p : Sl} {b : Blk} {Q : Int → PH → Prop} (h : DiskAt H A D) (sm : Small D) (hi : i < D.now.length) (hb : Bytes H p b.1) (hp : ∀ c, p.has c → ¬ A.foot c)
    (hQ : ∀ A' H', DiskAt H' A' (D.write i b) → After A H A' H' → Q (if D.act.2 then 0 else 3) H') : vdisk_Disk_Write (some A.a) i p H Q := by
  have hlen := hb.lenI
  rw [b.2] at hlen
  have e1 : (decide (0 ≤ (i : Int)) && decide ((i : Int) < D.now.length)) = true := by simp; omega
  have e2 : ((p.len : Int) != 64) = false := by rw [hlen]; rfl
  refine has_spec h ?_
  rw [e1]
  refine mJoin_intro (mIf_neg rfl ?_)
  rw [e2]
  refine mIf_neg rfl (act_spec h sm fun H1 h1 k1 => ?_)
  obtain ⟨s1, s2, s3, s4⟩ := act_same D
  by_cases hact : D.act.2 = true
  · have hw : D.write i b = { D.act.1 with held := D.held ++ [((i : Int), b)], now := D.now.set i b } := by rw [Dk.write, if_pos hact]
    rw [if_pos hact] at hQ ⊢
    have hb1 : Bytes H1 p b.1 := list_agree hb fun c o hc ho => k1 c o ho fun e => hp c hc (.inl e)
    refine mIf_neg rfl (nil_some (ld_row (x := A.h) h1.row rfl (arr_list hb1 b.2.symm (by decide) fun a ha => ?_)))
    have hc1 := arr_cells hb1 ha
    rw [b.2] at hc1
    refine ⟨_, hc1, ⟨by simp [b.2], ⟨by simp [catl, b.2], fun r H2 hn => ?_⟩⟩⟩
    have x2 := Ext.newS hn
    have h2 := h1.ext x2
    have v2 : VecN encW 65 H2 r [((i : Int), b)] := VecN.ofNewL hn (by simp [catl, encW, encB]) rfl
    have hsmall := sm.held
    refine ⟨h2.row.cell rfl, appN lenW (by decide) (s3 ▸ h2.held) (v2.cells lenW (by decide)) v2.len cvW rfl (by rw [List.length_singleton]; omega) fun r3 H3 v3 k3 n3 => ?_⟩
    -- the struct, the list, and all else behind the append
    have hrow3 : RowAt H3 A.a (cellsD A D.act.1) := ⟨h2.row.1, h2.row.2.1, let ⟨e, he⟩ := h2.row.2.2; ⟨e, k3 _ _ he h2.ap.ah⟩⟩
    refine nil_some (st_cell hrow3 (by simp [cellsD]) rfl fun H4 r4 k4 => nil_some (ld_row (x := A.n) r4 rfl ?_))
    have r3some : ∀ c, r3.has c → ∃ o, H3 c = some o := fun c hc => VecN.has_some v3 hc
    have hHnone : ∀ c, H2 c = none → H c = none := fun c hc => by
      cases hh : H c with
      | none => rfl
      | some o =>
        by_cases he : c = A.a.block
        · subst he; exact absurd hc (fun hc => none_no (h2.has_some (.inl rfl)) hc)
        · rw [x2 c o (k1 c o hh he)] at hc; cases hc
    have n3' : ∀ c, r3.has c → A.h.has c ∨ H2 c = none := n3
    have ap3 : ∀ c, r3.has c → c ≠ A.a.block := fun c hc e => by
      subst e
      rcases n3' _ hc with hh | hh
      · exact h2.ap.ah hh
      · exact none_no (h2.has_some (.inl rfl)) hh
    have n4 : VecN encB 64 H4 A.n D.now := (s2 ▸ h2.now).agree fun c o hc ho => k4 c o (k3 c o ho (h2.ap.nh c hc)) fun e => h2.ap.an (e ▸ hc)
    have p4 : Bytes H4 p b.1 := list_agree hb1 fun c o hc ho => k4 c o (k3 c o (x2 c o ho) fun hh => hp c hc (.inr (.inr (.inr (.inl hh))))) fun e => hp c hc (.inl e)
    refine arr_list p4 b.2.symm (by decide) fun a4 ha4 => ?_
    have hc4 := arr_cells p4 ha4
    rw [b.2] at hc4
    refine ⟨_, hc4, idxN n4 (by omega) (by omega) fun a5 y el => ⟨by simp [b.2], stN (y := b) lenB el (cvB b) fun H5 v5 k5 => ?_⟩⟩
    rw [Int.toNat_natCast] at v5
    have nr : ∀ c, A.n.has c → ¬ r3.has c := fun c hc hr => by
      rcases n3' c hr with hh | hh
      · exact h2.ap.nh c hc hh
      · exact none_no (h2.has_some (.inr (.inr (.inl hc)))) hh
    have sr : ∀ c, A.s.has c → ¬ r3.has c := fun c hc hr => by
      rcases n3' c hr with hh | hh
      · exact h2.ap.sh c hc hh
      · exact none_no (h2.has_some (.inr (.inl hc))) hh
    have fr : ∀ c, A.f.has c → ¬ r3.has c := fun c hc hr => by
      rcases n3' c hr with hh | hh
      · exact h2.ap.hf c hh hc
      · exact none_no (h2.has_some (.inr (.inr (.inr (.inr hc))))) hh
    refine hQ ⟨A.a, A.s, A.n, r3, A.f⟩ H5 ?_ ⟨rfl, ?_, fun c o hc hn => ?_⟩
    · rw [hw]
      refine ⟨?_, ?_, v5, ?_, ?_, ⟨h2.ap.as_, h2.ap.an, fun hc => ap3 _ hc rfl, h2.ap.af, h2.ap.sn, sr, h2.ap.sf, nr, h2.ap.nf, fun c hc hf => fr c hf hc⟩⟩
      · have : cellsD ⟨A.a, A.s, A.n, r3, A.f⟩ { D.act.1 with held := D.held ++ [((i : Int), b)], now := D.now.set i b } = (cellsD A D.act.1).set 2 (Sl.v r3) := rfl
        rw [this]
        exact ⟨r4.1, r4.2.1, let ⟨e, he⟩ := r4.2.2; ⟨e, k5 _ _ he h2.ap.an⟩⟩
      · show VecN encB 64 H5 A.s D.act.1.safe
        exact h2.safe.agree fun c o hc ho => k5 c o (k4 c o (k3 c o ho (h2.ap.sh c hc)) fun e => h2.ap.as_ (e ▸ hc)) fun hh => h2.ap.sn c hc hh
      · exact v3.agree fun c o hc ho => k5 c o (k4 c o ho (ap3 c hc)) fun hh => nr c hh hc
      · show Vec Value.bool H5 A.f D.act.1.faults
        exact Vec.agree h2.faults fun c o hc ho => k5 c o (k4 c o (k3 c o ho fun hh => h2.ap.hf c hh hc) fun e => h2.ap.af (e ▸ hc)) fun hh => h2.ap.nf c hh hc
    · rintro c (rfl | hc | hc | hc | hc)
      · exact .inl (.inl rfl)
      · exact .inl (.inr (.inl hc))
      · exact .inl (.inr (.inr (.inl hc)))
      · rcases n3' c hc with hh | hh
        · exact .inl (.inr (.inr (.inr (.inl hh))))
        · exact .inr (hHnone c hh)
      · exact .inl (.inr (.inr (.inr (.inr hc))))
    · have ha : c ≠ A.a.block := fun e => hn (.inl e)
      exact k5 c o (k4 c o (k3 c o (x2 c o (k1 c o hc ha)) fun hh => hn (.inr (.inr (.inr (.inl hh))))) ha) fun hh => hn (.inr (.inr (.inl hh)))
  · have hf : D.act.2 = false := by simpa using hact
    have hw : D.write i b = D.act.1 := by rw [Dk.write, if_neg hact]
    rw [if_neg hact] at hQ ⊢
    exact mIf_pos rfl (hQ A H1 (hw ▸ h1) (.of_keepB k1))
end Go.Proofs.Ytdoldlinaghfbaa

/- WHAT THE FUNCTIONS OF vdisk DO: Read, Fault, Fuse, Flush, and what is told. -/
import Derived.Test.YtdoldlinaghfbaaDiskB
set_option linter.unusedVariables false
set_option linter.unusedSimpArgs false
namespace Go.Proofs.Ytdoldlinaghfbaa
open Go Go.Kx

theorem vec_new0 {α : Type} {enc : α → Value} {H H' : PH} {s : Sl} {e : TypeId} (h : NewS H (row [] e) 0 0 s H') : Vec enc H' s [] := by
  obtain ⟨b, hb, rfl, rfl⟩ := h
  exact .inr ⟨b, [], e, by simp, by simp⟩
theorem vecN_new0 {α : Type} {enc : α → List Value} {sz : Nat} {H H' : PH} {s : Sl} {e : TypeId} (h : NewS H (row [] e) 0 0 s H') : VecN enc sz H' s [] := by
  obtain ⟨b, hb, rfl, rfl⟩ := h
  exact .inr ⟨b, 0, e, [], by simp, by simp, by simp⟩
theorem clone_bytes {H : PH} {s : Sl} {l : List Int} {a : Addr} {Q : Sl → PH → Prop} (h : Bytes H s l) (ha : s.a = some a) (hl : l.length ≤ 2 ^ 40) (hQ : ∀ r H', Ext H H' → Own0 H r → Vec (Value.int .u8) H' r l → Q r H') : slices_Clone_Slbyte_byte s H Q := by
  refine mIf_neg (by rw [ha]; rfl) fun r1 H1 hn => ?_
  have x1 := Ext.newS hn
  have o1 : Own0 H r1 := .ofNew hn
  refine app_vec (l := []) (vec_new0 hn) (h.ext x1) (fun _ => rfl) rfl (by simp; omega) fun r2 H2 v2 k2 n2 => hQ r2 H2 (x1.keep k2 o1) (fun c hc => ?_) (by simpa using v2)
  rcases n2 c hc with hh | hh
  · exact o1 c hh
  · exact x1.none hh
/-- The bytes of an element, or the first of them. -/
theorem elem_bytes {H : PH} {s : Sl} {l : List Blk} {i n c : Nat} {x : Blk} {a : Addr} (h : Elem encB 64 H s l i x a) (hn : n ≤ 64) (hc : n ≤ c) : Bytes H ⟨some a, n, c⟩ (x.1.take n) := by
  refine ⟨by simp [x.2]; omega, hc, fun j y hj => ⟨a, rfl, ?_, ?_⟩⟩
  · obtain ⟨⟨b, sp, e, spare, rfl, h2, h3, rfl⟩, _⟩ := h; rfl
  · rw [List.getElem?_take] at hj
    split at hj
    · exact h.cell lenB (by simp [encB, hj])
    · cases hj

def Dk.read (D : Dk) (i : Nat) : Int := if D.off then 3 else if D.faults.getD i false then 4 else 0
theorem read_spec {H : PH} {A : DA} {D : Dk} {i : Nat} {Q : Sl → Int → PH → Prop} (h : DiskAt H A D) (sm : Small D) (hi : i < D.now.length)
    (h3 : D.read i = 3 → Q Sl.nil 3 H) (h4 : D.read i = 4 → Q Sl.nil 4 H) (h0 : D.read i = 0 → ∀ r H' b, D.now[i]? = some b → Ext H H' → Own0 H r → Vec (Value.int .u8) H' r b.1 → Q r 0 H') : vdisk_Disk_Read (some A.a) i H Q := by
  have e1 : (decide (0 ≤ (i : Int)) && decide ((i : Int) < D.now.length)) = true := by simp; omega
  refine has_spec h ?_
  rw [e1]
  refine mIf_neg rfl (nil_some (ld_row (x := D.off) h.row rfl (mIf_intro (fun ho => h3 (by rw [Dk.read, ho]; rfl)) (fun ho => nil_some (ld_row (x := A.f) h.row rfl ?_)))))
  have hfl := sm.faults
  refine idx_ld h.faults.list (by omega) (by omega) fun x hx => ?_
  rw [Int.toNat_natCast] at hx
  have hg : D.faults.getD i false = x := by simp [List.getD, hx]
  refine mIf_intro (fun hx1 => h4 (by rw [Dk.read, ho, hg, hx1]; rfl)) (fun hx0 => nil_some (ld_row (x := A.n) h.row rfl ?_))
  refine idxN h.now (by omega) (by omega) fun a b el => ⟨_, ⟨by omega, by omega, by omega, rfl⟩, ?_⟩
  have hb : Bytes H ⟨some a, 64, 64⟩ b.1 := by
    have := elem_bytes el (n := 64) (c := 64) (by omega) (by omega)
    rwa [List.take_of_length_le (by rw [b.2]; omega)] at this
  have es : (⟨some (if 64 = (0 : Int).toNat then a else a.add ((0 : Int).toNat * 1)), (64 : Int).toNat - (0 : Int).toNat, 64 - (0 : Int).toNat⟩ : Sl) = ⟨some a, 64, 64⟩ := by
    simp [add_zero']
  rw [es]
  have hget := el.get
  rw [Int.toNat_natCast] at hget
  exact clone_bytes hb rfl (by rw [b.2]; omega) fun r H' x' o' v' => h0 (by rw [Dk.read, ho, hg, hx0]; rfl) r H' b hget x' o' v'

def Dk.fault (D : Dk) (i : Nat) (on : Bool) : Dk := { D with faults := D.faults.set i on }
theorem fault_spec {H : PH} {A : DA} {D : Dk} {i : Nat} {on : Bool} {Q : Int → PH → Prop} (h : DiskAt H A D) (sm : Small D) (hi : i < D.now.length) (hQ : ∀ H', DiskAt H' A (D.fault i on) → After A H A H' → Q 0 H') : vdisk_Disk_Fault (some A.a) i on H Q := by
  have e1 : (decide (0 ≤ (i : Int)) && decide ((i : Int) < D.now.length)) = true := by simp; omega
  refine has_spec h ?_
  rw [e1]
  have hfl := sm.faults
  refine mIf_neg rfl (nil_some (ld_row (x := A.f) h.row rfl (put_vec (x := on) h.faults (by omega) (by omega) rfl fun H1 v1 k1 => ?_)))
  rw [Int.toNat_natCast] at v1
  refine hQ H1 ⟨?_, ?_, ?_, ?_, v1, h.ap⟩ ⟨rfl, fun c hc => .inl hc, fun c o hc hn => k1 c o hc fun hh => hn (.inr (.inr (.inr (.inr hh))))⟩
  · exact ⟨h.row.1, h.row.2.1, let ⟨e, he⟩ := h.row.2.2; ⟨e, k1 _ _ he h.ap.af⟩⟩
  · exact h.safe.agree fun c o hc ho => k1 c o ho fun hh => h.ap.sf c hc hh
  · exact h.now.agree fun c o hc ho => k1 c o ho fun hh => h.ap.nf c hc hh
  · exact h.held.agree fun c o hc ho => k1 c o ho fun hh => h.ap.hf c hc hh

def Dk.setFuse (D : Dk) (n : Int) : Dk := { D with fuse := max n (-1) }
theorem fuse_spec {H : PH} {A : DA} {D : Dk} {n : Int} {Q : PH → Prop} (h : DiskAt H A D) (hQ : ∀ H', DiskAt H' A (D.setFuse n) → After A H A H' → Q H') : vdisk_Disk_Fuse (some A.a) n H Q := by
  have em : (if n < -1 then -1 else n) = max n (-1) := by omega
  unfold vdisk_Disk_Fuse
  rw [em]
  refine mIf_pos rfl (nil_some (st_cell h.row (by simp [cellsD]) rfl fun H1 r1 k1 => hQ H1 (h.turn r1 k1 rfl rfl rfl rfl) (.of_keepB k1)))

theorem held_spec {H : PH} {A : DA} {D : Dk} {Q : Int → PH → Prop} (h : DiskAt H A D) (hQ : Q D.held.length H) : vdisk_Disk_Held (some A.a) H Q := by
  refine mIf_neg rfl (nil_some (ld_row (x := A.h) h.row rfl ?_))
  rw [h.held.lenI]; exact hQ
theorem acts_spec {H : PH} {A : DA} {D : Dk} {Q : Int → PH → Prop} (h : DiskAt H A D) (hQ : Q D.acts H) : vdisk_Disk_Acts (some A.a) H Q := mIf_neg rfl (nil_some (ld_row (x := D.acts) h.row rfl hQ))
theorem off_spec {H : PH} {A : DA} {D : Dk} {Q : Bool → PH → Prop} (h : DiskAt H A D) (hQ : Q D.off H) : vdisk_Disk_Off (some A.a) H Q := mJoin_intro (mIf_neg rfl (nil_some (ld_row (x := D.off) h.row rfl hQ)))
theorem sectors_spec {H : PH} {A : DA} {D : Dk} {Q : Int → PH → Prop} (h : DiskAt H A D) (hQ : Q D.now.length H) : vdisk_Disk_Sectors (some A.a) H Q := by
  refine mIf_neg rfl (nil_some (ld_row (x := A.n) h.row rfl ?_))
  rw [h.now.lenI]; exact hQ

theorem RowAt.part {H : PH} {a : Addr} {cs : List Value} {i n : Nat} (h : RowAt H a cs) (hl : i + n ≤ cs.length) : cellsAt H (a.add i) n = some ((cs.drop i).take n) := by
  obtain ⟨e, he⟩ := h.2.2
  rw [h.addr, add_mk, cellsAt_of_row he (by omega), Nat.zero_add]

def putAll (s : List Blk) (l : List (Int × Blk)) : List Blk := l.foldl (fun s w => s.set w.1.toNat w.2) s
theorem putAll_length (l : List (Int × Blk)) : ∀ s, (putAll s l).length = s.length := by
  induction l with
  | nil => intro s; rfl
  | cons w l ih => intro s; show (putAll (s.set w.1.toNat w.2) l).length = _; rw [ih]; simp
theorem putAll_snoc (s : List Blk) (l : List (Int × Blk)) (w : Int × Blk) : putAll s (l ++ [w]) = (putAll s l).set w.1.toNat w.2 := by simp [putAll]
def Dk.flush (D : Dk) : Dk := if D.act.2 then { D.act.1 with safe := putAll D.safe D.held, held := [] } else D.act.1

theorem flush_spec {H : PH} {A : DA} {D : Dk} {Q : Int → PH → Prop} (h : DiskAt H A D) (sm : Small D) (hQ : ∀ A' H', DiskAt H' A' D.flush → After A H A' H' → Q (if D.act.2 then 0 else 3) H') : vdisk_Disk_Flush (some A.a) H Q := by
  refine mIf_neg rfl (act_spec h sm fun H1 h1 k1 => ?_)
  obtain ⟨s1, s2, s3, s4⟩ := act_same D
  by_cases hact : D.act.2 = true
  · have hw : D.flush = { D.act.1 with safe := putAll D.safe D.held, held := [] } := by rw [Dk.flush, if_pos hact]
    rw [if_pos hact] at hQ ⊢
    refine mIf_neg rfl (nil_some (ld_row (x := A.h) h1.row rfl ?_))
    have hhl := sm.held
    refine mLoop_count D.held.length (fun k s Hk => s = (k : Int) ∧ DiskAt Hk A { D.act.1 with safe := putAll D.safe (D.held.take k) } ∧ After A H A Hk) ⟨rfl, by rw [List.take_zero]; show DiskAt H1 A { D.act.1 with safe := D.safe }; rw [← s1]; exact h1, .of_keepB k1⟩ ?_
    rintro k s H2 again hk ⟨rfl, h2, af2⟩ hag
    have v2 := h2.held
    simp only [s3] at v2
    rw [v2.lenI]
    refine mIf_intro (fun hlt => ?_) (fun hge => ?_)
    · have hkl : k < D.held.length := by simpa using hlt
      refine idxN v2 (by omega) (by omega) fun a w el => ldN lenW el ?_
      have hget := el.get
      rw [Int.toNat_natCast] at hget
      obtain ⟨w0, w1⟩ := sm.at_ w (List.mem_of_getElem? hget)
      refine new_row fun a3 H3 x3 r3 f3 => ⟨lenW w, st_row r3 (by rw [lenW]; rfl) (cvW w) fun H4 r4 k4 => ?_⟩
      have h4 : DiskAt H4 A { D.act.1 with safe := putAll D.safe (D.held.take k) } := h2.agree fun c o hc ho => k4 c o (x3 c o ho) fun e => by subst e; rw [f3] at ho; cases ho
      have ha3 : ¬ A.foot a3.block := fun hc => none_no (h2.has_some hc) f3
      refine nil_some (ld_row (x := A.s) h4.row rfl (ld_row (x := w.1) r4 rfl ⟨encB w.2, ?_, ?_⟩))
      · rw [RowAt.part r4 (by rw [lenW]; omega)]
        show some ((encB w.2).take 64) = _
        rw [List.take_of_length_le (by rw [lenB]; omega)]
      · have hsl := sm.safe
        refine idxN h4.safe w0 (by rw [putAll_length]; omega) fun a5 y el5 => ⟨lenB w.2, stN (y := w.2) lenB el5 (cvB _) fun H5 v5 k5 => ?_⟩
        refine hag hkl _ _ ⟨?_, ⟨?_, ?_, ?_, ?_, ?_, h4.ap⟩, ⟨rfl, fun c hc => .inl hc, fun c o hc hn => ?_⟩⟩
        · rw [wrap64_id (by omega) (by omega)]; push_cast; rfl
        · exact ⟨h4.row.1, h4.row.2.1, let ⟨e, he⟩ := h4.row.2.2; ⟨e, k5 _ _ he h4.ap.as_⟩⟩
        · rw [List.take_add_one, hget]; show VecN encB 64 H5 A.s (putAll D.safe (D.held.take k ++ [w])); rw [putAll_snoc]; exact v5
        · exact h4.now.agree fun c o hc ho => k5 c o ho fun hh => h4.ap.sn c hh hc
        · exact h4.held.agree fun c o hc ho => k5 c o ho fun hh => h4.ap.sh c hh hc
        · exact Vec.agree h4.faults fun c o hc ho => k5 c o ho fun hh => h4.ap.sf c hh hc
        · have hc2 := af2.beside c o hc hn
          exact k5 c o (k4 c o (x3 c o hc2) fun e => by subst e; rw [f3] at hc2; cases hc2) fun hh => hn (.inr (.inl hh))
    · have : k = D.held.length := by simp at hge; omega
      subst this
      rw [List.take_length] at h2
      refine nil_some (st_cell h2.row (by simp [cellsD]) rfl fun H3 r3 k3 => hQ ⟨A.a, A.s, A.n, Sl.nil, A.f⟩ H3 ?_ ⟨rfl, ?_, ?_⟩)
      · rw [hw]
        refine ⟨r3, ?_, ?_, .inl ⟨rfl, rfl⟩, ?_, ⟨h2.ap.as_, h2.ap.an, nil_has, h2.ap.af, h2.ap.sn, fun _ _ => nil_has, h2.ap.sf, fun _ _ => nil_has, h2.ap.nf, fun c hc => absurd hc nil_has⟩⟩
        · exact h2.safe.agree fun c o hc ho => k3 c o ho fun e => h2.ap.as_ (e ▸ hc)
        · exact h2.now.agree fun c o hc ho => k3 c o ho fun e => h2.ap.an (e ▸ hc)
        · exact Vec.agree h2.faults fun c o hc ho => k3 c o ho fun e => h2.ap.af (e ▸ hc)
      · rintro c (rfl | hc | hc | hc | hc)
        · exact .inl (.inl rfl)
        · exact .inl (.inr (.inl hc))
        · exact .inl (.inr (.inr (.inl hc)))
        · exact absurd hc nil_has
        · exact .inl (.inr (.inr (.inr (.inr hc))))
      · exact fun c o hc hn => k3 c o (af2.beside c o hc hn) fun e => hn (.inl e)
  · have hw : D.flush = D.act.1 := by rw [Dk.flush, if_neg hact]
    rw [if_neg hact] at hQ ⊢
    exact mIf_pos rfl (hQ A H1 (hw ▸ h1) (.of_keepB k1))
end Go.Proofs.Ytdoldlinaghfbaa

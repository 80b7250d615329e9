/- vdisk AMONG OTHER THINGS; the document's own disk. -/
import Derived.Test.YtdoldlinaghfbaaDiskK
import Derived.Test.YtdoldlinaghfbaaKxStar
set_option linter.unusedVariables false
set_option linter.unusedSimpArgs false
namespace Go.Proofs.Ytdoldlinaghfbaa
open Go Go.Kx

theorem set_same {α : Type} {L : List α} {i : Nat} {O : α} (h : L[i]? = some O) : L.set i O = L := by
  apply List.ext_getElem?
  intro j
  by_cases e : i = j
  · subst e; rw [List.getElem?_set_self (List.getElem?_eq_some_iff.1 h).1, h]
  · rw [List.getElem?_set_ne e]
def diskO (A : DA) (D : Dk) : Ob := ⟨fun H => DiskAt H A D, A.foot, fun h x => h.agree x, fun h hc => ne_none (h.has_some hc)⟩

/-! ### What each call does and tells -/
open Classical in
noncomputable def Dk.wr (D : Dk) (at_ : Int) (bs : List Int) : Dk × Int := if h : (0 ≤ at_ ∧ at_ < D.now.length) ∧ bs.length = 64 then (D.write at_.toNat ⟨bs, h.2⟩, if D.act.2 then 0 else 3) else (D, 1)
def Dk.rd (D : Dk) (at_ : Int) : List Int × Int := if 0 ≤ at_ ∧ at_ < D.now.length then (if D.read at_.toNat = 0 then ((D.now.getD at_.toNat zeroB).1, 0) else ([], D.read at_.toNat)) else ([], 1)
def Dk.fl (D : Dk) : Dk × Int := (D.flush, if D.act.2 then 0 else 3)
def Dk.fa (D : Dk) (at_ : Int) (on : Bool) : Dk × Int := if 0 ≤ at_ ∧ at_ < D.now.length then (D.fault at_.toNat on, 0) else (D, 1)

section
variable {H : PH} {L : List Ob} {i : Nat} {A : DA} {D : Dk}
theorem S_turn {A' : DA} {D' : Dk} {H' : PH} (h : Stars H L) (hi : L[i]? = some (diskO A D)) (d : DiskAt H' A' D') (af : After A H A' H') : Stars H' (L.set i (diskO A' D')) :=
  h.turn (O' := diskO A' D') i hi d af.foot af.beside
theorem has_no {H : PH} {A : DA} {D : Dk} {at' : Int} (h : ¬ (0 ≤ at' ∧ at' < D.now.length)) : (decide (0 ≤ at') && decide (at' < D.now.length)) = false := by simp; omega
theorem S_write {at' : Int} {p : Sl} {bs : List Int} {j : Nat} {Q : Int → PH → Prop} (h : Stars H L) (hi : L[i]? = some (diskO A D)) (sm : Small D) (hj : L[j]? = some (vecO (Value.int .u8) p bs)) (hij : i ≠ j) (hl : bs.length < 2 ^ 60)
    (hQ : ∀ A' H', A'.a = A.a → Stars H' (L.set i (diskO A' (D.wr at' bs).1)) → Q (D.wr at' bs).2 H') : vdisk_Disk_Write (some A.a) at' p H Q := by
  have d : DiskAt H A D := h.get i hi
  have hv : Vec (Value.int .u8) H p bs := h.get j hj
  by_cases hc : (0 ≤ at' ∧ at' < D.now.length) ∧ bs.length = 64
  · have e : D.wr at' bs = (D.write at'.toNat ⟨bs, hc.2⟩, if D.act.2 then 0 else 3) := by rw [Dk.wr, dif_pos hc]
    rw [e] at hQ
    obtain ⟨k, rfl⟩ := Int.eq_ofNat_of_zero_le hc.1.1
    exact write_spec (i := k) (b := ⟨bs, hc.2⟩) d sm (by omega) hv.list (fun c h1 h2 => h.dj i j _ _ hi hj hij c h2 h1) fun A' H' d' af => hQ A' H' af.same (S_turn h hi d' af)
  · have e : D.wr at' bs = (D, 1) := by rw [Dk.wr, dif_neg hc]
    rw [e] at hQ
    have q := hQ A H rfl (by rw [set_same hi]; exact h)
    refine has_spec d ?_
    by_cases h1 : 0 ≤ at' ∧ at' < D.now.length
    · have h2 : ¬ bs.length = 64 := fun h2 => hc ⟨h1, h2⟩
      have e1 : (decide (0 ≤ at') && decide (at' < D.now.length)) = true := by simp; omega
      have e2 : ((p.len : Int) != 64) = true := by rw [hv.list.lenI]; simp; omega
      rw [e1]
      refine mJoin_intro (mIf_neg rfl ?_)
      rw [e2]
      exact mIf_pos rfl q
    · rw [has_no (H := H) (A := A) h1]
      exact mJoin_intro (mIf_pos rfl (mIf_pos rfl q))
theorem S_read {at' : Int} {Q : Sl → Int → PH → Prop} (d : DiskAt H A D) (sm : Small D)
    (hQ : ∀ r H', Stars H' [baseO H, vecO (Value.int .u8) r (D.rd at').1] → Q r (D.rd at').2 H') : vdisk_Disk_Read (some A.a) at' H Q := by
  have nilq : (D.rd at').1 = [] → Q Sl.nil (D.rd at').2 H := fun e => hQ Sl.nil H (by rw [e]; exact (Stars.start H).nilv)
  by_cases h1 : 0 ≤ at' ∧ at' < D.now.length
  · obtain ⟨k, rfl⟩ := Int.eq_ofNat_of_zero_le h1.1
    have e : D.rd k = if D.read k = 0 then ((D.now.getD k zeroB).1, 0) else ([], D.read k) := by rw [Dk.rd, if_pos h1]; rfl
    refine read_spec (i := k) d sm (by omega) (fun e3 => ?_) (fun e4 => ?_) (fun e0 r H' b hb x o v => ?_)
    · have e' : D.rd k = ([], 3) := by rw [e, e3]; rfl
      have := nilq (by rw [e'])
      rw [e'] at this; exact this
    · have e' : D.rd k = ([], 4) := by rw [e, e4]; rfl
      have := nilq (by rw [e'])
      rw [e'] at this; exact this
    · have e' : D.rd k = (b.1, 0) := by rw [e, if_pos e0]; simp [List.getD, hb]
      have := hQ r H' (by rw [e']; exact (Stars.start H).new (O' := vecO (Value.int .u8) r b.1) x v o)
      rw [e'] at this; exact this
  · have e : D.rd at' = ([], 1) := by rw [Dk.rd, if_neg h1]
    refine has_spec d ?_
    rw [has_no (H := H) (A := A) h1]
    refine mIf_pos rfl ?_
    have := nilq (by rw [e])
    rw [e] at this; exact this
theorem S_flush {Q : Int → PH → Prop} (h : Stars H L) (hi : L[i]? = some (diskO A D)) (sm : Small D)
    (hQ : ∀ A' H', A'.a = A.a → Stars H' (L.set i (diskO A' D.fl.1)) → Q D.fl.2 H') : vdisk_Disk_Flush (some A.a) H Q :=
  flush_spec (h.get i hi) sm fun A' H' d' af => hQ A' H' af.same (S_turn h hi d' af)
theorem S_fuse {n : Int} {Q : PH → Prop} (h : Stars H L) (hi : L[i]? = some (diskO A D)) (hQ : ∀ H', Stars H' (L.set i (diskO A (D.setFuse n))) → Q H') : vdisk_Disk_Fuse (some A.a) n H Q :=
  fuse_spec (h.get i hi) fun H' d' af => hQ H' (S_turn h hi d' af)
theorem S_fault {at' : Int} {on : Bool} {Q : Int → PH → Prop} (h : Stars H L) (hi : L[i]? = some (diskO A D)) (sm : Small D) (hQ : ∀ H', Stars H' (L.set i (diskO A (D.fa at' on).1)) → Q (D.fa at' on).2 H') : vdisk_Disk_Fault (some A.a) at' on H Q := by
  have d : DiskAt H A D := h.get i hi
  by_cases h1 : 0 ≤ at' ∧ at' < D.now.length
  · obtain ⟨k, rfl⟩ := Int.eq_ofNat_of_zero_le h1.1
    have e : D.fa k on = (D.fault k on, 0) := by rw [Dk.fa, if_pos h1]; rfl
    rw [e] at hQ
    exact fault_spec (i := k) d sm (by omega) fun H' d' af => hQ H' (S_turn h hi d' af)
  · have e : D.fa at' on = (D, 1) := by rw [Dk.fa, if_neg h1]
    rw [e] at hQ
    refine has_spec d ?_
    rw [has_no (H := H) (A := A) h1]
    exact mIf_pos rfl (hQ H (by rw [set_same hi]; exact h))
theorem S_crash {p : Sl} {m : List Int} {Q : Option Addr → PH → Prop} (d : DiskAt H A D) (sm : Small D) (h0 : 0 < D.now.length) (hp : Ints H p m)
    (hQ : ∀ A' H', Stars H' [baseO H, diskO A' (D.crash m)] → Q (some A'.a) H') : vdisk_Disk_Crash (some A.a) p H Q :=
  crash_spec d sm h0 hp fun A' H' x d' f => hQ A' H' ((Stars.start H).new (O' := diskO A' (D.crash m)) x d' f)
theorem S_fill {x : Int} {Q : Sl → PH → Prop} (h : Stars H L) (hQ : ∀ r H', Stars H' (L ++ [vecO (Value.int .u8) r (fillB x).1]) → Ext H H' → Q r H') : keelsonalike_Fill x H Q :=
  fill_spec fun r H' x' o v => hQ r H' (h.new (O' := vecO (Value.int .u8) r (fillB x).1) x' v o) x'
end

/-! ### The document's disk -/
def encP (w : Int × Sl) : List Value := [.int .i64 w.1, Sl.v w.2]
theorem lenP (w : Int × Sl) : (encP w).length = 2 := rfl
theorem cvP (w : Int × Sl) : (encP w).all cellV = true := rfl
theorem cvSl (s : Sl) : cellV (Sl.v s) = true := rfl
theorem cvU (x : Int) : cellV (Value.int .u8 x) = true := rfl
structure RM where
  a : Addr
  s : Sl
  h : Sl
  f : Sl
  z : Sl
  sl : List Sl
  hl : List (Int × Sl)
def cellsR (m : RM) (D : Dk) : List Value := [Sl.v m.s, Sl.v m.h, Sl.v m.f, .int .i64 D.fuse, .bool D.off, .int .i64 D.acts, Sl.v m.z]
def RM.foot (m : RM) (c : Nat) : Prop := c = m.a.block ∨ m.s.has c ∨ m.h.has c ∨ m.f.has c
structure RApart (m : RM) : Prop where
  as_ : ¬ m.s.has m.a.block
  ah : ¬ m.h.has m.a.block
  af : ¬ m.f.has m.a.block
  sh : ∀ c, m.s.has c → ¬ m.h.has c
  sf : ∀ c, m.s.has c → ¬ m.f.has c
  hf : ∀ c, m.h.has c → ¬ m.f.has c
structure RdAt (H : PH) (m : RM) (D : Dk) : Prop where
  row : RowAt H m.a (cellsR m D)
  safe : Vec Sl.v H m.s m.sl
  held : VecN encP 2 H m.h m.hl
  faults : Vec Value.bool H m.f D.faults
  ap : RApart m
  zl : m.z.len = 0
theorem RdAt.agree {H H' : PH} {m : RM} {D : Dk} (h : RdAt H m D) (x : ∀ c o, m.foot c → H c = some o → H' c = some o) : RdAt H' m D :=
  ⟨h.row.agree fun c o hc => x c o (.inl hc), h.safe.agree fun c o hc => x c o (.inr (.inl hc)), h.held.agree fun c o hc => x c o (.inr (.inr (.inl hc))), h.faults.agree fun c o hc => x c o (.inr (.inr (.inr hc))), h.ap, h.zl⟩
def rdO (m : RM) (D : Dk) : Ob := ⟨fun H => RdAt H m D, m.foot, fun h x => h.agree x, fun h hc => by
  rcases hc with rfl | hc | hc | hc
  · obtain ⟨e, he⟩ := h.row.2.2; rw [he]; simp
  · exact ne_none (h.safe.has_some hc)
  · exact ne_none (h.held.has_some hc)
  · exact ne_none (h.faults.has_some hc)⟩
/-- The bytes of its sectors, and of what is held: they stand for good. -/
structure Rows' (B : PH) (m : RM) (D : Dk) : Prop where
  sl : m.sl.length = D.safe.length
  s : ∀ (i : Nat) (s : Sl) (b : Blk), m.sl[i]? = some s → D.safe[i]? = some b → Bytes B s b.1
  hl : m.hl.length = D.held.length
  h : ∀ (i : Nat) (w : Int × Sl) (v : Int × Blk), m.hl[i]? = some w → D.held[i]? = some v → w.1 = v.1 ∧ Bytes B w.2 v.2.1
theorem Rows'.ext {B B' : PH} {m : RM} {D : Dk} (r : Rows' B m D) (x : Ext B B') : Rows' B' m D := ⟨r.sl, fun i s b h1 h2 => (r.s i s b h1 h2).ext x, r.hl, fun i w v h1 h2 => ⟨(r.h i w v h1 h2).1, (r.h i w v h1 h2).2.ext x⟩⟩

section
variable {H : PH} {L : List Ob} {i : Nat} {m : RM} {D : Dk}
/-- The struct alone was turned. -/
theorem RdAt.turn {H' : PH} {D' : Dk} (h : RdAt H m D) (r : RowAt H' m.a (cellsR m D')) (k : KeepB m.a.block H H') (hf : D'.faults = D.faults) : RdAt H' m D' :=
  ⟨r, h.safe.agree fun c o hc ho => k c o ho fun e => h.ap.as_ (e ▸ hc), h.held.agree fun c o hc ho => k c o ho fun e => h.ap.ah (e ▸ hc), by rw [hf]; exact h.faults.agree fun c o hc ho => k c o ho fun e => h.ap.af (e ▸ hc), h.ap, h.zl⟩
theorem ract_spec {Q : Bool → PH → Prop} (h : RdAt H m D) (sm : Small D) (hQ : ∀ H', RdAt H' m D.act.1 → KeepB m.a.block H H' → Q D.act.2 H') : keelsonref1_Disk_act (some m.a) H Q := by
  have := sm.acts0; have := sm.acts1; have := sm.fuse0; have := sm.fuse1
  refine nil_some (ld_row (x := D.acts) h.row rfl (nil_some ?_))
  rw [wrap64_id (by omega) (by omega)]
  refine st_cell h.row (by simp [cellsR]) rfl fun H1 r1 k1 => nil_some (ld_row (x := D.off) r1 rfl (mJoin_intro ?_))
  have fin : ∀ b : Bool, b = (D.off || D.fuse == 0) → mIf b (mNil (some m.a) fun a19 => mSt H1 (a19.add 4) ([.bool true]) fun H21 => Q false H21)
      (mNil (some m.a) fun a23 => mLd (.int .i64) H1 (a23.add 3) fun x25 => mJoin (fun (s27 : Unit) (H29 : PH) => Q true H29) fun j28 => mIf (decide (0 < x25)) (mNil (some m.a) fun a32 => mLd (.int .i64) H1 (a32.add 3) fun x34 => mNil (some m.a) fun a36 => mSt H1 (a36.add 3) ([.int .i64 (IntKind.wrap .i64 (x34 - 1))]) fun H38 => j28 () H38) (j28 () H1)) := by
    intro b hb
    refine mIf_intro (fun hbt => ?_) (fun hbf => ?_)
    · have e : D.act = ({ D with acts := D.acts + 1, off := true }, false) := by rw [Dk.act, ← hb, hbt]; rfl
      rw [e] at hQ
      refine nil_some (st_cell r1 (by simp [cellsR]) rfl fun H2 r2 k2 => hQ H2 (h.turn (D' := { D with acts := D.acts + 1, off := true }) r2 (fun c o hc hn => k2 c o (k1 c o hc hn) hn) rfl) fun c o hc hn => k2 c o (k1 c o hc hn) hn)
    · have e : D.act = ({ D with acts := D.acts + 1, off := false, fuse := max (D.fuse - 1) (-1) }, true) := by rw [Dk.act, ← hb, hbf]; rfl
      rw [e] at hQ
      have ho : D.off = false := by
        rw [hbf] at hb
        cases h' : D.off with
        | false => rfl
        | true => rw [h'] at hb; simp at hb
      have hf0 : ¬ D.fuse = 0 := by
        rw [hbf, ho] at hb; simpa using hb.symm
      refine nil_some (ld_row (x := D.fuse) r1 rfl (mJoin_intro (mIf_intro (fun c => ?_) (fun c => ?_))))
      · have c' : 0 < D.fuse := by simpa using c
        refine nil_some (ld_row (x := D.fuse) r1 rfl (nil_some (st_cell r1 (by simp [cellsR]) rfl fun H2 r2 k2 => ?_)))
        rw [wrap64_id (by omega) (by omega)] at r2
        have em : max (D.fuse - 1) (-1) = D.fuse - 1 := by omega
        rw [em] at hQ
        refine hQ H2 (h.turn (D' := { D with acts := D.acts + 1, off := false, fuse := D.fuse - 1 }) ?_ (fun c o hc hn => k2 c o (k1 c o hc hn) hn) rfl) fun c o hc hn => k2 c o (k1 c o hc hn) hn
        unfold cellsR at r2 ⊢
        rw [ho] at r2; exact r2
      · have c' : ¬ 0 < D.fuse := by simpa using c
        have em : max (D.fuse - 1) (-1) = D.fuse := by omega
        rw [em] at hQ
        refine hQ H1 (h.turn (D' := { D with acts := D.acts + 1, off := false, fuse := D.fuse }) ?_ k1 rfl) k1
        unfold cellsR at r1 ⊢
        rw [ho] at r1; exact r1
  exact mIf_intro (fun c => fin true (by rw [c]; rfl)) (fun c => nil_some (ld_row (x := D.fuse) r1 rfl (fin _ (by rw [c]; simp))))
theorem within_spec {n low high : Int} {Q : Bool → PH → Prop} (hQ : Q (decide (low ≤ n) && decide (n ≤ high)) H) : keelsonref1_Within n low high H Q := by
  refine mJoin_intro (mIf_intro (fun c => ?_) (fun c => ?_))
  · rw [c, Bool.true_and] at hQ; exact hQ
  · rw [c, Bool.false_and] at hQ; exact hQ
end
end Go.Proofs.Ytdoldlinaghfbaa

/- WHAT THE FUNCTIONS OF vdisk DO. -/
import Derived.Test.YtdoldlinaghfbaaFn
import Derived.Test.YtdoldlinaghfbaaKxS
set_option linter.unusedVariables false
set_option linter.unusedSimpArgs false
namespace Go.Proofs.Ytdoldlinaghfbaa
open Go Go.Kx

abbrev Blk := { l : List Int // l.length = 64 }
abbrev encB (b : Blk) : List Value := b.1.map (Value.int .u8)
abbrev encW (w : Int × Blk) : List Value := Value.int .i64 w.1 :: encB w.2
theorem lenB (b : Blk) : (encB b).length = 64 := by simp [b.2]
theorem lenW (w : Int × Blk) : (encW w).length = 65 := by simp [w.2.2]
theorem cvB (b : Blk) : (encB b).all cellV = true := by simp [encB, cellV]
theorem cvW (w : Int × Blk) : (encW w).all cellV = true := by simp [encW, encB, cellV]

structure Dk where
  safe : List Blk
  now : List Blk
  held : List (Int × Blk)
  faults : List Bool
  fuse : Int
  acts : Int
  off : Bool
structure DA where
  a : Addr
  s : Sl
  n : Sl
  h : Sl
  f : Sl
def cellsD (A : DA) (D : Dk) : List Value := [Sl.v A.s, Sl.v A.n, Sl.v A.h, Sl.v A.f, .int .i64 D.fuse, .int .i64 D.acts, .bool D.off]
/-- What a disk has. -/
def DA.foot (A : DA) (c : Nat) : Prop := c = A.a.block ∨ A.s.has c ∨ A.n.has c ∨ A.h.has c ∨ A.f.has c
structure Apart (A : DA) : Prop where
  as_ : ¬ A.s.has A.a.block
  an : ¬ A.n.has A.a.block
  ah : ¬ A.h.has A.a.block
  af : ¬ A.f.has A.a.block
  sn : ∀ c, A.s.has c → ¬ A.n.has c
  sh : ∀ c, A.s.has c → ¬ A.h.has c
  sf : ∀ c, A.s.has c → ¬ A.f.has c
  nh : ∀ c, A.n.has c → ¬ A.h.has c
  nf : ∀ c, A.n.has c → ¬ A.f.has c
  hf : ∀ c, A.h.has c → ¬ A.f.has c
structure DiskAt (H : PH) (A : DA) (D : Dk) : Prop where
  row : RowAt H A.a (cellsD A D)
  safe : VecN encB 64 H A.s D.safe
  now : VecN encB 64 H A.n D.now
  held : VecN encW 65 H A.h D.held
  faults : Vec Value.bool H A.f D.faults
  ap : Apart A
/-- What is beside a disk stands. -/
def Beside (A : DA) (H H' : PH) : Prop := ∀ c o, H c = some o → ¬ A.foot c → H' c = some o
theorem Vec.agree {α : Type} {enc : α → Value} {A B : PH} {s : Sl} {l : List α} (h : Vec enc A s l) (x : ∀ c o, s.has c → A c = some o → B c = some o) : Vec enc B s l := by
  rcases h with h | ⟨b, sp, e, h1, h2⟩
  · exact .inl h
  · exact .inr ⟨b, sp, e, h1, x _ _ ⟨_, by rw [h1], rfl⟩ h2⟩
theorem DiskAt.agree {H H' : PH} {A : DA} {D : Dk} (h : DiskAt H A D) (x : ∀ c o, A.foot c → H c = some o → H' c = some o) : DiskAt H' A D :=
  ⟨⟨h.row.1, h.row.2.1, let ⟨e, he⟩ := h.row.2.2; ⟨e, x _ _ (.inl rfl) he⟩⟩, h.safe.agree fun c o hc => x c o (.inr (.inl hc)), h.now.agree fun c o hc => x c o (.inr (.inr (.inl hc))),
    h.held.agree fun c o hc => x c o (.inr (.inr (.inr (.inl hc)))), Vec.agree h.faults fun c o hc => x c o (.inr (.inr (.inr (.inr hc)))), h.ap⟩
theorem DiskAt.ext {H H' : PH} {A : DA} {D : Dk} (h : DiskAt H A D) (x : Ext H H') : DiskAt H' A D := h.agree fun c o _ hc => x c o hc
/-- The struct alone was turned. -/
theorem DiskAt.turn {H H' : PH} {A : DA} {D D' : Dk} (h : DiskAt H A D) (hr : RowAt H' A.a (cellsD A D')) (k : KeepB A.a.block H H') (h1 : D'.safe = D.safe) (h2 : D'.now = D.now) (h3 : D'.held = D.held) (h4 : D'.faults = D.faults) : DiskAt H' A D' :=
  ⟨hr, by rw [h1]; exact h.safe.agree fun c o hc ho => k c o ho fun e => h.ap.as_ (e ▸ hc), by rw [h2]; exact h.now.agree fun c o hc ho => k c o ho fun e => h.ap.an (e ▸ hc),
    by rw [h3]; exact h.held.agree fun c o hc ho => k c o ho fun e => h.ap.ah (e ▸ hc), by rw [h4]; exact Vec.agree h.faults fun c o hc ho => k c o ho fun e => h.ap.af (e ▸ hc), h.ap⟩
theorem Beside.keepB {H H' : PH} {A : DA} (k : KeepB A.a.block H H') : Beside A H H' := fun c o hc hn => k c o hc fun e => hn (.inl e)
theorem Beside.trans {H1 H2 H3 : PH} {A B : DA} (h : Beside A H1 H2) (k : Beside B H2 H3) (hf : ∀ c, B.foot c → A.foot c ∨ H1 c = none) : Beside A H1 H3 := fun c o hc hn => k c o (h c o hc hn) fun hb => (hf c hb).elim hn fun e => by rw [hc] at e; cases e
theorem Beside.refl {H : PH} {A : DA} : Beside A H H := fun _ _ h _ => h

/-- An act. -/
def Dk.act (D : Dk) : Dk × Bool :=
  if D.off || D.fuse == 0 then ({ D with acts := D.acts + 1, off := true }, false) else ({ D with acts := D.acts + 1, off := false, fuse := max (D.fuse - 1) (-1) }, true)
/-- Small enough to count on. -/
structure Small (D : Dk) : Prop where
  fuse0 : -1 ≤ D.fuse
  fuse1 : D.fuse < 2 ^ 63
  acts0 : 0 ≤ D.acts
  acts1 : D.acts < 2 ^ 40
  held : D.held.length < 2 ^ 30
  now : D.now.length ≤ 4096
  safe : D.safe.length = D.now.length
  faults : D.faults.length = D.now.length
  at_ : ∀ w, w ∈ D.held → 0 ≤ w.1 ∧ w.1 < D.now.length

theorem act_spec {H : PH} {A : DA} {D : Dk} {Q : Int → PH → Prop} (h : DiskAt H A D) (sm : Small D) (hQ : ∀ H', DiskAt H' A D.act.1 → KeepB A.a.block H H' → Q (if D.act.2 then 0 else 3) H') : vdisk_Disk_act (some A.a) H Q := by
  refine nil_some (ld_row (x := D.acts) h.row rfl (nil_some ?_))
  have := sm.acts0; have := sm.acts1; have := sm.fuse0; have := sm.fuse1
  rw [wrap64_id (by omega) (by omega)]
  refine st_cell h.row (by simp [cellsD]) rfl fun H1 r1 k1 => nil_some (ld_row (x := D.off) r1 rfl ?_)
  have fin : ∀ b : Bool, b = (D.off || D.fuse == 0) → mNil (some A.a) fun a18 => mSt H1 (a18.add 6) [.bool b] fun H20 => mNil (some A.a) fun a22 => mLd .bool H20 (a22.add 6) fun x24 => mIf x24 (Q 3 H20)
      (mNil (some A.a) fun a27 => mLd (.int .i64) H20 (a27.add 4) fun x29 => mNil (some A.a) fun a31 => mSt H20 (a31.add 4) ([.int .i64 (if (IntKind.wrap .i64 (x29 - 1)) < (-1) then (-1) else (IntKind.wrap .i64 (x29 - 1)))]) fun H33 => Q 0 H33) := by
    intro b hb
    refine nil_some (st_cell r1 (by simp [cellsD]) rfl fun H2 r2 k2 => nil_some (ld_row (x := b) r2 rfl ?_))
    have k12 : KeepB A.a.block H H2 := fun c o hc hn => k2 c o (k1 c o hc hn) hn
    refine mIf_intro (fun hbt => ?_) (fun hbf => ?_)
    · have e : D.act = ({ D with acts := D.acts + 1, off := true }, false) := by rw [Dk.act, ← hb, hbt]; rfl
      have := hQ H2 (h.turn (by rw [e]; subst hbt; exact r2) k12 (by rw [e]) (by rw [e]) (by rw [e]) (by rw [e])) k12
      rw [e] at this; exact this
    · have e : D.act = ({ D with acts := D.acts + 1, off := false, fuse := max (D.fuse - 1) (-1) }, true) := by rw [Dk.act, ← hb, hbf]; rfl
      refine nil_some (ld_row (x := D.fuse) r2 rfl (nil_some ?_))
      rw [wrap64_id (x := D.fuse - 1) (by omega) (by omega)]
      have em : (if D.fuse - 1 < -1 then -1 else D.fuse - 1) = max (D.fuse - 1) (-1) := by omega
      rw [em]
      refine st_cell r2 (by simp [cellsD]) rfl fun H3 r3 k3 => ?_
      have k13 : KeepB A.a.block H H3 := fun c o hc hn => k3 c o (k12 c o hc hn) hn
      have := hQ H3 (h.turn (by rw [e]; subst hbf; exact r3) k13 (by rw [e]) (by rw [e]) (by rw [e]) (by rw [e])) k13
      rw [e] at this; exact this
  refine mJoin_intro (mIf_intro (fun ho => fin true (by rw [ho]; rfl)) (fun ho => nil_some (ld_row (x := D.fuse) r1 rfl (fin _ (by rw [ho]; simp)))))
theorem has_spec {H : PH} {A : DA} {D : Dk} {at' : Int} {Q : Bool → PH → Prop} (h : DiskAt H A D) (hQ : Q (decide (0 ≤ at') && decide (at' < D.now.length)) H) : vdisk_Disk_has (some A.a) at' H Q := by
  refine mJoin_intro (mIf_pos rfl (mJoin_intro (mIf_intro (fun e => nil_some (ld_row (x := A.n) h.row rfl ?_)) (fun e => ?_))))
  · rw [h.now.lenI]; rw [e, Bool.true_and] at hQ; exact hQ
  · rw [e, Bool.false_and] at hQ; exact hQ
end Go.Proofs.Ytdoldlinaghfbaa

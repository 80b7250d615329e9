/- BOTH DISKS SIDE BY SIDE; THE LAW DiskPlays, on formulas. -/
import Derived.Test.YtdoldlinaghfbaaDiskP
import Derived.Test.YtdoldlinaghfbaaKxIn
set_option linter.unusedVariables false
set_option linter.unusedSimpArgs false
namespace Go.Proofs.Ytdoldlinaghfbaa
open Go Go.Kx

theorem mJoin_cut {σ : Type} {k : σ → PH → Prop} {body : (σ → PH → Prop) → Prop} (C : σ → PH → Prop) (h1 : ∀ s H, C s H → k s H) (h2 : ∀ k' : σ → PH → Prop, (∀ s H, C s H → k' s H) → body k') : mJoin k body := h2 k h1
structure Good (n k : Nat) (D : Dk) : Prop where
  small : Small D
  now : D.now = putAll D.safe D.held
  len : D.now.length = n
  few : D.held.length ≤ k
  acts : D.acts ≤ k
theorem Good.up {n k : Nat} {D : Dk} (h : Good n k D) : Good n (k + 1) D := ⟨h.small, h.now, h.len, by have := h.few; omega, by have := h.acts; push_cast; omega⟩
theorem act_acts (D : Dk) : D.act.1.acts = D.acts + 1 := by unfold Dk.act; split <;> rfl
theorem Good.act {n k : Nat} {D : Dk} (h : Good n k D) (hk : k < 100000) : Good n (k + 1) D.act.1 := by
  obtain ⟨s1, s2, s3, s4⟩ := act_same D
  have h1 := h.few; have h2 := h.acts
  exact ⟨h.small.act (by omega), by rw [s1, s2, s3]; exact h.now, by rw [s2]; exact h.len, by rw [s3]; omega, by rw [act_acts]; push_cast; omega⟩
theorem Good.write {n k i : Nat} {D : Dk} {b : Blk} (h : Good n k D) (hk : k < 100000) (hi : i < n) : Good n (k + 1) (D.write i b) := by
  have h1 := h.few; have h2 := h.acts
  obtain ⟨s1, s2, s3, s4⟩ := act_same D
  by_cases hact : D.act.2 = true
  · have sm := h.small.write (i := i) (b := b) (by rw [h.len]; exact hi) (by omega) (by omega)
    have hw : D.write i b = { D.act.1 with held := D.held ++ [((i : Int), b)], now := D.now.set i b } := by rw [Dk.write, if_pos hact]
    rw [hw] at sm ⊢
    refine ⟨sm, ?_, by show (D.now.set i b).length = n; rw [List.length_set]; exact h.len, by show (D.held ++ [((i : Int), b)]).length ≤ k + 1; simp; exact h1, by show D.act.1.acts ≤ _; rw [act_acts]; push_cast; omega⟩
    show D.now.set i b = putAll D.act.1.safe (D.held ++ [((i : Int), b)])
    rw [putAll_snoc, s1, h.now, Int.toNat_natCast]
  · have hw : D.write i b = D.act.1 := by rw [Dk.write, if_neg hact]
    rw [hw]; exact h.act hk
theorem Good.wr {n k : Nat} {D : Dk} {at_ : Int} {bs : List Int} (h : Good n k D) (hk : k < 100000) : Good n (k + 1) (D.wr at_ bs).1 := by
  by_cases hc : (0 ≤ at_ ∧ at_ < D.now.length) ∧ bs.length = 64
  · rw [Dk.wr, dif_pos hc]
    have := h.len
    exact h.write hk (by omega)
  · rw [Dk.wr, dif_neg hc]; exact h.up
theorem Good.fl {n k : Nat} {D : Dk} (h : Good n k D) (hk : k < 100000) : Good n (k + 1) D.fl.1 := by
  have h1 := h.few; have h2 := h.acts
  obtain ⟨s1, s2, s3, s4⟩ := act_same D
  show Good n (k + 1) D.flush
  have sm := h.small.flush (by omega)
  by_cases hact : D.act.2 = true
  · have hw : D.flush = { D.act.1 with safe := putAll D.safe D.held, held := [] } := by rw [Dk.flush, if_pos hact]
    rw [hw] at sm ⊢
    exact ⟨sm, by show D.act.1.now = putAll (putAll D.safe D.held) []; rw [s2]; exact h.now, by show D.act.1.now.length = n; rw [s2]; exact h.len, by simp, by show D.act.1.acts ≤ _; rw [act_acts]; push_cast; omega⟩
  · have hw : D.flush = D.act.1 := by rw [Dk.flush, if_neg hact]
    rw [hw]; exact h.act hk
theorem Good.fa {n k : Nat} {D : Dk} {at_ : Int} {on : Bool} (h : Good n k D) : Good n (k + 1) (D.fa at_ on).1 := by
  unfold Dk.fa
  split
  · exact ⟨h.small.fault _ _, h.now, h.len, h.up.few, h.up.acts⟩
  · exact h.up
theorem Good.setFuse {n k : Nat} {D : Dk} {x : Int} (h : Good n k D) (hx : x < 2 ^ 63) : Good n (k + 1) (D.setFuse x) :=
  ⟨⟨by show -1 ≤ max x (-1); omega, by show max x (-1) < 2 ^ 63; omega, h.small.acts0, h.small.acts1, h.small.held, h.small.now, h.small.safe, h.small.faults, h.small.at_⟩, h.now, h.len, h.up.few, h.up.acts⟩
theorem Good.crash {n k : Nat} {D : Dk} (h : Good n k D) (m : List Int) : Good n (k + 1) (D.crash m) :=
  ⟨h.small.crash m, rfl, by show (crashTo m D.safe D.held D.held.length).1.length = n; rw [crashTo_length, h.small.safe]; exact h.len, by simp [Dk.crash], by show (0 : Int) ≤ _; omega⟩
theorem Good.fresh {n : Nat} (h : n ≤ 4096) : Good n 0 (fresh n) := ⟨small_fresh n h, rfl, by simp [Go.Proofs.Ytdoldlinaghfbaa.fresh], by simp [Go.Proofs.Ytdoldlinaghfbaa.fresh], by simp [Go.Proofs.Ytdoldlinaghfbaa.fresh]⟩

section
variable {H : PH} {L : List Ob} {A : DA} {m : RM} {D : Dk} {B : PH}
theorem S_same {a : Addr} {cs : List Value} {j : Nat} {v : Value} {K : Prop} (h : Stars H L) (i : Nat) (hi : L[i]? = some (rowO a cs)) (hj : cs[j]? = some v) (hK : K) : mSame H (a.add j) v K := ⟨(h.get i hi : RowAt H a cs).cell hj, hK⟩
theorem S_new {n : Int} {Q : Option Addr → Int → PH → Prop} (hbad : ¬ (1 ≤ n ∧ n ≤ 4096) → Q none 1 H) (hgood : 1 ≤ n ∧ n ≤ 4096 → ∀ A H', Stars H' [baseO H, diskO A (fresh n.toNat)] → Q (some A.a) 0 H') : vdisk_New n H Q := by
  by_cases hg : 1 ≤ n ∧ n ≤ 4096
  · obtain ⟨N, rfl⟩ := Int.eq_ofNat_of_zero_le (show 0 ≤ n by omega)
    exact new_spec (n := N) (by omega) (by omega) fun A H' x d f => hgood hg A H' ((Stars.start H).new (O' := diskO A (fresh N)) x d f)
  · have q := hbad hg
    refine mJoin_intro (mIf_intro (fun c => mIf_pos rfl q) (fun c => mIf_pos (by simp at c; simp; omega) q))
theorem same_spec {n k : Nat} {Q : Bool → PH → Prop} (d : DiskAt H A D) (e : RdAt H m D) (x : Ext B H) (r : Rows' B m D) (g : Good n k D) (hQ : ∀ H', Ext H H' → Q true H') : keelsonkit_Same (some A.a) (some m.a) H Q := by
  have sm := g.small
  have hml := r.hl
  have hsl := r.sl
  have hnl := sm.now
  have hss := sm.safe
  refine mJoin_intro (mIf_neg rfl (mJoin_intro (mIf_neg rfl (nil_some (ld_row (x := m.s) e.row rfl (sectors_spec d ⟨e.row.cell rfl, ?_⟩))))))
  have e1 : ((D.now.length : Int) != (m.s.len : Int)) = false := by rw [e.safe.list.lenI, hsl, hss]; simp
  rw [e1]
  refine mJoin_intro (mIf_neg rfl (nil_some (ld_row (x := m.h) e.row rfl (held_spec d ⟨e.row.cell rfl, ?_⟩))))
  have e2 : ((D.held.length : Int) != (m.h.len : Int)) = false := by rw [e.held.lenI, hml]; simp
  rw [e2]
  refine mJoin_intro (mIf_neg rfl (nil_some (ld_row (x := D.acts) e.row rfl (acts_spec d ⟨e.row.cell rfl, ?_⟩))))
  have e3 : (D.acts != D.acts) = false := by simp
  rw [e3]
  refine mJoin_intro (mIf_neg rfl (nil_some (ld_row (x := D.off) e.row rfl (off_spec d ⟨e.row.cell rfl, ?_⟩))))
  have e4 : (D.off != D.off) = false := by simp
  rw [e4]
  refine mIf_neg rfl ?_
  refine mLoop_count D.now.length (fun k st Hk => st = (k : Int) ∧ Ext H Hk) ⟨rfl, .refl H⟩ ?_
  rintro k st H1 again hk ⟨rfl, x1⟩ hag
  have d1 := d.ext x1
  have r1 : RdAt H1 m D := e.agree fun c o _ ho => x1 c o ho
  refine nil_some (ld_row (x := m.s) r1.row rfl ?_)
  rw [r1.safe.list.lenI, hsl, hss]
  refine mIf_intro (fun c => ?_) (fun c => hQ H1 x1)
  have hkn : k < D.now.length := by simpa using c
  refine S_read (at' := k) d1 sm fun q H2 h2 => ?_
  have r2 : RdAt H2 m D := r1.agree fun c o _ ho => h2.base c o ho
  refine R_read (at' := k) r2 ((x.trans x1).trans h2.base) r sm g.now fun q2 H3 h3 => ?_
  have e5 : ((D.rd k).2 != (D.rd k).2) = false := by simp
  have l1 := (h2.list (enc := Value.int .u8) 1 rfl).ext h3.base
  have l2 := h3.list (enc := Value.int .u8) 1 rfl
  have hlen : (D.rd k).1.length < 2 ^ 62 := by
    unfold Dk.rd
    split
    · split
      · rw [(D.now.getD _ zeroB).2]; decide
      · simp
    · simp
  refine mJoin_intro (mIf_neg e5 (equal_spec l1 l2 hlen ?_))
  rw [decide_eq_true rfl]
  refine mIf_neg rfl ?_
  rw [wrap_succ (by omega)]
  exact hag hkn _ _ ⟨rfl, (x1.trans h2.base).trans h3.base⟩
end

/-- One act. -/
abbrev Act4 := Int × Int × Int × (Sl × List Int)
def enc4 (x : Act4) : List Value := [.int .i64 x.1, .int .i64 x.2.1, .int .i64 x.2.2.1, Sl.v x.2.2.2.1]
theorem plays_law {H : PH} {p0 : Int} {s : Sl} {l : List Act4} (hs : ListN enc4 4 H s l) (hl : ∀ x, x ∈ l → x.2.1 < 2 ^ 63 ∧ Ints H x.2.2.2.1 x.2.2.2.2) : keelsonlaw3_DiskPlays p0 s H (DoneD H) := by
  have hlen := hs.lenI
  have hawake : ∀ H2, Ext H H2 → keelsonlaw3_awake H2 (DoneD H) := fun H2 x2 => awake_spec fun H3 x3 => ⟨rfl, x2.trans x3⟩
  refine mIf_intro (fun _ => hawake H (.refl H)) (fun c0 => ?_)
  have hl60 : l.length ≤ 60 := by simp at c0; omega
  by_cases hg : 1 ≤ p0 ∧ p0 ≤ 4096
  rotate_left
  · refine S_new (fun _ => R_new (Stars.start H) (fun _ => ?_) fun h => absurd h hg) fun h => absurd h hg
    exact mIf_pos rfl (mJoin_intro (mIf_pos rfl (mJoin_intro (mIf_pos rfl (hawake H (.refl H))))))
  obtain ⟨N, rfl⟩ := Int.eq_ofNat_of_zero_le (show 0 ≤ p0 by omega)
  refine S_new (fun h => absurd hg h) fun _ A H1 h1 => R_new h1 (fun h => absurd hg h) fun _ B m H2 x2 r2 h2 => mIf_neg rfl ?_
  rw [Int.toNat_natCast] at h2 r2
  have g0 : Good N 0 (fresh N) := Good.fresh (by omega)
  refine mJoin_intro (mIf_neg rfl (mJoin_intro (mIf_neg rfl ?_)))
  refine mIf_intro (fun _ => mJoin_intro (mIf_pos rfl (mJoin_intro (mIf_pos rfl (hawake H2 (x2.trans h2.base)))))) (fun c1 => ?_)
  refine mLoop_count l.length (fun k st Hk => ∃ B A m D, st = (some A.a, some m.a, (k : Int)) ∧ Ext H B ∧ Good N k D ∧ Rows' B m D ∧ Stars Hk [baseO B, diskO A D, rdO m D]) ⟨B, A, m, fresh N, rfl, x2, g0, r2, h2⟩ ?_
  rintro k st H3 again hk ⟨B, A, m, D, rfl, xB, g, r, h3⟩ hag
  have sm := g.small
  refine mIf_intro (fun c => ?_) (fun c => ?_)
  · have hkl : k < l.length := by simp at c; omega
    refine idxL (hs.ext (xB.trans h3.base)) (by simp) (by simpa using hkl) fun a50 x hx hc => ?_
    rw [Int.toNat_natCast] at hx
    obtain ⟨hat, hpk⟩ := hl x (List.mem_of_getElem? hx)
    refine ⟨(x.1, x.2.1, x.2.2.1, x.2.2.2.1), hc, S_row h3 fun a H4 h4 x4 => st_row (vs := [.int .i64 x.1, .int .i64 x.2.1, .int .i64 x.2.2.1, Sl.v x.2.2.2.1]) (h4.get 3 rfl) rfl rfl fun H5 r5 k5 => ?_⟩
    have h5 : Stars H5 [baseO B, diskO A D, rdO m D, rowO a [.int .i64 x.1, .int .i64 x.2.1, .int .i64 x.2.2.1, Sl.v x.2.2.2.1]] :=
      h4.turn (O' := rowO a [.int .i64 x.1, .int .i64 x.2.1, .int .i64 x.2.2.1, Sl.v x.2.2.2.1]) 3 rfl r5 (fun c hc => .inl hc) fun c o hc hn => k5 c o hc hn
    refine S_ld h5 3 rfl rfl (mIf_intro (fun _ => hawake H5 (xB.trans h5.base)) (fun c2 => S_ld h5 3 rfl rfl ?_))
    refine mJoin_cut (fun st Hx => ∃ B' A' m' D' R, st = (some A'.a, some m'.a) ∧ Ext B B' ∧ Good N (k + 1) D' ∧ Rows' B' m' D' ∧ Stars Hx (baseO B' :: diskO A' D' :: rdO m' D' :: R)) ?_ ?_
    · rintro st Hx ⟨B', A', m', D', R, rfl, x', g', r', h'⟩
      have d' : DiskAt Hx A' D' := h'.get 1 rfl
      have e' : RdAt Hx m' D' := h'.get 2 rfl
      refine mJoin_intro (mIf_neg rfl (nil_some (ld_row (x := m'.h) e'.row rfl (held_spec d' ⟨e'.row.cell rfl, ?_⟩))))
      have e2 : ((D'.held.length : Int) != (m'.h.len : Int)) = false := by rw [e'.held.lenI, r'.hl]; simp
      rw [e2]
      refine mJoin_intro (mIf_neg rfl (nil_some (ld_row (x := D'.acts) e'.row rfl (acts_spec d' ⟨e'.row.cell rfl, ?_⟩))))
      have e3 : (D'.acts != D'.acts) = false := by simp
      rw [e3]
      refine mJoin_intro (mIf_neg rfl (nil_some (ld_row (x := D'.off) e'.row rfl (off_spec d' ⟨e'.row.cell rfl, ?_⟩))))
      have e4 : (D'.off != D'.off) = false := by simp
      rw [e4]
      refine mIf_neg rfl ?_
      rw [wrap_succ (by omega)]
      exact hag hkl _ _ ⟨B', A', m', D', rfl, xB.trans x', g', r', h'.pick [0, 1, 2] (by decide) rfl (by simp)⟩
    · intro j67 hj
      have ne : ∀ e : Int, (e != e) = false := fun e => by simp
      refine mIf_intro (fun _ => ?_) (fun _ => mIf_intro (fun _ => ?_) (fun _ => mIf_intro (fun _ => ?_) (fun _ => mIf_intro (fun _ => ?_) (fun _ => mIf_intro (fun _ => ?_) (fun _ => mIf_intro (fun _ => ?_) (fun _ => mIf_intro (fun _ => ?_) (fun _ => ?_)))))))
      · -- Write
        refine S_ld h5 3 rfl rfl (S_ld h5 3 rfl rfl (S_ld h5 3 rfl rfl (S_ld h5 3 rfl rfl (S_fill h5 fun q H6 h6 x6 => S_same h6 3 rfl rfl (S_same h6 3 rfl rfl (S_same h6 3 rfl rfl ?_))))))
        refine S_write (i := 1) (j := 4) h6 rfl sm rfl (by decide) (by rw [(fillB x.2.2.1).2]; decide) fun A' H7 ea h7 => S_same h7 3 rfl rfl (S_same h7 3 rfl rfl (S_fill h7 fun q2 H8 h8 x8 => S_same h8 3 rfl rfl ?_))
        refine R_write (i := 1) (at' := x.2.1) (bs := (fillB x.2.2.1).1) h8 rfl r sm (h8.list (enc := Value.int .u8) 5 rfl) (fun c h1 h2 => h8.dj 5 2 _ _ rfl rfl (by decide) c h1 h2) (by rw [(fillB x.2.2.1).2]; decide) fun B' m' H9 em xB' r' h9 => ?_
        refine mIf_neg (ne _) (hj _ _ ⟨B', A', m', _, _, by rw [ea, em], xB', g.wr (by omega), r', h9⟩)
      · -- Flush
        refine S_flush (i := 1) h5 rfl sm fun A' H6 ea h6 => R_flush (i := 2) h6 rfl r sm fun m' H7 em r' h7 => mIf_neg (ne _) (hj _ _ ⟨B, A', m', _, _, by rw [ea, em], .refl B, g.fl (by omega), r', h7⟩)
      · -- Read
        refine S_ld h5 3 rfl rfl (S_read (h5.get 1 rfl) sm fun q H6 k6 => ?_)
        have h6 := h5.over k6
        refine S_ld h6 3 rfl rfl (R_read (h6.get 2 rfl) h6.base r sm g.now fun q2 H7 k7 => ?_)
        have h7 := h6.over k7
        have hlen : (D.rd x.2.1).1.length < 2 ^ 62 := by
          unfold Dk.rd
          split
          · split
            · rw [(D.now.getD _ zeroB).2]; decide
            · simp
          · simp
        refine mJoin_intro (mIf_neg (ne _) (bytes_spec (h7.list (enc := Value.int .u8) 4 rfl) (h7.list (enc := Value.int .u8) 5 rfl) hlen ?_))
        rw [decide_eq_true rfl]
        exact mIf_neg rfl (hj _ _ ⟨B, A, m, D, _, rfl, .refl B, g.up, r, h7⟩)
      · -- Fuse
        refine S_ld h5 3 rfl rfl (S_fuse (i := 1) h5 rfl fun H6 h6 => S_ld h6 3 rfl rfl (R_fuse (i := 2) h6 rfl fun H7 h7 => hj _ _ ⟨B, A, m, _, _, rfl, .refl B, g.setFuse hat, ⟨r.sl, r.s, r.hl, r.h⟩, h7⟩))
      · -- Fault
        refine S_ld h5 3 rfl rfl (S_ld h5 3 rfl rfl (S_ld h5 3 rfl rfl (S_ld h5 3 rfl rfl (S_fault (i := 1) h5 rfl sm fun H6 h6 => S_same h6 3 rfl rfl (S_same h6 3 rfl rfl (R_fault (i := 2) h6 rfl r sm fun H7 h7 => mIf_neg (ne _) (hj _ _ ⟨B, A, m, _, _, rfl, .refl B, g.fa, ?_, h7⟩)))))))
        unfold Dk.fa
        split <;> exact ⟨r.sl, r.s, r.hl, r.h⟩
      · -- Crash
        have hn0 : 0 < D.now.length := by rw [g.len]; omega
        refine S_ld h5 3 rfl rfl (S_crash (m := x.2.2.2.2) (h5.get 1 rfl) sm hn0 (hpk.ext (xB.trans h5.base)) fun A2 H6 k6 => ?_)
        have h6 := h5.over k6
        refine S_ld h6 3 rfl rfl (R_crash (i := 1) h6 rfl r sm hn0 (hpk.ext (xB.trans h6.base)) fun B' m2 H7 xB' r' h7 => ?_)
        refine same_spec (h7.get 1 rfl) (h7.get 2 rfl) h7.base (r.ext xB') g fun H8 x8 => mIf_neg rfl (hj _ _ ⟨B', A2, m2, _, [], rfl, xB', g.crash _, r', (h7.ext x8).pick [0, 4, 5] (by decide) rfl (by simp)⟩)
      · -- Write of so many bytes
        have q0 := Int.emod_nonneg x.2.2.1 (show (130 : Int) ≠ 0 by decide)
        have q1 := Int.emod_lt_of_pos x.2.2.1 (show (0 : Int) < 130 by decide)
        refine S_ld h5 3 rfl rfl (round_spec (by decide) (by decide) (S_mk (enc := Value.int .u8) (x := 0) h5 q0 (by omega) fun q H6 h6 x6 => S_ld h6 3 rfl rfl (S_ld h6 3 rfl rfl ?_)))
        have hln : (List.replicate (x.2.2.1 % 130).toNat (0 : Int)).length < 2 ^ 40 := by simp; omega
        refine S_write (i := 1) (j := 4) h6 rfl sm rfl (by decide) (by omega) fun A' H7 ea h7 => S_same h7 3 rfl rfl ?_
        refine R_write (i := 1) (at' := x.2.1) (bs := List.replicate (x.2.2.1 % 130).toNat (0 : Int)) h7 rfl r sm (h7.list (enc := Value.int .u8) 4 rfl) (fun c h1 h2 => h7.dj 4 2 _ _ rfl rfl (by decide) c h1 h2) hln fun B' m' H9 em xB' r' h9 => ?_
        refine mIf_neg (ne _) (hj _ _ ⟨B', A', m', _, _, by rw [ea, em], xB', g.wr (by omega), r', h9⟩)
      · exact hj _ _ ⟨B, A, m, D, _, rfl, .refl B, g.up, r, h5⟩
  · refine same_spec (h3.get 1 rfl) (h3.get 2 rfl) h3.base r g fun H4 x4 => mJoin_intro (mIf_pos rfl (hawake H4 ((xB.trans h3.base).trans x4)))
end Go.Proofs.Ytdoldlinaghfbaa

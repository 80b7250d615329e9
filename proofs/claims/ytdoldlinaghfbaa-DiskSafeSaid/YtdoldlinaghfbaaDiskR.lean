/- THE LAW DiskApart, on formulas. -/
import Derived.Test.YtdoldlinaghfbaaDiskQ
set_option linter.unusedVariables false
set_option linter.unusedSimpArgs false
namespace Go.Proofs.Ytdoldlinaghfbaa
open Go Go.Kx

theorem Good.mono {n k k' : Nat} {D : Dk} (h : Good n k D) (hk : k ≤ k') : Good n k' D := ⟨h.small, h.now, h.len, Nat.le_trans h.few hk, by have := h.acts; omega⟩
theorem wr_live {D : Dk} {i : Nat} {b : Blk} (ho : D.off = false) (hf : D.fuse = -1) (hi : i < D.now.length) : (D.wr i b.1).2 = 0 ∧ (D.wr i b.1).1.off = false ∧ (D.wr i b.1).1.fuse = -1 := by
  obtain ⟨a1, a2⟩ := write_live (D := D) (i := i) (b := b) ho hf
  have hc : (0 ≤ (i : Int) ∧ (i : Int) < D.now.length) ∧ b.1.length = 64 := ⟨⟨by omega, by omega⟩, b.2⟩
  have e : D.wr i b.1 = (D.write i b, 0) := by rw [Dk.wr, dif_pos hc, if_pos a1]; rfl
  rw [e, a2]; exact ⟨rfl, rfl, rfl⟩
theorem apart_law {H : PH} {s t : Sl} {l mm : List Int} (hs : Ints H s l) (ht : Ints H t mm) : keelsonlaw3_DiskApart s t H (DoneD H) := by
  have hlen := hs.lenI
  have hawake : ∀ H2, Ext H H2 → keelsonlaw3_awake H2 (DoneD H) := fun H2 x2 => awake_spec fun H3 x3 => ⟨rfl, x2.trans x3⟩
  refine mJoin_intro (mIf_intro (fun _ => mIf_pos rfl (hawake H (.refl H))) (fun c0 => mIf_intro (fun _ => hawake H (.refl H)) (fun c1 => ?_)))
  have hl30 : l.length ≤ 30 := by simp at c0; omega
  refine S_new (fun h => absurd ⟨by decide, by decide⟩ h) fun _ A H1 h1 => R_new h1 (fun h => absurd ⟨by decide, by decide⟩ h) fun _ B m H2 x2 r2 h2 => ?_
  have g0 : Good 5 0 (fresh 5) := Good.fresh (by decide)
  refine mJoin_intro (mIf_pos rfl (mJoin_intro (mIf_pos rfl (mIf_neg rfl ?_))))
  refine mLoop_count l.length (fun k st Hk => ∃ B A' m' D, A'.a = A.a ∧ m'.a = m.a ∧ st = (k : Int) ∧ Ext H B ∧ Good 5 k D ∧ D.off = false ∧ D.fuse = -1 ∧ Rows' B m' D ∧ Stars Hk [baseO B, diskO A' D, rdO m' D]) ⟨B, A, m, _, rfl, rfl, rfl, x2, g0, rfl, rfl, r2, h2⟩ ?_
  rintro k st H3 again hk ⟨B, A, m, D, ea, em, rfl, xB, g, ho, hf, r, h3⟩ hag
  rw [← ea, ← em]
  refine mIf_intro (fun c => ?_) (fun c => ?_)
  · have hkl : k < l.length := by simp at c; omega
    refine idx_ld (hs.ext (xB.trans h3.base)) (by simp) (by simpa using hkl) fun x hx => round_spec (by decide) (by decide) ?_
    have q0 := Int.emod_nonneg x (show (5 : Int) ≠ 0 by decide)
    have q1 := Int.emod_lt_of_pos x (show (0 : Int) < 5 by decide)
    obtain ⟨i, hi⟩ := Int.eq_ofNat_of_zero_le q0
    rw [hi]
    obtain ⟨w1, w2, w3⟩ := wr_live (i := i) (b := fillB k) ho hf (by rw [g.len]; omega)
    refine S_fill h3 fun q H4 h4 x4 => S_write (i := 1) (j := 3) h4 rfl g.small rfl (by decide) (by rw [(fillB k).2]; decide) fun A' H5 ea' h5 => ?_
    rw [w1]
    refine mIf_neg rfl (S_fill h5 fun q2 H6 h6 x6 => ?_)
    refine R_write (i := 1) (at' := i) (bs := (fillB k).1) h6 rfl r g.small (h6.list (enc := Value.int .u8) 4 rfl) (fun c h1 h2 => h6.dj 4 2 _ _ rfl rfl (by decide) c h1 h2) (by rw [(fillB k).2]; decide) fun B' m' H7 em' xB' r' h7 => ?_
    rw [wrap_succ (by omega)]
    exact hag hkl _ _ ⟨B', A', m', _, ea'.trans ea, em'.trans em, rfl, xB.trans xB', g.wr (by omega), w2, w3, r', h7.pick [0, 1, 2] (by decide) rfl (by simp)⟩
  have hn0 : 0 < D.now.length := by rw [g.len]; decide
  refine S_crash (m := mm) (h3.get 1 rfl) g.small hn0 (ht.ext (xB.trans h3.base)) fun A2 H4 k4 => ?_
  have h4 := h3.over k4
  refine R_crash (i := 1) h4 rfl r g.small hn0 (ht.ext (xB.trans h4.base)) fun B2 m2 H5 xB2 r2' h5 => mIf_neg rfl ?_
  have gc := g.crash mm
  have hl31 : k ≤ 30 := by omega
  have h5' : Stars H5 [baseO B2, diskO A D, rdO m D, diskO A2 (D.crash mm), rdO m2 (D.crash mm)] := h5
  refine mLoop_count 5 (fun j st Hk => ∃ B' A' m' D', A'.a = A.a ∧ m'.a = m.a ∧ st = (j : Int) ∧ Ext B2 B' ∧ Good 5 (30 + j) D' ∧ Rows' B' m' D' ∧ Stars Hk [baseO B', diskO A' D', rdO m' D', diskO A2 (D.crash mm), rdO m2 (D.crash mm)])
    ⟨B2, A, m, D, rfl, rfl, rfl, .refl B2, g.mono (by omega), r.ext xB2, h5'⟩ ?_
  rintro j st H6 again6 hj ⟨B3, A3, m3, D3, ea3, em3, rfl, xB3, g3, r3, h6⟩ hag6
  rw [← ea3, ← em3]
  refine mIf_intro (fun c2 => ?_) (fun c2 => ?_)
  · have hj5 : j < 5 := by simp at c2; omega
    refine S_fill h6 fun q H7 h7 x7 => S_write (i := 1) (j := 5) h7 rfl g3.small rfl (by decide) (by rw [(fillB 77).2]; decide) fun A' H8 ea' h8 => S_fill h8 fun q2 H9 h9 x9 => ?_
    refine R_write (i := 1) (at' := j) (bs := (fillB 77).1) h9 rfl r3 g3.small (h9.list (enc := Value.int .u8) 6 rfl) (fun c h1 h2 => h9.dj 6 2 _ _ rfl rfl (by decide) c h1 h2) (by rw [(fillB 77).2]; decide) fun B' m' H10 em' xB' r' h10 => ?_
    rw [wrap_succ (by omega)]
    exact hag6 hj5 _ _ ⟨B', A', m', _, ea'.trans ea3, em'.trans em3, rfl, xB3.trans xB', (g3.wr (by omega)).mono (by omega), r', h10.pick [0, 1, 2, 3, 4] (by decide) rfl (by simp)⟩
  · refine S_flush (i := 1) h6 rfl g3.small fun A' H7 ea' h7 => R_flush (i := 2) h7 rfl r3 g3.small fun m' H8 em' r' h8 => ?_
    have g4 := g3.fl (by omega)
    refine same_spec (h8.get 3 rfl) (h8.get 4 rfl) h8.base (r2'.ext xB3) gc fun H9 x9 => mIf_neg rfl ?_
    have h9 := h8.ext x9
    refine S_fill h9 fun q H10 h10 x10 => S_write (i := 3) (j := 5) h10 rfl gc.small rfl (by decide) (by rw [(fillB 9).2]; decide) fun A4 H11 ea4 h11 => ?_
    rw [← ea4]
    have gw := gc.wr (at_ := 1) (bs := (fillB 9).1) (by omega)
    refine S_flush (i := 3) h11 rfl gw.small fun A5 H12 ea5 h12 => ?_
    rw [← ea', ← em']
    refine same_spec (h12.get 1 rfl) (h12.get 2 rfl) h12.base r' g4 fun H13 x13 => mJoin_intro (mIf_pos rfl (hawake H13 (((xB.trans xB2).trans xB3).trans (h12.base.trans x13))))
end Go.Proofs.Ytdoldlinaghfbaa

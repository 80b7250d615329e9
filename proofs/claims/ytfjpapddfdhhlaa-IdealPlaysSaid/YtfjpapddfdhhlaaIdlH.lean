/- ideal: Fold; THE LAW IdealParts, on formulas. -/
import Derived.Test.YtfjpapddfdhhlaaIdlG
set_option linter.unusedVariables false
set_option linter.unusedSimpArgs false
namespace Go.Proofs.Ytfjpapddfdhhlaa
open Go Go.Kx
abbrev Op5 := Int × Int × Int × Int × Sl
def enc5 (x : Op5) : List Value := [.int .i64 x.1, .int .i64 x.2.1, .int .i64 x.2.2.1, .int .i64 x.2.2.2.1, Sl.v x.2.2.2.2]
theorem len5 (x : Op5) : (enc5 x).length = 5 := rfl
theorem cv5 (x : Op5) : (enc5 x).all cellV = true := rfl
abbrev mkOp (t : Int × Int × Int × Int) (s : Sl) : Op5 := (t.1, t.2.1, t.2.2.1, t.2.2.2, s)
/-- The Marks among the first k. -/
def epTo (l : List Int) : Nat → Int
  | 0 => 0
  | k + 1 => if l.getD k 0 % 5 = 0 then epTo l k + 1 else epTo l k
def stTo (n : Nat) (l : List Int) : Nat → Ids
  | 0 => newS n
  | k + 1 => doS n (stTo n l k) (opT n (l.getD k 0) (epTo l k)).1 (opT n (l.getD k 0) (epTo l k)).2.1 (opT n (l.getD k 0) (epTo l k)).2.2.1 (opT n (l.getD k 0) (epTo l k)).2.2.2 (opD (l.getD k 0) k)
theorem ep_bd (l : List Int) : ∀ k : Nat, 0 ≤ epTo l k ∧ epTo l k ≤ k
  | 0 => ⟨Int.le_refl _, Int.le_refl _⟩
  | k + 1 => by
    have := ep_bd l k
    rw [epTo]; push_cast
    split <;> omega
theorem st_ep {n : Nat} {l : List Int} : ∀ k : Nat, (stTo n l k).ep = epTo l k
  | 0 => rfl
  | k + 1 => by
    have ih := st_ep (n := n) (l := l) k
    rw [stTo, epTo]
    unfold opT doS
    by_cases h0 : l.getD k 0 % 5 = 0
    · rw [if_pos h0, if_pos h0, if_neg (by show ¬ (3 : Int) = 1; decide), if_neg (by show ¬ (3 : Int) = 2; decide), if_pos rfl]
    · rw [if_neg h0, if_neg h0]
      by_cases h1 : l.getD k 0 % 5 = 1
      · rw [if_pos h1, if_neg (by show ¬ (2 : Int) = 1; decide), if_pos rfl]; exact ih
      · rw [if_neg h1, if_pos rfl]; exact ih
theorem st_may {n : Nat} {l : List Int} (hn : 1 ≤ n) (k : Nat) : mayS n (stTo n l k).ep (opT n (l.getD k 0) (epTo l k)).1 (opT n (l.getD k 0) (epTo l k)).2.1 (opT n (l.getD k 0) (epTo l k)).2.2.1 (opT n (l.getD k 0) (epTo l k)).2.2.2 (opD (l.getD k 0) k).length = true := by
  rw [st_ep]; exact op_may hn
theorem st_ok {n : Nat} {l : List Int} (hn : 1 ≤ n ∧ n ≤ 64) : ∀ k : Nat, IdOk n (stTo n l k) ∧ Sm k (stTo n l k)
  | 0 => ⟨newS_ok hn, newS_sm n⟩
  | k + 1 => by
    obtain ⟨h1, h2⟩ := st_ok (l := l) hn k
    have hm := st_may (l := l) hn.1 k
    refine ⟨doS_ok h1 hm, ?_⟩
    have := doS_sm h2 hm
    rw [show ((k + 1 : Nat) : Int) = k + 1 by push_cast; rfl]
    exact this
/-- Where it stops. -/
def Stop (l : List Int) (m : Int) (k : Nat) : Prop := k ≤ l.length ∧ (k = l.length ∨ m ≤ epTo l k) ∧ ∀ j, j < k → epTo l j < m
theorem Stop.uniq {l : List Int} {m : Int} {i j : Nat} (h : Stop l m i) (k : Stop l m j) : i = j := by
  obtain ⟨h1, h2, h3⟩ := h
  obtain ⟨k1, k2, k3⟩ := k
  rcases Nat.lt_trichotomy i j with c | c | c
  · have := k3 i c; omega
  · exact c
  · have := h3 j c; omega
def OpsOk (B : PH) (n : Nat) (l : List Int) (ops : List Op5) (m : Nat) : Prop := ops.length = m ∧ ∀ j, j < m → ∃ s, ops[j]? = some (mkOp (opT n (l.getD j 0) (epTo l j)) s) ∧ Bytes B s (opD (l.getD j 0) j)
theorem OpsOk.ext {B B' : PH} {n : Nat} {l : List Int} {ops : List Op5} {m : Nat} (h : OpsOk B n l ops m) (x : Ext B B') : OpsOk B' n l ops m := ⟨h.1, fun j hj => let ⟨s, h1, h2⟩ := h.2 j hj; ⟨s, h1, h2.ext x⟩⟩
theorem ldO {H : PH} {x : Op5} {b : Addr} {K : Op5 → Prop} (hc : cellsAt H b 5 = some (enc5 x)) (hK : K x) : mLdR (fun (x : (Int × Int × Int × Int × Sl)) => [.int .i64 x.1, .int .i64 x.2.1, .int .i64 x.2.2.1, .int .i64 x.2.2.2.1, Sl.v x.2.2.2.2]) H b 5 K := ⟨x, hc, hK⟩
section
variable {H B : PH} {R : List Ob} {a : Addr} {S : Ids} {n : Nat} {l : List Int}
theorem fold_spec {m : Int} {p : Sl} {ops : List Op5} {Q : Sl → PH → Prop} (h : Stars H [baseO B]) (hn : 1 ≤ n ∧ n ≤ 64) (hl : l.length ≤ 60) (hp : ListN enc5 5 B p ops) (ho : OpsOk B n l ops l.length)
    (hQ : ∀ k B' H' q lq, Stop l m k → Ext B B' → ListAt Sl.v B' q lq → Fo B' lq (stTo n l k).base → Stars H' [baseO B'] → Q q H') : ideal_Fold n m p H Q := by
  refine S_row h fun a1 H1 h1 x1 => new_spec (R := [rowO a1 [Sl.v Sl.nil]]) h1 hn fun a B2 H2 x2 h2 => ?_
  refine mJoin_cut (fun _ Hk => ∃ B' k, Ext B B' ∧ Stop l m k ∧ IdS Hk B' a (stTo n l k) [rowO a1 [Sl.v Sl.nil]]) ?_ ?_
  · rintro _ H3 ⟨B3, k, x3, hst, sb, so, lb, lo, fb, fo, h3⟩
    obtain ⟨ok, _⟩ := st_ok (l := l) hn k
    have ob := ok.b
    refine F_row h3 fun c0 B4 H4 x4 r4 h4 => ?_
    have h5 : Stars H4 (baseO B4 :: (idO a sb so lb lo (stTo n l k) ++ [rowO a1 [Sl.v Sl.nil], vecO Sl.v Sl.nil []])) := h4.nilv.pick [0, 1, 2, 3, 4, 5] (by decide) rfl (by simp [idO])
    refine ideal_Ideal_All_c1_s _ _ _ _ _ (allc_spec (B := B4) (R := [rowO a1 [Sl.v Sl.nil], vecO Sl.v Sl.nil []]) r4 ok
      (fun j _ B' R' => ∃ q lq, R' = [rowO a1 [Sl.v q], vecO Sl.v q lq] ∧ Fo B' lq ((stTo n l k).base.take j))
      ?_ ⟨Sl.nil, [], rfl, rfl, fun i s x h => by simp at h⟩ ⟨sb, so, lb, lo, fb.ext x4, fo.ext x4, h5⟩ ?_ ?_)
    · rintro j _ B1 B2 R1 x ⟨q, lq, e, f⟩
      exact ⟨q, lq, e, f.ext x⟩
    · rintro j _ B5 R5 H5 K y hkn x5 ⟨q, lq, rfl, fq⟩ hy ⟨sb, so, lb, lo, fb, fo, h5⟩ hnext _
      have eq := fq.len
      rw [List.length_take] at eq
      refine ⟨_, _, rfl, S_ld1 (x := q) h5 4 rfl (S_new1 (enc := Sl.v) (x := y) h5 fun q1 H6 h6 x6 => S_app (enc := Sl.v) (l := lq) (ys := [y]) h6 5 rfl (h6.list 6 rfl) cvSl rfl (by simp; omega) fun q2 H7 h7 => S_st1 (v := Sl.v q2) h7 4 rfl rfl fun H8 h8 => ?_)⟩
      obtain ⟨g1, g2⟩ := rd_get ok hkn
      refine hnext () B5 [rowO a1 [Sl.v q2], vecO Sl.v q2 (lq ++ [y])] H8 x5 ⟨q2, lq ++ [y], rfl, ?_⟩ ⟨sb, so, lb, lo, fb, fo, h8.pick [0, 1, 2, 3, 4, 5] (by decide) rfl (by simp [idO])⟩
      rw [List.take_add_one, g1]
      exact fq.app (x := some _) ⟨g2, hy⟩
    · rintro _ B5 R5 H5 x5 ⟨q, lq, rfl, fq⟩ ⟨sb, so, lb, lo, fb, fo, h5⟩
      rw [List.take_of_length_le (by have := hn.2; omega)] at fq
      refine S_ld1 (x := q) h5 4 rfl (S_st1 (v := Sl.v q) h5 4 rfl rfl fun H6 h6 => S_ld1 (x := q) h6 4 rfl ?_)
      have h8 : Stars H6 ([baseO B5] ++ [vecO Sl.v q lq]) := h6.pick [0, 5] (by decide) rfl (by simp [idO])
      exact F_vec (L := []) (H' := H6) h8 fun B6 x6 hq h9 => hQ k B6 H6 q lq hst (x3.trans (x4.trans (x5.trans x6))) hq (fq.ext x6) h9
  intro j7 hj
  refine mLoop_count l.length (fun k st Hk => st = (k : Int) ∧ (∀ j, j < k → epTo l j < m) ∧ ∃ B', Ext B B' ∧ IdS Hk B' a (stTo n l k) [rowO a1 [Sl.v Sl.nil]]) ⟨rfl, fun j h => absurd h (by omega), B2, x2, h2⟩ ?_
  clear h2
  rintro k st H3 again hk ⟨rfl, hlt, B3, x3, h3⟩ hag
  obtain ⟨ok, sm⟩ := st_ok (l := l) hn k
  obtain ⟨hol, hops⟩ := ho
  refine mIf_intro (fun c => ?_) (fun c => ?_)
  · have hkl : k < l.length := by have := hp.lenI; have := of_decide_eq_true c; omega
    obtain ⟨s, hs1, hs2⟩ := hops k hkl
    refine idxL ((hp.ext x3).ext h3.ext) (by omega) (by omega) fun b x hx hc => ldO hc ?_
    rw [Int.toNat_natCast, hs1] at hx; cases hx
    obtain ⟨sb, so, lb, lo, fb, fo, h3⟩ := h3
    refine S_row h3 fun ar H4 h4 x4 => S_stLast (L := idO a sb so lb lo (stTo n l k) ++ [rowO a1 [Sl.v Sl.nil]]) h4 rfl rfl fun H5 h5 => ?_
    obtain ⟨B5, x5, r5, h6⟩ := Stars.freeze (L := idO a sb so lb lo (stTo n l k) ++ [rowO a1 [Sl.v Sl.nil]]) (O := rowO ar (opRow (opT n (l.getD k 0) (epTo l k)) s)) h5
    have h6' : IdS H5 B5 a (stTo n l k) [rowO a1 [Sl.v Sl.nil]] := IdS.up fb fo x5 h6
    refine epoch_spec h6' (mIf_intro (fun c1 => hj _ _ ⟨B5, k, x3.trans x5, ⟨by omega, .inr ?_, hlt⟩, h6'⟩) (fun c1 => ?_))
    · have := of_decide_eq_true c1
      rwa [st_ep] at this
    · have c1' := of_decide_eq_false c1
      rw [st_ep] at c1'
      refine ldO (x := mkOp (opT n (l.getD k 0) (epTo l k)) s) ((show RowAt B5 ar (enc5 (mkOp (opT n (l.getD k 0) (epTo l k)) s)) from r5).ext h6'.ext |>.all rfl) ?_
      refine do_spec (o := mkOp (opT n (l.getD k 0) (epTo l k)) s) h6' ok sm (by omega) (hs2.ext (x3.trans x5)) fun B7 H7 x7 h7 => ?_
      have hm := st_may (l := l) hn.1 k
      simp only at h7
      rw [if_pos hm] at h7
      rw [wrap_succ (by omega)]
      exact hag hkl _ _ ⟨rfl, fun j hj => by
        by_cases e : j = k
        · subst e; omega
        · exact hlt j (by omega), B7, x3.trans (x5.trans x7), h7⟩
  · have hkl : k = l.length := by have := hp.lenI; have := of_decide_eq_false c; omega
    exact hj _ _ ⟨B3, k, x3, ⟨hk, .inl hkl, hlt⟩, h3⟩
end
theorem parts_law {H : PH} {p0 p2 : Int} {s1 : Sl} {l1 : List Int} (h1 : Ints H s1 l1) : keelsonlaw24_IdealParts p0 s1 p2 H (DoneD H) := by
  have hawake : ∀ H2, Ext H H2 → keelsonlaw24_awake H2 (DoneD H) := fun H2 x2 => awake_spec fun H3 x3 => ⟨rfl, x2.trans x3⟩
  have hl1 := h1.lenI
  refine mJoin_intro (mIf_intro (fun _ => mJoin_intro (mIf_pos rfl (mIf_pos rfl (hawake H (.refl H))))) (fun c0 => ?_))
  refine mJoin_intro (mIf_intro (fun _ => mIf_pos rfl (hawake H (.refl H))) (fun c1 => mIf_intro (fun _ => hawake H (.refl H)) (fun c2 => ?_)))
  have hp1 : 1 ≤ p0 := by simp at c0; omega
  have hp2 : p0 ≤ 64 := by simp at c1; omega
  have hl : l1.length ≤ 60 := by simp at c2; omega
  obtain ⟨n, rfl⟩ := Int.eq_ofNat_of_zero_le (show 0 ≤ p0 by omega)
  have hn : 1 ≤ n ∧ n ≤ 64 := ⟨by omega, by omega⟩
  have hS : Stars H [baseO H, vecNO enc5 5 Sl.nil []] := (Stars.start H).nilN (enc := enc5) (sz := 5)
  refine mLoop_count l1.length (fun k st Hk => st.2.2 = (k : Int) ∧ st.2.1 = epTo l1 k ∧ ∃ B ops, Ext H B ∧ OpsOk B n l1 ops k ∧ Stars Hk [baseO B, vecNO enc5 5 st.1 ops]) ⟨rfl, rfl, H, [], .refl H, ⟨rfl, fun j h => absurd h (by omega)⟩, hS⟩ ?_
  clear hS
  rintro k ⟨q, ep, st⟩ H2 again hk ⟨e, e2, B, ops, xB, ho, h2⟩ hag
  simp only at e e2 h2
  subst e; subst e2
  have eb := ep_bd l1 k
  refine mIf_intro (fun c => ?_) (fun c => ?_)
  · have hkl : k < l1.length := by simp at c; omega
    refine idx_ld (i := (k : Int)) (h1.ext (xB.trans h2.base)) (by omega) (by omega) fun x hx => ?_
    rw [Int.toNat_natCast] at hx
    have ex : l1.getD k 0 = x := by simp [List.getD, hx]
    refine op_spec (L := [vecNO enc5 5 q ops]) h2 hn.1 hn.2 eb.1 (by simp only; omega) fun B3 H3 s x3 hs h3 => ?_
    simp only at *
    refine S_row h3 fun ar H4 h4 x4 => S_stLast (L := [vecNO enc5 5 q ops]) h4 rfl rfl fun H5 h5 => ?_
    obtain ⟨B5, x5, r5, h6⟩ := Stars.freeze (L := [vecNO enc5 5 q ops]) (O := rowO ar (opRow (opT n x (epTo l1 k)) s)) h5
    refine ld_row (x := (opT n x (epTo l1 k)).1) (r5.ext h6.base) rfl ?_
    refine mJoin_cut (fun s Hk => s = epTo l1 (k + 1) ∧ Hk = H5) ?_ ?_
    rotate_left
    · intro j33 hj
      refine mIf_intro (fun c => hj _ _ ⟨?_, rfl⟩) (fun c => hj _ _ ⟨?_, rfl⟩)
      · rw [wrap64_id (x := epTo l1 k + 1) (by omega) (by omega), epTo, ex]
        have c' : (opT n x (epTo l1 k)).1 = 3 := by simpa using c
        unfold opT at c'
        split at c'
        · rename_i h0; rw [if_pos h0]
        · split at c' <;> simp at c'
      · rw [epTo, ex]
        have c' : ¬ (opT n x (epTo l1 k)).1 = 3 := by simpa using c
        unfold opT at c'
        split at c'
        · exact absurd rfl c'
        · rename_i h0; rw [if_neg h0]
    rintro _ H5 ⟨rfl, rfl⟩
    refine ldO (x := mkOp (opT n x (epTo l1 k)) s) ((show RowAt B5 ar (enc5 (mkOp (opT n x (epTo l1 k)) s)) from r5).ext h6.base |>.all rfl) ?_
    refine S_new1N (enc := enc5) (sz := 5) (x := mkOp (opT n x (epTo l1 k)) s) h6 rfl fun q1 H7 h7 x7 => ?_
    have hq1 : VecN enc5 5 H7 q1 [mkOp (opT n x (epTo l1 k)) s] := h7.get (O := vecNO enc5 5 q1 [mkOp (opT n x (epTo l1 k)) s]) 2 rfl
    have hol := ho.1
    refine S_appN len5 (by decide) (l := ops) (ys := [mkOp (opT n x (epTo l1 k)) s]) h7 1 rfl ((hq1.listN len5).cells len5 (by decide)) hq1.len cv5 rfl (by simp; omega) fun q2 H8 h8 => ?_
    rw [wrap_succ (by omega)]
    refine hag hkl _ _ ⟨rfl, rfl, B5, ops ++ [mkOp (opT n x (epTo l1 k)) s], xB.trans (x3.trans x5), ⟨by rw [List.length_append, hol]; rfl, fun j hj => ?_⟩, h8.pick [0, 1] (by decide) rfl (by simp)⟩
    by_cases e : j = k
    · subst e
      exact ⟨s, by rw [List.getElem?_append_right (by omega), hol, Nat.sub_self, ex]; rfl, by rw [ex]; exact hs.ext x5⟩
    · obtain ⟨s', g1, g2⟩ := ho.2 j (by omega)
      exact ⟨s', by rw [List.getElem?_append_left (by omega)]; exact g1, g2.ext (x3.trans x5)⟩
  have hkl : k = l1.length := by simp at c; omega
  subst hkl
  clear hag again c
  rw [wrap64_id (x := epTo l1 l1.length + 2) (by omega) (by omega)]
  refine round_spec (by omega) (by omega) ?_
  generalize p2 % (epTo l1 l1.length + 2) = m
  have hv : VecN enc5 5 H2 q ops := h2.get 1 rfl
  obtain ⟨B3, x3, hq, h3⟩ := Stars.freeze (L := []) (O := vecNO enc5 5 q ops) h2
  have hq : VecN enc5 5 B3 q ops := hq
  have hqN := hq.listN len5
  refine fold_spec h3 hn hl hqN (ho.ext x3) fun kf B4 H4 qf lf hstf x4 hlf ff h4 => ?_
  refine new_spec (R := []) h4 hn fun a B5 H5 x5 h5 => mIf_neg rfl ?_
  have hqN5 := hqN.ext (x4.trans x5)
  have ho5 := ho.ext (x3.trans (x4.trans x5))
  have xB5 := xB.trans (x3.trans (x4.trans x5))
  have hlf5 := hlf.ext x5
  have ff5 := ff.ext x5
  refine mLoop_count l1.length (fun k st Hk => st = (k : Int) ∧ (∀ j, j < k → epTo l1 j < m) ∧ ∃ B', Ext B5 B' ∧ IdS Hk B' a (stTo n l1 k) []) ⟨rfl, fun j h => absurd h (by omega), B5, .refl B5, h5⟩ ?_
  clear h5 h4 h3 h2
  rintro k st H6 again hk ⟨rfl, hlt, B6, x6, h6⟩ hag
  obtain ⟨ok, sm⟩ := st_ok (l := l1) hn k
  have hol := ho5.1
  have hpl := hqN5.lenI
  refine mJoin_cut (fun s Hk => s = decide (k < l1.length ∧ epTo l1 k < m) ∧ Hk = H6) ?_ ?_
  rotate_left
  · intro j57 hj
    refine mIf_intro (fun c => epoch_spec h6 (hj _ _ ⟨?_, rfl⟩)) (fun c => hj _ _ ⟨?_, rfl⟩)
    · have hkl : k < l1.length := by have : (k : Int) < q.len := of_decide_eq_true c; omega
      rw [st_ep]; simp [hkl]
    · have hkl : ¬ k < l1.length := by have : ¬ (k : Int) < q.len := of_decide_eq_false c; omega
      rw [decide_eq_false (fun h => hkl h.1)]
  rintro _ H6 ⟨rfl, rfl⟩
  refine mIf_intro (fun c => ?_) (fun c => ?_)
  · obtain ⟨hkl, hem⟩ := of_decide_eq_true c
    obtain ⟨s, hs1, hs2⟩ := ho5.2 k hkl
    refine idxL ((hqN5.ext x6).ext h6.ext) (by omega) (by omega) fun b x hx hc => ldO hc ?_
    rw [Int.toNat_natCast, hs1] at hx; cases hx
    refine do_spec (o := mkOp (opT n (l1.getD k 0) (epTo l1 k)) s) h6 ok sm (by omega) (hs2.ext x6) fun B7 H7 x7 h7 => ?_
    have hm := st_may (l := l1) hn.1 k
    simp only at h7 ⊢
    rw [if_pos hm] at h7
    rw [hm]
    refine mIf_neg rfl ?_
    rw [wrap_succ (by omega)]
    exact hag hkl _ _ ⟨rfl, fun j hj => by
      by_cases e : j = k
      · subst e; exact hem
      · exact hlt j (by omega), B7, x6.trans x7, h7⟩
  have hstop : Stop l1 m k := ⟨hk, by have := of_decide_eq_false c; omega, hlt⟩
  have ek := hstf.uniq hstop
  subst ek
  have hn64 := ok.le; have ob := ok.b
  refine all_spec h6 ok fun B7 H7 y69 l69 x7 h69 f69 h7 => ?_
  refine mJoin_cut (fun s Hk => s = false ∧ Hk = H7) ?_ ?_
  rotate_left
  · intro j73 hj
    refine mIf_neg rfl (blocks_eq ((hlf5.ext (x6.trans x7)).ext h7.ext) (h69.ext h7.ext) (lx := (stTo n l1 kf).base) ((ff5.ext (x6.trans x7)).ext h7.ext) (f69.ext h7.ext) (by omega) (hj _ _ ⟨rfl, rfl⟩))
  rintro _ H7 ⟨rfl, rfl⟩
  refine mIf_neg rfl (fill_spec h7 fun B8 H8 y78 x8 hy h8 => do_spec (o := (1, 0, 0, 0, y78)) h8 ok sm (by omega) hy fun B9 H9 x9 h9 => ?_)
  simp only at h9
  have hm : mayS n (stTo n l1 kf).ep 1 0 0 0 (fillL 99).length = true := by
    have := hn.1
    simp [mayS, hasS, fillL_len]; omega
  rw [if_pos hm] at h9
  have ok9 := doS_ok (d := fillL 99) ok hm
  have eb9 : (doS n (stTo n l1 kf) 1 0 0 0 (fillL 99)).base = (stTo n l1 kf).base := do_base (.inl rfl)
  refine all_spec h9 ok9 fun B10 H10 y82 l82 x10 h82 f82 h10 => mJoin_intro (mIf_pos rfl ?_)
  rw [eb9] at f82
  refine blocks_eq (h82.ext h10.ext) ((hlf5.ext (x6.trans (x7.trans (x8.trans (x9.trans x10))))).ext h10.ext) (lx := (stTo n l1 kf).base) (f82.ext h10.ext) ((ff5.ext (x6.trans (x7.trans (x8.trans (x9.trans x10))))).ext h10.ext) (by omega) ?_
  exact mJoin_intro (mIf_pos rfl (hawake H10 (xB5.trans (x6.trans (x7.trans (x8.trans (x9.trans (x10.trans h10.ext))))))))
end Go.Proofs.Ytfjpapddfdhhlaa

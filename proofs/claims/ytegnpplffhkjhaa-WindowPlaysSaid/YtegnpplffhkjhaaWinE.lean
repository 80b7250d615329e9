/- THE DOCUMENT's WINDOW: Peek, Cut, Pop, Reset, Numbers; THE LAW WindowPlays, on formulas. -/
import Derived.Test.YtegnpplffhkjhaaWinD
set_option linter.unusedVariables false
set_option linter.unusedSimpArgs false
namespace Go.Proofs.Ytegnpplffhkjhaa
open Go Go.Kx

theorem cells_part {H : PH} {a : Addr} {n off k : Nat} {cs : List Value} (h : cellsAt H a n = some cs) (hs : a.spot = none) (hk : off + k ≤ n) (hk0 : 0 < k) : cellsAt H (a.add off) k = some ((cs.drop off).take k) := by
  unfold cellsAt at h ⊢
  rw [if_neg (by omega)] at h
  rw [if_neg (by omega), add_block]
  split at h
  · rename_i c e f hb
    simp only [hs, add_spot _ _ hs, Option.isSome_none, Bool.false_eq_true, if_false, add_off] at h ⊢
    split at h
    · rename_i hle
      cases h
      rw [if_pos (by omega)]
      congr 1
      rw [List.drop_take, List.take_take, List.drop_drop]
      congr 1
      omega
    · cases h
  · cases h
section
variable {H : PH} {L : List Ob} {i : Nat} {a : Addr} {s : Sl} {W : Win}
theorem S_stRow {b : Addr} {cs vs : List Value} {K : PH → Prop} (h : Stars H L) (j : Nat) (hj : L[j]? = some (rowO b cs)) (hl : vs.length = cs.length) (hv : vs.all cellV = true) (hK : ∀ H', Stars H' (L.set j (rowO b vs)) → K H') : mSt H b vs K :=
  st_row (h.get j hj) hl hv fun H' r k => hK H' (h.turn (O' := rowO b vs) j hj r (fun c hc => .inl hc) fun c o hc hn => k c o hc hn)
abbrev Op5 := Int × Int × Int × Int × Sl
def enc5 (x : Op5) : List Value := [.int .i64 x.1, .int .i64 x.2.1, .int .i64 x.2.2.1, .int .i64 x.2.2.2.1, Sl.v x.2.2.2.2]
theorem rpeek_spec {Q : Op5 → Bool → PH → Prop} (w : RWAt H a s W) (ok : WinOk W) (hQ : ∀ H', Ext H H' → Q (0, W.peekV, 0, 0, Sl.nil) W.peekO H') : keelsonref22_Window_Peek (some a) H Q := by
  refine S_row (Stars.start H) fun a1 H1 h1 x1 => ?_
  have w1 : RWAt H1 a s W := w.agree fun c o _ ho => x1 c o ho
  refine nil_some (ld_row (x := W.next) w1.row rfl (place_spec w1 ok fun j hP => ?_))
  cases hf : W.f W.next with
  | none =>
    have e1 : W.peekV = 0 := by rw [Win.peekV, hf]; rfl
    have e2 : W.peekO = false := by rw [Win.peekO, hf]; rfl
    rw [e1, e2] at hQ
    refine mIf_pos rfl (S_stRow h1 1 rfl rfl rfl fun H2 h2 => ⟨(0, 0, 0, 0, Sl.nil), (h2.get 1 rfl : RowAt H2 a1 _).all rfl, hQ H2 h2.base⟩)
  | some v =>
    have e1 : W.peekV = v := by rw [Win.peekV, hf]; rfl
    have e2 : W.peekO = true := by rw [Win.peekO, hf]; rfl
    rw [e1, e2] at hQ
    obtain ⟨r, hr, _⟩ := items_head ok hf
    refine mIf_neg rfl (nil_some (ld_row (x := s) w1.row rfl (idxN w1.vec (by decide) (by rw [hr]; simp) fun a2 x el => ?_)))
    have hg := el.get
    rw [hr] at hg
    cases hg
    have hc := el.cells lenR
    have hsp : a2.spot = none := by obtain ⟨⟨b, sp, e, spare, _, _, _, rfl⟩, _⟩ := el; rfl
    refine ⟨(0, v, 0, 0, Sl.nil), cells_part hc hsp (by decide) (by decide), S_stRow h1 1 rfl rfl rfl fun H2 h2 => ⟨(0, v, 0, 0, Sl.nil), (h2.get 1 rfl : RowAt H2 a1 _).all rfl, hQ H2 h2.base⟩⟩
theorem rcut_spec {Q : Bool → PH → Prop} (h : Stars H L) (hi : L[i]? = some (rwO a s W)) (ok : WinOk W) (hQ : ∀ s' H', Stars H' (L.set i (rwO a s' W.cut)) → Q W.peekO H') : keelsonref22_Window_Cut (some a) H Q := by
  have w : RWAt H a s W := h.get i hi
  have hil := itemsTo_len W W.size
  have hle := ok.le
  have hl16 : (items W).length ≤ 16 := by rw [items]; omega
  refine nil_some (ld_row (x := W.next) w.row rfl (place_spec w ok fun j hP => mJoin_intro ?_))
  cases hf : W.f W.next with
  | none =>
    have e2 : W.peekO = false := by rw [Win.peekO, hf]; rfl
    rw [e2] at hQ
    refine mIf_neg rfl (hQ s H ?_)
    rw [cut_none e2, set_same hi]; exact h
  | some v =>
    have e2 : W.peekO = true := by rw [Win.peekO, hf]; rfl
    rw [e2] at hQ
    obtain ⟨r, hr, hc⟩ := items_head ok hf
    refine mIf_pos rfl fun r13 H1 hn1 => ?_
    have x1 := Ext.newS hn1
    have v1 : VecN encR 6 H1 r13 [] := vecN_new0 hn1
    have O1 := Own0.ofNew hn1
    have w1 : RWAt H1 a s W := w.agree fun c o _ ho => x1 c o ho
    refine nil_some (ld_row (x := s) w1.row rfl ?_)
    rw [w1.vec.lenI]
    refine cutN lenR w1.vec (by decide) (by rw [hr]; simp; omega) (by omega) fun r2 hl2 hc2 => ?_
    have et : ((items W).drop (1 : Int).toNat).take (((items W).length : Int).toNat - (1 : Int).toNat) = r := by rw [hr]; simp
    rw [et] at hc2
    refine appN lenR (by decide) v1 (hc2 H1 fun c o _ ho => ho) (by rw [hl2, hr]; simp) cvR rfl (by rw [hr] at hl16; simp at hl16; simp; omega) fun r3 H2 v2 k2 n2 => ?_
    have x2 : Ext H H2 := x1.keep k2 O1
    have O2 : Own0 H r3 := fun c hc => (n2 c hc).elim (fun hh => O1 c hh) fun hh => x1.none hh
    have w2 : RWAt H2 a s W := w.agree fun c o _ ho => x2 c o ho
    refine nil_some (st_cell w2.row (by simp) rfl fun H3 r4 k4 => hQ r3 H3 ?_)
    have ea : ¬ r3.has a.block := fun hh => by
      have := O2 _ hh
      obtain ⟨e, he⟩ := w.row.2.2; rw [he] at this; cases this
    refine RW_turn h hi ⟨r4, ?_, ea⟩ (fun c hc => .inr (O2 c hc)) fun c o hc h1' _ => k4 c o (x2 c o hc) h1'
    rw [hc]
    rw [List.nil_append] at v2
    exact v2.agree fun c o hc ho => k4 c o ho fun e => ea (e ▸ hc)
theorem rpop_spec {Q : Op5 → Bool → PH → Prop} (h : Stars H L) (hi : L[i]? = some (rwO a s W)) (ok : WinOk W) (ok2 : WinOk W.pop) (hQ : ∀ s' H', Stars H' (L.set i (rwO a s' W.pop)) → Q (0, W.peekV, 0, 0, Sl.nil) W.peekO H') : keelsonref22_Window_Pop (some a) H Q := by
  have hlt := (List.getElem?_eq_some_iff.1 hi).1
  have hn1 := ok.n1; have hn2 := ok.n2
  refine S_row h fun a1 H1 h1 x1 => ?_
  have hi1 : (L ++ [rowO a1 (enc5 (0, 0, 0, 0, Sl.nil))])[i]? = some (rwO a s W) := by rw [List.getElem?_append_left hlt]; exact hi
  refine rpeek_spec (h1.get i hi1) ok fun H2 x2 => S_row (h1.ext x2) fun a7 H3 h3 x3 => ?_
  refine S_stRow (vs := enc5 (0, W.peekV, 0, 0, Sl.nil)) h3 (L ++ [rowO a1 (enc5 (0, 0, 0, 0, Sl.nil))]).length List.getElem?_concat_length rfl rfl fun H4 h4 => ?_
  have e4 : (L ++ [rowO a1 (enc5 (0, 0, 0, 0, Sl.nil))] ++ [rowO a7 (enc5 (0, 0, 0, 0, Sl.nil))]).set (L ++ [rowO a1 (enc5 (0, 0, 0, 0, Sl.nil))]).length (rowO a7 (enc5 (0, W.peekV, 0, 0, Sl.nil))) = L ++ [rowO a1 (enc5 (0, 0, 0, 0, Sl.nil))] ++ [rowO a7 (enc5 (0, W.peekV, 0, 0, Sl.nil))] := by
    rw [List.set_append_right _ _ (Nat.le_refl _), Nat.sub_self]; rfl
  replace h4 : Stars H4 (L ++ [rowO a1 (enc5 (0, 0, 0, 0, Sl.nil))] ++ [rowO a7 (enc5 (0, W.peekV, 0, 0, Sl.nil))]) := by rw [← e4]; exact h4
  have hi4 : ∀ X Y : Ob, (L ++ [X] ++ [Y])[i]? = L[i]? := fun X Y => by rw [List.getElem?_append_left (by simp; omega), List.getElem?_append_left hlt]
  refine mJoin_cut (fun _ Hx => ∃ s', Stars Hx (L.set i (rwO a s' W.pop) ++ [rowO a1 (enc5 (0, 0, 0, 0, Sl.nil))] ++ [rowO a7 (enc5 (0, W.peekV, 0, 0, Sl.nil))])) ?_ ?_
  · rintro _ Hx ⟨s', hx⟩
    have r7 : RowAt Hx a7 (enc5 (0, W.peekV, 0, 0, Sl.nil)) := hx.get (L.set i (rwO a s' W.pop) ++ [rowO a1 (enc5 (0, 0, 0, 0, Sl.nil))]).length List.getElem?_concat_length
    have g1 : (L.set i (rwO a s' W.pop) ++ [rowO a1 (enc5 (0, 0, 0, 0, Sl.nil))] ++ [rowO a7 (enc5 (0, W.peekV, 0, 0, Sl.nil))])[L.length]? = some (rowO a1 (enc5 (0, 0, 0, 0, Sl.nil))) := by
      rw [List.getElem?_append_left (by simp)]
      have : L.length = (L.set i (rwO a s' W.pop)).length := by simp
      rw [this]; exact List.getElem?_concat_length
    refine ⟨(0, W.peekV, 0, 0, Sl.nil), r7.all rfl, S_stRow (vs := enc5 (0, W.peekV, 0, 0, Sl.nil)) hx L.length g1 rfl rfl fun H6 h6 => ?_⟩
    have e6 : (L.set i (rwO a s' W.pop) ++ [rowO a1 (enc5 (0, 0, 0, 0, Sl.nil))] ++ [rowO a7 (enc5 (0, W.peekV, 0, 0, Sl.nil))]).set L.length (rowO a1 (enc5 (0, W.peekV, 0, 0, Sl.nil))) = L.set i (rwO a s' W.pop) ++ [rowO a1 (enc5 (0, W.peekV, 0, 0, Sl.nil))] ++ [rowO a7 (enc5 (0, W.peekV, 0, 0, Sl.nil))] := by
      rw [List.set_append_left _ _ (by simp), List.set_append_right _ _ (by simp)]; simp
    rw [e6] at h6
    have g2 : (L.set i (rwO a s' W.pop) ++ [rowO a1 (enc5 (0, W.peekV, 0, 0, Sl.nil))] ++ [rowO a7 (enc5 (0, W.peekV, 0, 0, Sl.nil))])[L.length]? = some (rowO a1 (enc5 (0, W.peekV, 0, 0, Sl.nil))) := by
      rw [List.getElem?_append_left (by simp)]
      have : L.length = (L.set i (rwO a s' W.pop)).length := by simp
      rw [this]; exact List.getElem?_concat_length
    exact ⟨(0, W.peekV, 0, 0, Sl.nil), (h6.get L.length g2 : RowAt H6 a1 _).all rfl, hQ s' H6 h6.init.init⟩
  · intro j13 hj
    refine mIf_intro (fun c => ?_) (fun c => hj _ _ ⟨s, ?_⟩)
    · refine rcut_spec h4 (i := i) (by rw [hi4]; exact hi) ok fun s5 H5 h5 => ?_
      have e5 : (L ++ [rowO a1 (enc5 (0, 0, 0, 0, Sl.nil))] ++ [rowO a7 (enc5 (0, W.peekV, 0, 0, Sl.nil))]).set i (rwO a s5 W.cut) = L.set i (rwO a s5 W.cut) ++ [rowO a1 (enc5 (0, 0, 0, 0, Sl.nil))] ++ [rowO a7 (enc5 (0, W.peekV, 0, 0, Sl.nil))] := by
        rw [List.set_append_left _ _ (by simp; omega), List.set_append_left _ _ hlt]
      rw [e5] at h5
      have hi5 : (L.set i (rwO a s5 W.cut) ++ [rowO a1 (enc5 (0, 0, 0, 0, Sl.nil))] ++ [rowO a7 (enc5 (0, W.peekV, 0, 0, Sl.nil))])[i]? = some (rwO a s5 W.cut) := by
        rw [List.getElem?_append_left (by simp; omega), List.getElem?_append_left (by simpa using hlt), List.getElem?_set_self hlt]
      have w5 : RWAt H5 a s5 W.cut := h5.get i hi5
      refine nil_some (ld_row (x := W.next) w5.row rfl (nil_some (st_cell w5.row (by simp) rfl fun H6 r6 k6 => hj _ _ ⟨s5, ?_⟩)))
      rw [wrap64_id (by omega) (by omega)] at r6
      have ep : W.pop = { W.cut with next := W.next + 1 } := by rw [Win.pop, if_pos c]
      have ei : items W.pop = items W.cut := items_pop ok c ok2
      have := RW_turn h5 hi5 (H' := H6) (s' := s5) (W' := W.pop) ⟨by rw [ep]; exact r6, by rw [ei]; exact w5.vec.agree fun c o hc ho => k6 c o ho fun e => w5.ap (e ▸ hc), w5.ap⟩ (fun c hc => .inl hc) fun c o hc h1' _ => k6 c o hc h1'
      rw [List.set_append_left _ _ (by simp; omega), List.set_append_left _ _ (by simpa using hlt), List.set_set] at this
      exact this
    · have ep : W.pop = W := by rw [Win.pop, if_neg (by rw [c]; simp)]
      rw [ep, set_same hi]; exact h4
theorem rreset_spec {n : Int} {Q : PH → Prop} (h : Stars H L) (hi : L[i]? = some (rwO a s W)) (hQ : ∀ s' H', Stars H' (L.set i (rwO a s' (if 1 ≤ n ∧ n ≤ 2147483647 then newWin W.size n else W))) → Q H') : keelsonref22_Window_Reset (some a) n H Q := by
  have w : RWAt H a s W := h.get i hi
  refine mJoin_intro (mIf_intro (fun c => ?_) (fun c => ?_))
  · refine mIf_intro (fun c2 => ?_) (fun c2 => ?_)
    · have hg : 1 ≤ n ∧ n ≤ 2147483647 := ⟨by simpa using c, by simpa using c2⟩
      rw [if_pos hg] at hQ
      refine nil_some (st_cell w.row (by simp) rfl fun H1 r1 k1 => nil_some (st_cell r1 (by simp) rfl fun H2 r2 k2 => hQ Sl.nil H2 ?_))
      refine RW_turn h hi ⟨r2, ?_, nilHas⟩ (fun c hc => absurd hc nilHas) fun c o hc h1' _ => k2 c o (k1 c o hc h1') h1'
      rw [items_none (fun _ _ _ => rfl)]; exact .inl ⟨rfl, rfl⟩
    · have hg : ¬ (1 ≤ n ∧ n ≤ 2147483647) := fun hg => by simp at c2; omega
      rw [if_neg hg] at hQ
      exact hQ s H (by rw [set_same hi]; exact h)
  · have hg : ¬ (1 ≤ n ∧ n ≤ 2147483647) := fun hg => by simp at c; omega
    rw [if_neg hg] at hQ
    exact mIf_neg rfl (hQ s H (by rw [set_same hi]; exact h))
theorem rnumbers_spec {Q : Sl → PH → Prop} (w : RWAt H a s W) (ok : WinOk W) (hQ : ∀ r H', Stars H' [baseO H, vecO (Value.int .i64) r ((items W).map (·.1))] → Q r H') : keelsonref22_Window_Numbers (some a) H Q := by
  have hil := itemsTo_len W W.size
  have hle := ok.le
  have hl16 : (items W).length ≤ 16 := by rw [items]; omega
  refine mLoop_count (items W).length (fun k st Hk => ∃ r, st = (r, (k : Int)) ∧ Stars Hk [baseO H, vecO (Value.int .i64) r (((items W).take k).map (·.1))]) ⟨Sl.nil, rfl, (Stars.start H).nilv⟩ ?_
  rintro k st H1 again hk ⟨r, rfl, h1⟩ hag
  have w1 : RWAt H1 a s W := w.agree fun c o _ ho => h1.base c o ho
  refine nil_some (ld_row (x := s) w1.row rfl ?_)
  rw [w1.vec.lenI]
  refine mIf_intro (fun c => ?_) (fun c => ?_)
  · have hkl : k < (items W).length := by simpa using c
    refine nil_some (ld_row (x := s) w1.row rfl (idxN w1.vec (by omega) (by omega) fun a1 x el => ⟨x.1, el.cell lenR rfl, S_new1 (enc := Value.int .i64) h1 fun r2 H2 h2 x2 => ?_⟩))
    have hg := el.get
    rw [Int.toNat_natCast] at hg
    refine S_app (enc := Value.int .i64) (ys := [x.1]) h2 1 rfl (h2.list 2 rfl) ints_enc rfl (by simp; omega) fun r3 H3 h3 => ?_
    rw [wrap_succ (by omega)]
    refine hag hkl _ _ ⟨r3, rfl, ?_⟩
    rw [List.take_add_one, hg, List.map_append]
    exact h3.pick [0, 1] (by decide) rfl (by simp)
  · have : k = (items W).length := by simp at c; omega
    subst this
    rw [List.take_length] at h1
    exact hQ r H1 h1
theorem within_spec {n low high : Int} {Q : Bool → PH → Prop} (hQ : Q (decide (low ≤ n) && decide (n ≤ high)) H) : keelsonref1_Within n low high H Q := by
  refine mJoin_intro (mIf_intro (fun c => ?_) (fun c => ?_))
  · rw [c, Bool.true_and] at hQ; exact hQ
  · rw [c, Bool.false_and] at hQ; exact hQ
theorem rnew_spec {size next : Int} {Q : Option Addr → PH → Prop} (hbad : ¬ (1 ≤ size ∧ size ≤ 16 ∧ 1 ≤ next ∧ next ≤ 2147483647) → Q none H) (hgood : 1 ≤ size ∧ size ≤ 16 ∧ 1 ≤ next ∧ next ≤ 2147483647 → ∀ a s H', Stars H' [baseO H, rwO a s (newWin size.toNat next)] → Q (some a) H') : keelsonref22_NewWindow size next H Q := by
  refine within_spec (mJoin_intro (mIf_intro (fun c => mIf_pos rfl (hbad ?_)) (fun c => within_spec (mIf_intro (fun c2 => hbad ?_) (fun c2 => ?_)))))
  · simp at c; omega
  · simp at c2; omega
  · have hg : 1 ≤ size ∧ size ≤ 16 ∧ 1 ≤ next ∧ next ≤ 2147483647 := by simp at c c2; omega
    refine new_row fun a H1 x1 r1 f1 => hgood hg a Sl.nil H1 ((Stars.start H).new (O' := rwO a Sl.nil (newWin size.toNat next)) x1 ⟨?_, ?_, nilHas⟩ fun c hc => ?_)
    · have : (((newWin size.toNat next).size : Nat) : Int) = size := by show ((size.toNat : Nat) : Int) = size; omega
      rw [this]; exact r1
    · rw [items_none (fun _ _ _ => rfl)]; exact .inl ⟨rfl, rfl⟩
    · rcases hc with rfl | hc
      · exact f1
      · exact absurd hc nilHas
end

theorem WinOk.put {W : Win} (ok : WinOk W) (n v : Int) : WinOk (W.put n v) := by
  unfold Win.put
  split
  · rename_i e0
    refine ⟨ok.pos, ok.le, ok.n1, ok.n2, fun m hm => ?_⟩
    show (if m = n then some v else W.f m) = none
    have hm' : m < W.next ∨ W.next + W.size ≤ m := hm
    have : m ≠ n := fun e => by
      subst e
      unfold Win.putE at e0
      rcases hm' with h | h
      · rw [if_pos h] at e0; cases e0
      · split at e0
        · cases e0
        · first | (rw [if_pos h] at e0; cases e0) | cases e0
    rw [if_neg this]; exact ok.out m hm
  · exact ok
theorem WinOk.pop {W : Win} (ok : WinOk W) (hb : W.next + 1 < 2 ^ 40) : WinOk W.pop := by
  unfold Win.pop
  split
  · have c := ok.cut
    have h1 := ok.n1
    refine ⟨c.pos, c.le, by show 1 ≤ W.next + 1; omega, hb, fun n hn => ?_⟩
    have hn' : n < W.next + 1 ∨ W.next + 1 + W.size ≤ n := hn
    show (if n = W.next then none else W.f n) = none
    by_cases e : n = W.next
    · rw [if_pos e]
    · rw [if_neg e]; exact ok.out n (by omega)
  · exact ok
abbrev Act3 := Int × Int × Int
def enc3 (x : Act3) : List Value := [.int .i64 x.1, .int .i64 x.2.1, .int .i64 x.2.2]
theorem plays_law {H : PH} {p0 p1 : Int} {sl : Sl} {l : List Act3} (hs : ListN enc3 3 H sl l) (hl : ∀ x, x ∈ l → x.2.1 < 2 ^ 63) : keelsonlaw23_WindowPlays p0 p1 sl H (DoneD H) := by
  have hlen := hs.lenI
  have hawake : ∀ H2, Ext H H2 → keelsonlaw23_awake H2 (DoneD H) := fun H2 x2 => awake_spec fun H3 x3 => ⟨rfl, x2.trans x3⟩
  refine mIf_intro (fun _ => hawake H (.refl H)) (fun c0 => ?_)
  have hl60 : l.length ≤ 60 := by simp at c0; omega
  by_cases hg : 1 ≤ p0 ∧ p0 ≤ 16 ∧ 1 ≤ p1 ∧ p1 ≤ 2147483647
  rotate_left
  · refine new_spec (fun _ => rnew_spec (fun _ => ?_) fun h => absurd h hg) fun h => absurd h hg
    exact mIf_pos rfl (mJoin_intro (mIf_pos rfl (hawake H (.refl H))))
  obtain ⟨N, rfl⟩ := Int.eq_ofNat_of_zero_le (show 0 ≤ p0 by omega)
  refine new_spec (fun h => absurd hg h) fun _ a s H1 h1 => rnew_spec (fun h => absurd hg h) fun _ b t H2 k2 => mIf_neg rfl (mIf_neg rfl ?_)
  have h2 := h1.over k2
  rw [Int.toNat_natCast] at h2
  refine mLoop_count l.length (fun k st Hk => ∃ s t W, st = (k : Int) ∧ WinOk W ∧ W.next ≤ 2147483647 + k ∧ Stars Hk [baseO H, winO a s W, rwO b t W]) ⟨s, t, newWin N p1, rfl, newOk (by omega) (by omega) hg.2.2.1 hg.2.2.2, by show p1 ≤ _; omega, h2⟩ ?_
  rintro k st H3 again hk ⟨s, t, W, rfl, ok, hnb, h3⟩ hag
  refine mIf_intro (fun c => ?_) (fun c => hawake H3 h3.base)
  have hkl : k < l.length := by simp at c; omega
  refine idxL (hs.ext h3.base) (by simp) (by simpa using hkl) fun a50 x hx hc => ?_
  rw [Int.toNat_natCast] at hx
  have hx63 := hl x (List.mem_of_getElem? hx)
  refine ⟨x, hc, S_row h3 fun e H4 h4 x4 => S_stRow (vs := enc3 x) h4 3 rfl rfl rfl fun H5 h5 => S_ld h5 3 rfl rfl ?_⟩
  refine mJoin_cut (fun _ Hx => ∃ s' t' W', WinOk W' ∧ W'.next ≤ 2147483647 + (k + 1 : Nat) ∧ Stars Hx [baseO H, winO a s' W', rwO b t' W', rowO e (enc3 x)]) ?_ ?_
  · rintro _ Hx ⟨s', t', W', ok', hnb', h'⟩
    have hil := itemsTo_len W' W'.size
    have hle := ok'.le
    have hl16 : (items W').length ≤ 16 := by rw [items]; omega
    refine all_spec (h'.get 1 rfl) fun r1 r2 H6 k6 => ?_
    have h6 := h'.over k6
    rw [List.take_of_length_le (by show (items W').length ≤ 99; omega)] at h6
    have w6 : RWAt H6 b t' W' := h6.get 2 rfl
    refine nil_some (ld_row (x := W'.next) w6.row rfl (next_spec (h6.get 1 rfl) ⟨w6.row.cell rfl, mJoin_intro (mIf_neg (by simp) (nil_some (ld_row (x := t') w6.row rfl (len_spec (h6.get 1 rfl) fun H7 x7 => ?_))))⟩))
    have h7 := h6.ext x7
    have w7 : RWAt H7 b t' W' := h7.get 2 rfl
    refine ⟨w7.row.cell rfl, ?_⟩
    have e1 : (((items W').length : Int) != (t'.len : Int)) = false := by rw [w7.vec.lenI]; simp
    rw [e1]
    refine mJoin_intro (mIf_neg rfl (rnumbers_spec w7 ok' fun r3 H8 k8 => ?_))
    have h8 := h7.over k8
    refine ints_spec (h8.list 4 rfl) (h8.list 6 rfl) (by simp; omega) ?_
    rw [decide_eq_true rfl]
    refine mIf_neg rfl ?_
    rw [wrap_succ (by omega)]
    exact hag hkl _ _ ⟨s', t', W', rfl, ok', hnb', h8.pick [0, 1, 2] (by decide) rfl (by simp)⟩
  · intro j34 hj
    have ne : ∀ e : Int, (e != e) = false := fun e => by simp
    have nb : ∀ e : Bool, (e != e) = false := fun e => by simp
    refine mIf_intro (fun _ => ?_) (fun _ => mIf_intro (fun _ => ?_) (fun _ => mIf_intro (fun _ => ?_) (fun _ => mIf_intro (fun _ => ?_) (fun _ => mIf_intro (fun _ => ?_) (fun _ => ?_)))))
    · refine S_ld h5 3 rfl rfl (S_ld h5 3 rfl rfl (S_ld h5 3 rfl rfl (S_ld h5 3 rfl rfl (put_spec h5 (i := 1) rfl fun H6 h6 => ⟨(h6.get 3 rfl : RowAt H6 e _).cell rfl, (h6.get 3 rfl : RowAt H6 e _).cell rfl, rput_spec h6 (i := 2) rfl ok (ok.put _ _) hx63 fun t' H7 h7 => mIf_neg (ne _) (hj _ _ ⟨s, t', _, ok.put _ _, ?_, h7⟩)⟩))))
      rw [Win.put]
      split
      · show W.next ≤ _; push_cast; omega
      · push_cast; omega
    · refine peek_spec (h5.get 1 rfl) (rpeek_spec (h5.get 2 rfl) ok fun H6 x6 => S_row (h5.ext x6) fun e2 H7 h7 x7 => S_stRow (vs := enc5 (0, W.peekV, 0, 0, Sl.nil)) h7 4 rfl rfl rfl fun H8 h8 => mJoin_intro (mIf_neg (nb _) (S_ld h8 4 rfl rfl (mIf_neg (ne _) (hj _ _ ⟨s, t, W, ok, by push_cast; omega, h8.pick [0, 1, 2, 3] (by decide) rfl (by simp)⟩)))))
    · have okp := ok.pop (by omega)
      refine pop_spec h5 (i := 1) rfl (by omega) fun H6 h6 => rpop_spec h6 (i := 2) rfl ok okp fun t' H7 h7 => S_row h7 fun e2 H8 h8 x8 => S_stRow (vs := enc5 (0, W.peekV, 0, 0, Sl.nil)) h8 4 rfl rfl rfl fun H9 h9 => mJoin_intro (mIf_neg (nb _) (S_ld h9 4 rfl rfl (mIf_neg (ne _) (hj _ _ ⟨s, t', _, okp, ?_, h9.pick [0, 1, 2, 3] (by decide) rfl (by simp)⟩))))
      rw [Win.pop]
      split
      · show W.next + 1 ≤ _; push_cast; omega
      · push_cast; omega
    · exact cut_spec h5 (i := 1) rfl fun H6 h6 => rcut_spec h6 (i := 2) rfl ok fun t' H7 h7 => mIf_neg (nb _) (hj _ _ ⟨s, t', _, ok.cut, by show W.next ≤ _; push_cast; omega, h7⟩)
    · refine S_ld h5 3 rfl rfl (reset_spec h5 (i := 1) rfl fun H6 h6 => S_ld h6 3 rfl rfl (rreset_spec h6 (i := 2) rfl fun t' H7 h7 => hj _ _ ⟨s, t', _, ?_, ?_, h7⟩))
      · split
        · rename_i hg2; exact newOk ok.pos ok.le hg2.1 hg2.2
        · exact ok
      · split
        · rename_i hg2; show x.2.1 ≤ _; push_cast; omega
        · push_cast; omega
    · exact hj _ _ ⟨s, t, W, ok, by push_cast; omega, h5⟩
end Go.Proofs.Ytegnpplffhkjhaa

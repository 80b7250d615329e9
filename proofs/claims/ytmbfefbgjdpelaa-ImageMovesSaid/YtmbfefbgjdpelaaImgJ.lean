/- image: THE LAW ImageGoes, on formulas. -/
import Derived.Test.YtmbfefbgjdpelaaImgI
set_option linter.unusedVariables false
set_option linter.unusedSimpArgs false
namespace Go.Proofs.Ytmbfefbgjdpelaa
open Go Go.Kx PInt
theorem count_set1 (x v y : Int) : ∀ (l : List Int) (i : Nat), l[i]? = some y → (l.set i x).count v + (if y = v then 1 else 0) = l.count v + (if x = v then 1 else 0)
  | [], i, h => by simp at h
  | z :: l, 0, h => by
    simp at h; subst h
    rw [List.set_cons_zero, List.count_cons, List.count_cons]
    simp only [beq_iff_eq]; omega
  | z :: l, i + 1, h => by
    have := count_set1 x v y l i (by simpa using h)
    rw [List.set_cons_succ, List.count_cons, List.count_cons]; omega
theorem count_setL {l : List Int} {b x v : Int} (h0 : 0 ≤ b) (h1 : b < l.length) : (setL ne l b x).count v + (if getG l b = v then 1 else 0) = l.count v + (if x = v then 1 else 0) := by
  have e := getG_some (l := l) (i := b.toNat) (by omega)
  rw [Int.toNat_of_nonneg h0] at e
  rw [setL_in h0 h1, count_set1 x v _ l _ e]
theorem count_pos_getG {l : List Int} {b : Int} (h0 : 0 ≤ b) (h1 : b < l.length) : 1 ≤ l.count (getG l b) := by
  have e := getG_some (l := l) (i := b.toNat) (by omega)
  rw [Int.toNat_of_nonneg h0] at e
  exact List.count_pos_iff.2 (List.mem_of_getElem? e)
/-- What is put and what goes: nothing is lost. -/
theorem put_count {l : List Int} {b x v : Int} (h0 : 0 ≤ b) (h1 : b < l.length) (hv : 1 ≤ v) (hx : getG l b = x → x ≤ 0) : (setL ne l b x).count v + (gl (gone (getG l b) x)).count v = l.count v + (if x = v then 1 else 0) := by
  have e := count_setL (x := x) (v := v) h0 h1
  by_cases c : getG l b = x
  · have := hx c
    have e2 : gone (getG l b) x = 0 := by simp [gone, c]
    rw [e2, gl, if_neg (by decide), List.count_nil]
    rw [c, if_neg (show ¬ x = v by omega)] at e; rw [if_neg (show ¬ x = v by omega)]; omega
  · by_cases c2 : getG l b < 0
    · have e2 : gone (getG l b) x = 0 := by simp [gone, c, c2]
      rw [e2, gl, if_neg (by decide), List.count_nil]
      rw [if_neg (show ¬ getG l b = v by omega)] at e; omega
    · have e2 : gone (getG l b) x = getG l b := by simp [gone, c, c2]
      rw [e2, gl]
      by_cases c3 : 0 < getG l b
      · rw [if_pos c3, List.count_singleton]
        simp only [beq_iff_eq]; omega
      · rw [if_neg c3, List.count_nil]
        rw [if_neg (show ¬ getG l b = v by omega)] at e; omega
theorem gone_nn (w x : Int) : 0 ≤ gone w x := by unfold gone; split; omega; split <;> omega
theorem gl_pos {z g : Int} (h : g ∈ gl z) : 1 ≤ g := by
  unfold gl at h
  split at h
  · simp at h; omega
  · simp at h
def cnt (M : Im) (v : Int) : Nat := M.l0.count v + M.l1.count v
section
variable {M : Im} {n : Nat} {v : Int}
theorem put_cnt {over : Bool} {b x : Int} (ok : ImOk n M) (h0 : 0 ≤ b) (h1 : b < n) (hv : 1 ≤ v) (hx : getG (M.tab over) b = x → x ≤ 0) : cnt (M.put over b x) v + (gl (gone (getG (M.tab over) b) x)).count v = cnt M v + (if x = v then 1 else 0) := by
  have m0 := ok.n0; have m1 := ok.n1
  cases over with
  | true =>
    have := put_count (l := M.l1) (b := b) (x := x) h0 (by omega) hv hx
    show M.l0.count v + (setL ne M.l1 b x).count v + (gl (gone (getG M.l1 b) x)).count v = M.l0.count v + M.l1.count v + _
    omega
  | false =>
    have := put_count (l := M.l0) (b := b) (x := x) h0 (by omega) hv hx
    show (setL ne M.l0 b x).count v + M.l1.count v + (gl (gone (getG M.l0 b) x)).count v = M.l0.count v + M.l1.count v + _
    omega
theorem nn_cnt {over : Bool} {b : Int} (ok : ImOk n M) (h0 : 0 ≤ b) (hv : 1 ≤ v) : ∀ i : Nat, b + i ≤ n → cnt (nnTo over b M i).1 v + (nnTo over b M i).2.count v = cnt M v ∧ ∀ g, g ∈ (nnTo over b M i).2 → 1 ≤ g
  | 0, _ => ⟨rfl, fun g h => by simp [nnTo] at h⟩
  | i + 1, h => by
    obtain ⟨e1, e2⟩ := nn_cnt (over := over) ok h0 hv i (by omega)
    have e3 := put_cnt (over := over) (b := b + i) (x := 0) (nn_ok (over := over) (b := b) ok i).1 (by omega) (by omega) hv (fun _ => Int.le_refl _)
    rw [if_neg (by omega)] at e3
    refine ⟨?_, fun g hg => ?_⟩
    · rw [nnTo, List.count_append]; simp only []; omega
    · rw [nnTo, List.mem_append] at hg
      exact hg.elim (e2 g) gl_pos
theorem fg_cnt (ok : ImOk n M) (hv : 1 ≤ v) : ∀ i : Nat, i ≤ n → cnt (fgTo M i).1 v + (fgTo M i).2.count v = cnt M v ∧ ∀ g, g ∈ (fgTo M i).2 → 1 ≤ g
  | 0, _ => ⟨rfl, fun g h => by simp [fgTo] at h⟩
  | i + 1, h => by
    obtain ⟨e1, e2⟩ := fg_cnt ok hv i (by omega)
    have e3 := put_cnt (over := true) (b := i) (x := -1) (fg_ok ok i).1 (by omega) (by omega) hv (fun _ => by decide)
    rw [if_neg (by omega)] at e3
    simp only [Im.tab, if_true] at e3
    refine ⟨?_, fun g hg => ?_⟩
    · rw [fgTo, List.count_append]; simp only []; omega
    · rw [fgTo, List.mem_append] at hg
      exact hg.elim (e2 g) gl_pos
theorem cm_cnt (ok : ImOk n M) (h1 : ∀ v : Int, 1 ≤ v → cnt M v ≤ 1) : ∀ i : Nat, i ≤ n → (∀ v : Int, 1 ≤ v → cnt (cmTo M i).1 v + (cmTo M i).2.count v = cnt M v) ∧ ∀ g, g ∈ (cmTo M i).2 → 1 ≤ g
  | 0, _ => ⟨fun v _ => rfl, fun g h => by simp [cmTo] at h⟩
  | i + 1, h => by
    obtain ⟨e1, e2⟩ := cm_cnt ok h1 i (by omega)
    have ok1 := (cm_ok ok i).1
    have m0 := ok1.n0; have m1 := ok1.n1
    rw [cmTo, cmStep]
    by_cases c : getG (cmTo M i).1.l1 i = -1
    · rw [if_pos c]; exact ⟨e1, e2⟩
    · rw [if_neg c]
      have hx : getG ((cmTo M i).1.tab false) i = getG (cmTo M i).1.l1 i → getG (cmTo M i).1.l1 i ≤ 0 := fun e => by
        by_cases c2 : getG (cmTo M i).1.l1 i ≤ 0
        · exact c2
        have a1 := e1 (getG (cmTo M i).1.l1 i) (by omega)
        have a2 := h1 (getG (cmTo M i).1.l1 i) (by omega)
        have a3 := count_pos_getG (l := (cmTo M i).1.l1) (b := i) (by omega) (by omega)
        have a4 := count_pos_getG (l := (cmTo M i).1.l0) (b := i) (by omega) (by omega)
        have e' : getG (cmTo M i).1.l0 i = getG (cmTo M i).1.l1 i := e
        rw [e'] at a4
        unfold cnt at a1 a2
        omega
      refine ⟨fun v hv => ?_, fun g hg => ?_⟩
      · have e3 := put_cnt (over := false) (b := i) (x := getG (cmTo M i).1.l1 i) ok1 (by omega) (by omega) hv hx
        have e4 := count_setL (l := (cmTo M i).1.l1) (b := i) (x := -1) (v := v) (by omega) (by omega)
        rw [if_neg (show ¬ (-1 : Int) = v by omega)] at e4
        have e5 := e1 v hv
        rw [List.count_append]
        have d1 : cnt (((cmTo M i).1.put false i (getG (cmTo M i).1.l1 i)).put true i (-1)) v = (setL ne (cmTo M i).1.l0 i (getG (cmTo M i).1.l1 i)).count v + (setL ne (cmTo M i).1.l1 i (-1)).count v := rfl
        have d2 : cnt ((cmTo M i).1.put false i (getG (cmTo M i).1.l1 i)) v = (setL ne (cmTo M i).1.l0 i (getG (cmTo M i).1.l1 i)).count v + (cmTo M i).1.l1.count v := rfl
        have d3 : (gl (gone (getG ((cmTo M i).1.tab false) i) (getG (cmTo M i).1.l1 i))) = gl (gone (getG (cmTo M i).1.l0 i) (getG (cmTo M i).1.l1 i)) := rfl
        rw [d3] at e3
        simp only []
        omega
      · rw [List.mem_append] at hg
        exact hg.elim (e2 g) gl_pos
theorem rf_cnt {l0 l1 : List Int} (h0 : l0.length = n) (h1 : l1.length = n) (hv : 1 ≤ v) : ∀ i : Nat, i ≤ n → ((rfTo l0 l1 i).map Prod.snd).count v = (l0.take i).count v + (l1.take i).count v ∧ ∀ g, g ∈ rfTo l0 l1 i → 1 ≤ g.2
  | 0, _ => ⟨by simp [rfTo], fun g h => by simp [rfTo] at h⟩
  | i + 1, h => by
    obtain ⟨e1, e2⟩ := rf_cnt h0 h1 hv i (by omega)
    have rpc : ∀ x : Int, ((rp i x).map Prod.snd).count v = [x].count v := fun x => by
      unfold rp; split
      · rfl
      · rw [List.map_nil, List.count_nil, List.count_singleton, if_neg (by simp; omega)]
    have rpm : ∀ (x : Int) (g : Int × Int), g ∈ rp i x → 1 ≤ g.2 := fun x g hg => by
      unfold rp at hg; split at hg
      · simp at hg; subst hg; show 1 ≤ x; omega
      · simp at hg
    have t0 := getG_some (l := l0) (i := i) (by omega)
    have t1 := getG_some (l := l1) (i := i) (by omega)
    refine ⟨?_, fun g hg => ?_⟩
    · rw [rfTo, List.map_append, List.map_append, List.count_append, List.count_append, e1, rpc, rpc, List.take_add_one, t0, List.take_add_one, t1, List.count_append, List.count_append]
      simp only [Option.toList]; omega
    · rw [rfTo, List.mem_append, List.mem_append] at hg
      exact hg.elim (fun hg => hg.elim (e2 g) (rpm _ g)) (rpm _ g)
end
/-- The law's table of what came and has not gone. -/
structure Cm (c : List Bool) (L bd : Nat) (f : Int → Nat) : Prop where
  len : c.length = L + 2
  val : ∀ v : Nat, 1 ≤ v → (c.getD v false).toNat = f v
  z : c.getD 0 false = false
  bd : ∀ v : Nat, c.getD v false = true → v ≤ bd
theorem getD_set {c : List Bool} {i : Nat} {b : Bool} (hi : i < c.length) (j : Nat) : (c.set i b).getD j false = if j = i then b else c.getD j false := by
  by_cases e : j = i
  · subst e; rw [if_pos rfl]; simp [List.getD, List.getElem?_set_self hi]
  · rw [if_neg e]; simp [List.getD, List.getElem?_set_ne (Ne.symm e)]
theorem Cm.mark {c : List Bool} {L i : Nat} {f g : Int → Nat} (h : Cm c L i f) (hi : i < L) (hg : ∀ v : Int, 1 ≤ v → g v = f v + if v = ((i + 1 : Nat) : Int) then 1 else 0) : Cm (c.set (i + 1) true) L (i + 1) g := by
  have hl := h.len
  refine ⟨by rw [List.length_set]; exact hl, fun v hv => ?_, by rw [getD_set (by omega), if_neg (by omega)]; exact h.z, fun v hv => ?_⟩
  · rw [getD_set (by omega), hg v (by omega)]
    by_cases e : v = i + 1
    · subst e
      have h1 : c.getD (i + 1) false = false := by
        cases hc : c.getD (i + 1) false with
        | false => rfl
        | true => have := h.bd _ hc; omega
      have h2 := h.val (i + 1) hv
      rw [h1] at h2
      rw [if_pos rfl, if_pos rfl, ← h2]; rfl
    · rw [if_neg e, if_neg (by omega)]; exact h.val v hv
  · rw [getD_set (by omega)] at hv
    by_cases e : v = i + 1
    · omega
    · rw [if_neg e] at hv; have := h.bd v hv; omega
theorem Cm.wide {c : List Bool} {L i j : Nat} {f g : Int → Nat} (h : Cm c L i f) (hij : i ≤ j) (hg : ∀ v : Int, 1 ≤ v → g v = f v) : Cm c L j g :=
  ⟨h.len, fun v hv => by rw [hg v (by omega)]; exact h.val v hv, h.z, fun v hv => Nat.le_trans (h.bd v hv) hij⟩
theorem Cm.take {c : List Bool} {L bd : Nat} {f f' : Int → Nat} {g : Int} (h : Cm c L bd f) (hbd : bd ≤ L) (hg : 1 ≤ g) (hf : f g = f' g + 1) (hn : ∀ v : Int, v ≠ g → f v = f' v) : g ≤ bd ∧ c[g.toNat]? = some true ∧ Cm (c.set g.toNat false) L bd f' := by
  have hl := h.len
  obtain ⟨k, rfl⟩ := Int.eq_ofNat_of_zero_le (show 0 ≤ g by omega)
  have hk : 1 ≤ k := by omega
  have h1 := h.val k hk
  rw [hf] at h1
  have h2 : c.getD k false = true := by
    cases hc : c.getD k false with
    | true => rfl
    | false => rw [hc] at h1; simp at h1
  have h3 := h.bd k h2
  rw [Int.toNat_natCast]
  refine ⟨by omega, ?_, by rw [List.length_set]; exact hl, fun v hv => ?_, by rw [getD_set (by omega), if_neg (by omega)]; exact h.z, fun v hv => ?_⟩
  · have hlt : k < c.length := by omega
    rw [List.getElem?_eq_getElem hlt]
    simp only [List.getD, List.getElem?_eq_getElem hlt, Option.getD_some] at h2
    rw [h2]
  · rw [getD_set (by omega)]
    by_cases e : v = k
    · subst e
      rw [h2] at h1
      rw [if_pos rfl]
      simp at h1 ⊢; omega
    · rw [if_neg e, h.val v hv, hn v (by omega)]
  · rw [getD_set (by omega)] at hv
    by_cases e : v = k
    · rw [if_pos e] at hv; cases hv
    · rw [if_neg e] at hv; exact h.bd v hv
theorem fst2 {H : PH} {s : Sl} {l : List (Int × Int)} {i : Int} {x : Int × Int} {K : Int → Prop} (h : ListN enc2 2 H s l) (h0 : 0 ≤ i) (h1 : i < l.length) (hx : l[i.toNat]? = some x) (hK : K x.1) : mIdx s 2 i fun a => mLd (.int .i64) H (a.add 0) K :=
  idxL h h0 h1 fun a y hy hc => by rw [hx] at hy; cases hy; exact ⟨x.1, cells_at hc rfl, hK⟩
theorem snd2 {H : PH} {s : Sl} {l : List (Int × Int)} {i : Int} {x : Int × Int} {K : Int → Prop} (h : ListN enc2 2 H s l) (h0 : 0 ≤ i) (h1 : i < l.length) (hx : l[i.toNat]? = some x) (hK : K x.2) : mIdx s 2 i fun a => mLd (.int .i64) H (a.add 1) K :=
  idxL h h0 h1 fun a y hy hc => by rw [hx] at hy; cases hy; exact ⟨x.2, cells_at hc rfl, hK⟩
theorem count_drop {l : List Int} {j : Nat} {g : Int} (h : l[j]? = some g) (v : Int) : (l.drop j).count v = (l.drop (j + 1)).count v + if g = v then 1 else 0 := by
  have hlt := (List.getElem?_eq_some_iff.1 h).1
  have e := (List.getElem?_eq_some_iff.1 h).2
  rw [List.drop_eq_getElem_cons hlt, e, List.count_cons]
  simp only [beq_iff_eq]
theorem goes_law {H : PH} {p0 : Int} {s1 : Sl} {l1 : List Act3} (h1 : ListN enc3 3 H s1 l1) : keelsonlaw16_ImageGoes p0 s1 H (DoneD H) := by
  have hawake : ∀ H2, Ext H H2 → keelsonlaw16_awake H2 (DoneD H) := fun H2 x2 => awake_spec fun H3 x3 => ⟨rfl, x2.trans x3⟩
  have hl1 := h1.lenI
  refine mJoin_intro (mIf_intro (fun _ => mJoin_intro (mIf_pos rfl (mIf_pos rfl (hawake H (.refl H))))) (fun c0 => ?_))
  refine mJoin_intro (mIf_intro (fun _ => mIf_pos rfl (hawake H (.refl H))) (fun c1 => mIf_intro (fun _ => hawake H (.refl H)) (fun c2 => ?_)))
  have hp1 : 1 ≤ p0 := by simp at c0; omega
  have hp2 : p0 ≤ 64 := by simp at c1; omega
  have hl : l1.length ≤ 80 := by simp at c2; omega
  obtain ⟨n, rfl⟩ := Int.eq_ofNat_of_zero_le (show 0 ≤ p0 by omega)
  refine inew_froz (Stars.start H) ⟨by omega, by omega⟩ fun B a b o s0 t0 s1' t1 H1 xB r h2 => mIf_neg rfl ?_
  rw [hl1, wrap64_id (x := (l1.length : Int) + 2) (by omega) (by omega)]
  refine S_mk (enc := Value.bool) (x := false) h2 (by omega) (by omega) fun q H3 h3 x3 => ?_
  rw [show ((l1.length : Int) + 2).toNat = l1.length + 2 by omega] at h3
  have hx : ∀ {H' L}, Stars H' (baseO B :: L) → Ext H H' := fun h => xB.trans h.base
  have ok0 : ImOk n (im0 n) := im0_ok ⟨by omega, by omega⟩
  have c0' : Cm (List.replicate (l1.length + 2) false) l1.length 0 (cnt (im0 n)) := by
    have gd : ∀ v : Nat, (List.replicate (l1.length + 2) false).getD v false = false := fun v => by
      rw [List.getD, List.getElem?_replicate]; split <;> rfl
    refine ⟨List.length_replicate, fun v hv => ?_, gd 0, fun v hv => ?_⟩
    · rw [gd]
      show 0 = (List.replicate n (0 : Int)).count (v : Int) + (List.replicate n (-1 : Int)).count (v : Int)
      rw [List.count_replicate, List.count_replicate, if_neg (by simp <;> omega), if_neg (by simp <;> omega)]
    · rw [gd] at hv; cases hv
  refine mLoop_count l1.length (fun i st Hk => st = (i : Int) ∧ ∃ (c : List Bool) (M : Im), ImOk n M ∧ Cm c l1.length i (cnt M) ∧ Stars Hk (baseO B :: (imO s0 t0 s1' t1 M ++ [vecO Value.bool q c]))) ⟨rfl, _, im0 n, ok0, c0', h3⟩ ?_
  clear h3 h2 x3
  rintro i st H5 again hi ⟨rfl, cc, M, ok, hcm, h5⟩ hag
  refine mIf_intro (fun c => ?_) (fun cend => ?_)
  rotate_left
  · -- what is left
    have hil : i = l1.length := by simp at cend; omega
    subst hil
    have m0 := ok.n0; have m1 := ok.n1
    have rf1 := fun (v : Int) (hv : 1 ≤ v) => rf_cnt (n := n) m0 m1 hv n (Nat.le_refl _)
    refine refs_spec (r.ext h5.base) (h5.list 1 rfl) (h5.list 3 rfl) m0 m1 (by omega) fun y H6 h6' => ?_
    have h6 := h5.over h6'
    have hlen := rf_len M.l0 M.l1 n
    have gpos : ∀ g, g ∈ rfTo M.l0 M.l1 n → 1 ≤ g.2 := (rf1 1 (Int.le_refl _)).2
    generalize hG : rfTo M.l0 M.l1 n = G at h6 rf1 gpos hlen
    have hcm' : Cm cc l1.length l1.length (fun v => ((G.map Prod.snd).drop 0).count v) := hcm.wide (Nat.le_refl _) fun v hv => by
      rw [List.drop_zero, (rf1 v hv).1, List.take_of_length_le (by omega), List.take_of_length_le (by omega)]; rfl
    refine mLoop_count G.length (fun j st Hk => st = (j : Int) ∧ ∃ c, Cm c l1.length l1.length (fun v => ((G.map Prod.snd).drop j).count v) ∧ Stars Hk (baseO B :: (imO s0 t0 s1' t1 M ++ [vecO Value.bool q c, vecNO enc2 2 y G]))) ⟨rfl, cc, hcm', h6⟩ ?_
    clear h6 hcm' h6' h5 hcm hag again
    rintro j st H7 again hj ⟨rfl, c, hcm, h7⟩ hag
    have hy : VecN enc2 2 H7 y G := h7.get 6 rfl
    have hyN := hy.listN len2
    rw [hyN.lenI]
    refine mIf_intro (fun cj => ?_) (fun cj => ?_)
    · have hjG : j < G.length := by simpa using cj
      obtain ⟨g, hg⟩ : ∃ g, G[(j : Int).toNat]? = some g := ⟨_, List.getElem?_eq_getElem (by simpa using hjG)⟩
      have g1 := gpos g (List.mem_of_getElem? hg)
      have hgm : (G.map Prod.snd)[j]? = some g.2 := by rw [List.getElem?_map]; rw [Int.toNat_natCast] at hg; rw [hg]; rfl
      obtain ⟨t1', t2, t3⟩ := hcm.take (f' := fun v => ((G.map Prod.snd).drop (j + 1)).count v) (Nat.le_refl _) g1 (by rw [count_drop hgm, if_pos rfl]) (fun v hv => by rw [count_drop hgm, if_neg (fun e => hv e.symm)]; rfl)
      have hcl := hcm.len
      refine snd2 hyN (by omega) (by omega) hg (mJoin_intro (mIf_neg (by simp; omega) (snd2 hyN (by omega) (by omega) hg ?_)))
      rw [decide_eq_false (show ¬ (l1.length : Int) < g.2 by omega)]
      refine mJoin_intro (mIf_neg rfl (snd2 hyN (by omega) (by omega) hg (idx_ld (h7.list (enc := Value.bool) 5 rfl) (by omega) (by omega) fun z hz => ?_)))
      rw [t2] at hz; cases hz
      refine mIf_neg rfl (snd2 hyN (by omega) (by omega) hg (S_put (enc := Value.bool) (x := false) h7 5 rfl (by omega) (by omega) rfl fun H8 h8 => ?_))
      rw [wrap_succ (by omega)]
      exact hag hjG _ _ ⟨rfl, _, t3, h8⟩
    · have hjG : j = G.length := by simp at cj; omega
      subst hjG
      have hcl := hcm.len
      have hql := (h7.list (enc := Value.bool) 5 rfl).lenI
      have allf : ∀ v : Nat, c.getD v false = false := fun v => by
        cases v with
        | zero => exact hcm.z
        | succ v =>
          have := hcm.val (v + 1) (by omega)
          rw [List.drop_of_length_le (by simp)] at this
          cases hc : c.getD (v + 1) false with
          | false => rfl
          | true => rw [hc] at this; simp at this
      refine mLoop_count c.length (fun j st Hk => st = (j : Int) ∧ Hk = H7) ⟨rfl, rfl⟩ ?_
      rintro j st H8 again2 hj2 ⟨rfl, rfl⟩ hag2
      rw [hql]
      refine mIf_intro (fun cj => ?_) (fun _ => hawake H8 (hx h7))
      have hjc : j < c.length := by simpa using cj
      refine idx_ld (h7.list (enc := Value.bool) 5 rfl) (by omega) (by omega) fun z hz => ?_
      have hz' := allf j
      rw [Int.toNat_natCast] at hz
      rw [List.getD, hz, Option.getD_some] at hz'
      subst hz'
      rw [wrap_succ (by omega)]
      exact mIf_neg rfl (hag2 hjc _ _ ⟨rfl, rfl⟩)
  have hil : i < l1.length := by simp at c; omega
  obtain ⟨x, hxi⟩ : ∃ x, l1[(i : Int).toNat]? = some x := ⟨_, List.getElem?_eq_getElem (by simpa using hil)⟩
  refine db (h1.ext (hx h5)) (by omega) (by omega) hxi (round_spec (by omega) (by omega) (dn (h1.ext (hx h5)) (by omega) (by omega) hxi ?_))
  have q0 := Int.emod_nonneg x.2.1 (show (n : Int) ≠ 0 by omega)
  have q1 := Int.emod_lt_of_pos x.2.1 (show (0 : Int) < n by omega)
  generalize x.2.1 % (n : Int) = bb at q0 q1 ⊢
  rw [wrap64_id (x := (n : Int) - bb) (by omega) (by omega)]
  refine round_spec (by omega) (by omega) (dk (h1.ext (hx h5)) (by omega) (by omega) hxi ?_)
  have r0 := Int.emod_nonneg x.2.2 (show (n : Int) - bb ≠ 0 by omega)
  have r1 := Int.emod_lt_of_pos x.2.2 (show (0 : Int) < n - bb by omega)
  generalize x.2.2 % ((n : Int) - bb) = nn at r0 r1 ⊢
  rw [wrap64_id (x := 1 + nn) (by omega) (by omega), wrap_succ (k := i) (by omega)]
  obtain ⟨m, hm⟩ := Int.eq_ofNat_of_zero_le (show 0 ≤ 1 + nn by omega)
  rw [hm]
  have hkind : ∀ {H' L} {K : Int → Prop}, Stars H' (baseO B :: L) → K x.1 → mIdx s1 3 i fun a => mLd (.int .i64) H' (a.add 0) K := fun h hK => dk (h1.ext (hx h)) (by omega) (by omega) hxi hK
  have m0 := ok.n0; have m1 := ok.n1
  refine mJoin_cut (fun s Hk => ∃ (M' : Im) (G : List Int), ImOk n M' ∧ (∀ g, g ∈ G → 1 ≤ g) ∧ 0 ≤ s.2 ∧ G.length ≤ 64 ∧ (∀ v : Int, 1 ≤ v → cnt M' v + (G ++ gl s.2).count v = cnt M v + if (x.1 = 1 ∨ x.1 = 5) ∧ v = ((i + 1 : Nat) : Int) then 1 else 0) ∧
    Stars Hk (baseO B :: (imO s0 t0 s1' t1 M' ++ [vecO Value.bool q cc, vecO E s.1 G]))) ?_ ?_
  · rintro ⟨sg, one⟩ H6 ⟨M', G, ok', hG, hone, hG64, hcons, h6⟩
    simp only at hone hcons h6
    refine hkind h6 ?_
    refine mJoin_cut (fun s Hk => s = decide (x.1 = 1 ∨ x.1 = 5) ∧ Hk = H6) ?_ ?_
    rotate_left
    · intro j52 hj
      refine mIf_intro (fun c => hj _ _ ⟨?_, rfl⟩) (fun c => hkind h6 (hj _ _ ⟨?_, rfl⟩))
      · have c' : x.1 = 1 := by simpa using c
        rw [decide_eq_true (.inl c')]
      · have c' : ¬ x.1 = 1 := by simpa using c
        simp [c', Bool.beq_eq_decide_eq]
    rintro _ _ ⟨rfl, rfl⟩
    have hcl := hcm.len
    refine mJoin_cut (fun _ Hk => ∃ c', Cm c' l1.length (i + 1) (fun v => cnt M' v + (G ++ gl one).count v) ∧ Stars Hk (baseO B :: (imO s0 t0 s1' t1 M' ++ [vecO Value.bool q c', vecO E sg G]))) ?_ ?_
    rotate_left
    · intro j56 hj
      refine mIf_intro (fun c => S_put (enc := Value.bool) (x := true) h6 5 rfl (by omega) (by omega) rfl fun H7 h7 => hj _ _ ⟨_, ?_, h7⟩) (fun c => hj _ _ ⟨_, hcm.wide (by omega) fun v hv => ?_, h6⟩)
      · have c' : x.1 = 1 ∨ x.1 = 5 := by simpa using c
        rw [Int.toNat_natCast]
        refine hcm.mark hil fun v hv => ?_
        rw [hcons v hv]
        by_cases e : v = ((i + 1 : Nat) : Int)
        · rw [if_pos ⟨c', e⟩, if_pos e]
        · rw [if_neg (fun h => e h.2), if_neg e]
      · have c' : ¬ (x.1 = 1 ∨ x.1 = 5) := by simpa using c
        rw [hcons v hv, if_neg (fun h => c' h.1)]; rfl
    rintro _ H7 ⟨c', hcm', h7⟩
    clear hcm h6
    refine mJoin_cut (fun s Hk => Stars Hk (baseO B :: (imO s0 t0 s1' t1 M' ++ [vecO Value.bool q c', vecO E s (G ++ gl one)]))) ?_ ?_
    rotate_left
    · intro j60 hj
      refine mIf_intro (fun c => S_new1 (enc := E) h7 fun q1 H8 h8 x8 => S_app (l := G) (ys := [one]) h8 6 rfl (h8.list 7 rfl) ints_enc rfl (by simp; omega) fun q2 H9 h9 => hj _ _ ?_) (fun c => hj _ _ ?_)
      · have e : gl one = [one] := if_pos (by have : one ≠ 0 := by simpa using c
                                              omega)
        rw [e]
        exact h9.pick [0, 1, 2, 3, 4, 5, 6] (by decide) rfl (by simp [imO])
      · have e : gl one = [] := if_neg (by have : one = 0 := by simpa using c
                                           omega)
        rw [e, List.append_nil]; exact h7
    intro sg2 H8 h8
    have hG2 : ∀ g, g ∈ G ++ gl one → 1 ≤ g := fun g hg => (List.mem_append.1 hg).elim (hG g) gl_pos
    have hG2l : (G ++ gl one).length ≤ 65 := by have := gl_len one; rw [List.length_append]; omega
    generalize hGG : G ++ gl one = GG at hcm' h8 hG2 hG2l
    refine mLoop_count GG.length (fun j st Hk => st = (j : Int) ∧ ∃ c, Cm c l1.length (i + 1) (fun v => cnt M' v + (GG.drop j).count v) ∧ Stars Hk (baseO B :: (imO s0 t0 s1' t1 M' ++ [vecO Value.bool q c, vecO E sg2 GG]))) ⟨rfl, c', by rw [List.drop_zero]; exact hcm', h8⟩ ?_
    clear h8 hcm' h7
    rintro j st H9 again2 hj ⟨rfl, c2, hcm2, h9⟩ hag2
    have hgl := (h9.list (enc := E) 6 rfl).lenI
    rw [hgl]
    refine mIf_intro (fun cj => ?_) (fun cj => ?_)
    · have hjG : j < GG.length := by simpa using cj
      obtain ⟨g, hg⟩ : ∃ g, GG[(j : Int).toNat]? = some g := ⟨_, List.getElem?_eq_getElem (by simpa using hjG)⟩
      have g1 := hG2 g (List.mem_of_getElem? hg)
      have hgm : GG[j]? = some g := by rw [Int.toNat_natCast] at hg; exact hg
      obtain ⟨t1', t2, t3⟩ := hcm2.take (f' := fun v => cnt M' v + (GG.drop (j + 1)).count v) (by omega) g1 (by rw [count_drop hgm, if_pos rfl]; omega) (fun v hv => by rw [count_drop hgm, if_neg (fun e => hv e.symm)]; rfl)
      have hcl2 := hcm2.len
      have rd : ∀ {H' L} {K : Int → Prop}, Stars H' L → L[6]? = some (vecO E sg2 GG) → K g → mIdx sg2 1 j fun a => mLd (.int .i64) H' a K := fun h hL hK => idx_ld (h.list (enc := E) 6 hL) (by omega) (by omega) fun y hy => by rw [hg] at hy; cases hy; exact hK
      refine rd h9 rfl (mJoin_intro (mIf_neg (by simp; omega) (rd h9 rfl ?_)))
      rw [decide_eq_false (show ¬ (l1.length : Int) < g by omega)]
      refine mJoin_intro (mIf_neg rfl (rd h9 rfl (idx_ld (h9.list (enc := Value.bool) 5 rfl) (by omega) (by omega) fun z hz => ?_)))
      rw [t2] at hz; cases hz
      refine mIf_neg rfl (rd h9 rfl (S_put (enc := Value.bool) (x := false) h9 5 rfl (by omega) (by omega) rfl fun H10 h10 => ?_))
      rw [wrap_succ (by omega)]
      exact hag2 hjG _ _ ⟨rfl, _, t3, h10⟩
    · have hjG : j = GG.length := by simp at cj; omega
      subst hjG
      refine hag hil _ _ ⟨rfl, c2, M', ok', hcm2.wide (Nat.le_refl _) fun v hv => ?_, h9.pick [0, 1, 2, 3, 4, 5] (by decide) rfl (by simp [imO])⟩
      rw [List.drop_length]; rfl
  · -- the act
    intro j43 hj
    have fresh : cnt M ((i + 1 : Nat) : Int) = 0 := by
      have h1 := hcm.val (i + 1) (by omega)
      rw [← h1]
      cases hc : cc.getD (i + 1) false with
      | false => rfl
      | true => have := hcm.bd _ hc; omega
    have fr : ∀ over, getG (M.tab over) bb = ((i + 1 : Nat) : Int) → ((i + 1 : Nat) : Int) ≤ 0 := fun over e => by
      have := count_pos_getG (l := M.tab over) (b := bb) q0 (by rw [ok.tab]; exact q1)
      rw [e] at this
      unfold cnt at fresh
      cases over with
      | true => have h2 : (M.tab true).count ((i + 1 : Nat) : Int) = M.l1.count ((i + 1 : Nat) : Int) := rfl
                omega
      | false => have h2 : (M.tab false).count ((i + 1 : Nat) : Int) = M.l0.count ((i + 1 : Nat) : Int) := rfl
                 omega
    have le1 : ∀ v : Int, 1 ≤ v → cnt M v ≤ 1 := fun v hv => by
      obtain ⟨k, rfl⟩ := Int.eq_ofNat_of_zero_le (show 0 ≤ v by omega)
      rw [← hcm.val k (by omega)]
      cases cc.getD k false <;> simp
    have putc : ∀ over (v : Int), 1 ≤ v → (x.1 = 1 ∨ x.1 = 5) → cnt (M.put over bb ((i + 1 : Nat) : Int)) v + ([] ++ gl (gone (getG (M.tab over) bb) ((i + 1 : Nat) : Int))).count v = cnt M v + if (x.1 = 1 ∨ x.1 = 5) ∧ v = ((i + 1 : Nat) : Int) then 1 else 0 := fun over v hv hk => by
      have e := put_cnt (over := over) (b := bb) (x := ((i + 1 : Nat) : Int)) (v := v) ok q0 q1 hv (fr over)
      rw [List.nil_append, e]
      by_cases e2 : v = ((i + 1 : Nat) : Int)
      · rw [if_pos e2.symm, if_pos ⟨hk, e2⟩]
      · rw [if_neg (fun h => e2 h.symm), if_neg (fun h => e2 h.2)]
    have nok : ¬ (x.1 = 1 ∨ x.1 = 5) → ∀ (M' : Im) (G : List Int), (∀ v : Int, 1 ≤ v → cnt M' v + G.count v = cnt M v) → ∀ v : Int, 1 ≤ v → cnt M' v + (G ++ gl 0).count v = cnt M v + if (x.1 = 1 ∨ x.1 = 5) ∧ v = ((i + 1 : Nat) : Int) then 1 else 0 := fun hk M' G h v hv => by
      rw [show gl 0 = [] from rfl, List.append_nil, h v hv, if_neg (fun h => hk h.1)]; rfl
    refine mIf_intro (fun c => ?_) (fun n1 => mIf_intro (fun c => ?_) (fun n2 => mIf_intro (fun c => ?_) (fun n3 => mIf_intro (fun c => ?_) (fun n4 => mIf_intro (fun c => ?_) (fun n5 => mIf_intro (fun c => ?_) (fun n6 => ?_))))))
    · have c' : x.1 = 1 := by simpa using c
      exact one_spec (over := true) h5 r ok ⟨q0, q1⟩ ⟨by omega, by omega⟩ fun H6 h6 => hj _ _ ⟨_, [], ok.put true bb _, fun g hg => absurd hg (by simp), gone_nn _ _, by simp, fun v hv => putc true v hv (.inl c'), h6.nilv⟩
    · have c' : x.1 = 2 := by simpa using c
      refine none_spec (over := true) (k := m) h5 r ok q0 (by omega) (by omega) fun H6 g h6 => hj _ _ ⟨_, _, (nn_ok ok m).1, (nn_cnt (v := 1) ok q0 (Int.le_refl _) m (by omega)).2, Int.le_refl _, Nat.le_trans (nn_ok ok m).2 (by omega), nok (by omega) _ _ fun v hv => (nn_cnt ok q0 hv m (by omega)).1, h6.pick [0, 1, 2, 3, 4, 6, 5] (by decide) rfl (by simp [imO])⟩
    · have c' : x.1 = 3 := by simpa using c
      refine commit_spec h5 r ok fun H6 g h6 => hj _ _ ⟨_, _, (cm_ok ok n).1, (cm_cnt ok le1 n (Nat.le_refl _)).2, Int.le_refl _, Nat.le_trans (cm_ok ok n).2 (by omega), nok (by omega) _ _ (cm_cnt ok le1 n (Nat.le_refl _)).1, h6.pick [0, 1, 2, 3, 4, 6, 5] (by decide) rfl (by simp [imO])⟩
    · have c' : x.1 = 4 := by simpa using c
      refine forget_spec h5 r ok fun H6 g h6 => hj _ _ ⟨_, _, (fg_ok ok n).1, (fg_cnt (v := 1) ok (Int.le_refl _) n (Nat.le_refl _)).2, Int.le_refl _, Nat.le_trans (fg_ok ok n).2 (by omega), nok (by omega) _ _ fun v hv => (fg_cnt ok hv n (Nat.le_refl _)).1, h6.pick [0, 1, 2, 3, 4, 6, 5] (by decide) rfl (by simp [imO])⟩
    · have c' : x.1 = 5 := by simpa using c
      exact one_spec (over := false) h5 r ok ⟨q0, q1⟩ ⟨by omega, by omega⟩ fun H6 h6 => hj _ _ ⟨_, [], ok.put false bb _, fun g hg => absurd hg (by simp), gone_nn _ _, by simp, fun v hv => putc false v hv (.inr c'), h6.nilv⟩
    · have c' : x.1 = 6 := by simpa using c
      refine none_spec (over := false) (k := m) h5 r ok q0 (by omega) (by omega) fun H6 g h6 => hj _ _ ⟨_, _, (nn_ok ok m).1, (nn_cnt (v := 1) ok q0 (Int.le_refl _) m (by omega)).2, Int.le_refl _, Nat.le_trans (nn_ok ok m).2 (by omega), nok (by omega) _ _ fun v hv => (nn_cnt ok q0 hv m (by omega)).1, h6.pick [0, 1, 2, 3, 4, 6, 5] (by decide) rfl (by simp [imO])⟩
    · have n1' : ¬ x.1 = 1 := by simpa using n1
      have n5' : ¬ x.1 = 5 := by simpa using n5
      exact hj _ _ ⟨M, [], ok, fun g hg => absurd hg (by simp), Int.le_refl _, by simp, nok (by omega) _ _ (fun v _ => rfl), h5.nilv⟩
end Go.Proofs.Ytmbfefbgjdpelaa

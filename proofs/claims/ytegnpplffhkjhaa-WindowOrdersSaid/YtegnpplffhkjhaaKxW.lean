/- FROM A LAW's FORMULA TO ITS ROW: what the arguments are, and that they read behind the call as they did. -/
import Derived.Test.YtegnpplffhkjhaaKxV
import Derived.WalkKit
import Derived.ProofKit
import Derived.OpenShut
import Derived.JoinedCond
import Derived.ChangeSame
import Derived.Deep.Slices
set_option linter.unusedVariables false
set_option linter.unusedSimpArgs false
namespace Go.Kx
open Go.ChangeShapes Go.WideShapes Go.ChangeAt Go.RowKit

def heapOf (W : World) : PH := fun b => W.heap[b]?
theorem own_heapOf (W : World) : Own (heapOf W) PH.none W := ⟨fun _ _ h => h, fun _ _ h => (by cases h), fun _ => .inr rfl⟩
theorem cellAt_heapOf (W : World) (a : Addr) : cellAt (heapOf W) a = W.cell? a := rfl
/-- The end of a law: it has answered true; all stands as it stood. -/
def Done (H : PH) (r : Bool) (H' : PH) : Prop := r = true ∧ Ext H H'
theorem below_of {W W' : World} {H' T' : PH} (hfr : Fr (heapOf W) PH.none W H' T' W') (hx : Ext (heapOf W) H') : Below W.heap.size W W' :=
  ⟨hfr.os, hfr.tape, hfr.output, hfr.size, fun k hk => by
    have : W.heap[k]? = some W.heap[k] := Array.getElem?_eq_getElem hk
    rw [this]; exact hfr.own.sub k _ (hx k _ this)⟩
theorem calls_done {P : Program} {f : FuncId} {args : Array Value} {W : World} (h : CallsH P f args (heapOf W) fun v H' => ∃ r, v = .bool r ∧ Done (heapOf W) r H') :
    Calls P f args W fun e W' => e = .returned (.bool true) ∧ Below W.heap.size W W' :=
  (h W (own_heapOf W)).mono fun e W' ⟨v, H', h1, h2, r, h3, h4, h5⟩ => ⟨by rw [h1, h3, h4], below_of h2 h5⟩

section
variable {H : Type} {enc : TypeId × Value → H} {P : Program}
theorem trodAll_stays (hl : laidOutB P = true) {W W' : World} (hb : Below W.heap.size W W') : ∀ (ts : List TypeId) (vs : List Value) (ds : List (DataW H)) (ps : List MemPlace), ts.all (fun t => P.readableRec t && decide (t < P.types.size)) = true →
    DataW.TrodAll enc P W 0 (fun _ => true) true ts vs ds ps → (∀ x ∈ ps, x.block < W.heap.size) → ∀ sp : Nat → Bool, (∀ x ∈ ps, sp x.block = true) → DataW.TrodAll enc P W' 0 sp true ts vs ds ps
  | [], [], [], ps, _, h, _, sp, _ => h
  | t :: ts, v :: vs, d :: ds, ps, hr, h, hlt, sp, hsp => by
    obtain ⟨p, q, h1, h2, rfl⟩ := h
    simp only [List.all_cons, Bool.and_eq_true, decide_eq_true_eq] at hr
    refine ⟨p, q, WideElems.Trod_stays hl hr.1.1 hr.1.2 h1 (fun x hx => hb.same (hlt x (by simp [hx]))) (fun x hx => hsp x (by simp [hx])), trodAll_stays hl hb ts vs ds q hr.2 h2 (fun x hx => hlt x (by simp [hx])) sp (fun x hx => hsp x (by simp [hx])), rfl⟩
  | [], [], _ :: _, _, _, h, _, _, _ => h.elim
  | [], _ :: _, _, _, _, h, _, _, _ => h.elim
  | _ :: _, [], _, _, _, h, _, _, _ => h.elim
  | _ :: _, _ :: _, [], _, _, h, _, _, _ => h.elim

/-- The row's post, of a law: true, and the arguments as they were. -/
theorem post_law {f : Func} {s : ChangeSpec} {apart fresh handsOn again : Bool} {W W' : World} {args : Array Value} {ds gs : List (DataW H)} {before : List MemPlace} {tb : TypeId}
    (hl : laidOutB P = true) (hrd : f.params.toList.all (fun t => P.readableRec t && decide (t < P.types.size)) = true) (hrt : f.resultTypes = #[tb]) (htb : P.underlying tb = some .bool)
    (hvars : s.vars = []) (hfn : (s.fn H (ds ++ gs)).results = [.lit (.bool true)] ∧ (s.fn H (ds ++ gs)).args = ds ∧ (s.fn H (ds ++ gs)).vars = [])
    (hW : DataW.Whole enc P f.params.toList s.vars apart W args.toList ds gs before) (hb : Below W.heap.size W W') :
    s.post enc P f apart fresh handsOn again W args (.bool true) W' := by
  have hW0 := hW
  have hlt : ∀ p ∈ before, p.block < W.heap.size := fun p hp => hW.lt p hp
  have hold : ∀ p ∈ before, (fun b => decide (b < W.heap.size)) p.block = true := fun p hp => by simpa using hlt p hp
  obtain ⟨p, q, hA, hV, rfl, hz, hn⟩ := hW
  have hq : q = [] := by rw [hvars] at hV; exact (trodVars_none hV).2
  subst hq
  rw [List.append_nil] at hlt hold hz hn hW0
  have hargs : ∀ sp : Nat → Bool, (∀ x ∈ p, sp x.block = true) → DataW.TrodAll enc P W' 0 sp true f.params.toList args.toList (s.fn H (ds ++ gs)).args p := fun sp hsp => by
    rw [hfn.2.1]; exact trodAll_stays hl hb _ _ _ _ hrd hA hlt sp hsp
  have hres : ∀ (b : Nat) (sp : Nat → Bool) (hd : Bool), DataW.TrodAll enc P W' b sp hd f.resultTypes.toList ((Value.bool true).resultList f.resultTypes.size) (s.fn H (ds ++ gs)).results [] := fun b sp hd => by
    rw [hfn.1, hrt]; exact trodAll_cons_mk (shut_bool htb true) trodAll_mk0
  have hvs : ∀ sp : Nat → Bool, DataW.TrodVars enc P W' sp s.vars (s.fn H (ds ++ gs)).vars [] := fun sp => by rw [hvars, hfn.2.2]; rfl
  refine ⟨ds, gs, p, [], p, [], by simpa using hW0, hres _ _ _, hargs _ hold, hvs _, World.keptBut_mono (fun x hx => ⟨hx, ?_⟩) (hb.frame (· ∈ p)), fun _ => ?_⟩
  · simpa using hx
  · refine ⟨ok_one hrt rfl (okWide_bool_mk htb true), _, _, ([] ++ p) ++ [], ⟨[] ++ p, [], trodAll_append (hargs _ (fun _ _ => rfl)) (hres _ _ _), hvs _, rfl, ?_, ?_⟩, ?_⟩
    · intro b off hp
      have hin : MemPlace.cell b off ∈ p := by simpa using hp
      rw [hb.frozen (hlt _ hin)]
      exact hz b off hin
    · intro ha; have := hn ha; simpa using this
    · intro x hx _; simpa using hx

/-! ### What an argument is -/
theorem cell_spot {W : World} {a : Addr} {v : Value} (h : W.cell? a = some v) : a.spot = none := by
  unfold World.cell? at h
  split at h
  · cases hs : a.spot with
    | none => rfl
    | some x => rw [hs] at h; simp at h
  · cases h
theorem list_of {α : Type} {p : Nat → α → Prop} : ∀ n : Nat, (∀ i, i < n → ∃ a, p i a) → ∃ l : List α, l.length = n ∧ ∀ i a, l[i]? = some a → p i a
  | 0, _ => ⟨[], rfl, fun i a h => by simp at h⟩
  | n + 1, h => by
    obtain ⟨l, hl, hp⟩ := list_of n fun i hi => h i (by omega)
    obtain ⟨a, ha⟩ := h n (by omega)
    refine ⟨l ++ [a], by simp [hl], fun i b hb => ?_⟩
    by_cases hi : i < l.length
    · rw [List.getElem?_append_left hi] at hb; exact hp i b hb
    · rw [List.getElem?_append_right (by omega)] at hb
      have h0 : i - l.length = 0 := by
        have := (List.getElem?_eq_some_iff.1 hb).1
        simp at this; omega
      rw [h0] at hb; simp at hb; subst hb
      have : i = n := by omega
      rw [this]; exact ha

/-- What a slice that came in holds, element by element: R says what each is, beside its reading. -/
def InSlice {α : Type} (H : Type) (enc' : α → Value) (R : α → DataW H → Prop) (W : World) (s : Sl) (l : List α) (d : DataW H) : Prop :=
  ListAt enc' (heapOf W) s l ∧ s.cap ≤ maxLen ∧ ((d = .nil ∧ l = []) ∨ ∃ ds sp, d = .slice ds sp ∧ ds.length = l.length ∧ ∀ (i : Nat) (a : α) (x : DataW H), l[i]? = some a → ds[i]? = some x → R a x)
theorem in_slice {α : Type} {enc' : α → Value} {R : α → DataW H → Prop} {t e fuel : Nat} {W : World} {cs : List Value} {d : DataW H} {ps : List MemPlace} (hu : P.underlying t = some (.slice e)) (hc : P.cellsOf e = 1)
    (hel : ∀ n v x p, DataW.trod enc P W 0 (fun _ => true) true n e [v] = some (x, p) → ∃ a, v = enc' a ∧ R a x)
    (h : DataW.trod enc P W 0 (fun _ => true) true fuel t cs = some (d, ps)) : ∃ s l, cs = [Sl.v s] ∧ InSlice H enc' R W s l d := by
  rcases Go.Deep.open_slice1 hu hc h with ⟨h1, h2⟩ | ⟨a, len, cap, m, n, V, D, Pl, h1, _, hle, hcm, hm, hx, hel2⟩
  · refine ⟨Sl.nil, [], h1, .nil, by simp, .inl ⟨by simpa using congrArg Prod.fst h2, rfl⟩⟩
  · simp only [if_true] at hm; subst hm
    obtain ⟨l, hl, hp⟩ := list_of (p := fun i (a' : α) => V i = enc' a' ∧ R a' (D i)) len fun i hi => hel n (V i) (D i) (Pl i) (hel2 i (by omega)).2
    refine ⟨⟨some a, len, m⟩, l, h1, ⟨hl.symm, hle, fun i x hi => ⟨a, rfl, ?_, ?_⟩⟩, hcm, .inr ⟨_, _, by simpa using congrArg Prod.fst hx, by simp [hl], fun i a' x hi hx' => ?_⟩⟩
    · have hi' := (List.getElem?_eq_some_iff.1 hi).1
      have h0 := (hel2 0 (by omega)).1
      rw [add_zero'] at h0
      exact cell_spot h0
    · have hi' := (List.getElem?_eq_some_iff.1 hi).1
      rw [cellAt_heapOf, (hel2 i (by omega)).1, (hp i x hi).1]
    · have hi' := (List.getElem?_eq_some_iff.1 hi).1
      rw [List.getElem?_map, List.getElem?_range (by omega)] at hx'
      simp at hx'; subst hx'
      exact (hp i a' hi).2

/-- An integer. -/
def InInt (H : Type) (k : IntKind) (a : Int) (d : DataW H) : Prop := d = .lit (.int k a) ∧ (Lit.int k a).wf = true
theorem el_int {e n : Nat} {k : IntKind} {W : World} {v : Value} {x : DataW H} {p : List MemPlace} (he : P.underlying e = some (.int k)) (h : DataW.trod enc P W 0 (fun _ => true) true n e [v] = some (x, p)) : ∃ a, v = .int k a ∧ InInt H k a x := by
  obtain ⟨a, h1, h2, h3⟩ := DataW.trod_int he h
  simp at h1 h2
  exact ⟨a, h1, h2.1, h3⟩
abbrev InInts (H : Type) (k : IntKind) (W : World) (s : Sl) (l : List Int) (d : DataW H) : Prop := InSlice H (Value.int k) (InInt H k) W s l d
theorem in_ints {t e fuel : Nat} {k : IntKind} {W : World} {cs : List Value} {d : DataW H} {ps : List MemPlace} (hu : P.underlying t = some (.slice e)) (hc : P.cellsOf e = 1) (he : P.underlying e = some (.int k))
    (h : DataW.trod enc P W 0 (fun _ => true) true fuel t cs = some (d, ps)) : ∃ s l, cs = [Sl.v s] ∧ InInts H k W s l d := in_slice hu hc (fun _ _ _ _ h => el_int he h) h
/-- Rows of integers. -/
abbrev InRows (H : Type) (k : IntKind) (W : World) (s : Sl) (ls : List (Sl × List Int)) (d : DataW H) : Prop := InSlice H (fun q : Sl × List Int => Sl.v q.1) (fun q x => InInts H k W q.1 q.2 x) W s ls d
theorem in_rows {t e e2 fuel : Nat} {k : IntKind} {W : World} {cs : List Value} {d : DataW H} {ps : List MemPlace} (hu : P.underlying t = some (.slice e)) (hc : P.cellsOf e = 1) (hu2 : P.underlying e = some (.slice e2)) (hc2 : P.cellsOf e2 = 1) (he : P.underlying e2 = some (.int k))
    (h : DataW.trod enc P W 0 (fun _ => true) true fuel t cs = some (d, ps)) : ∃ s ls, cs = [Sl.v s] ∧ InRows H k W s ls d :=
  in_slice hu hc (fun _ v _ _ h => by
    obtain ⟨s, l, h1, h2⟩ := in_ints hu2 hc2 he h
    simp at h1
    exact ⟨(s, l), h1, h2⟩) h
theorem trod_of_slice {t e : Nat} {W : World} {base : Nat} {v : Value} {d : DataW H} {ps : List MemPlace} (hu : P.underlying t = some (.slice e)) (hok : Value.okWide P W .any base t v)
    (h : DataW.Trod enc P W 0 (fun _ => true) true t v d ps) : ∃ fuel, DataW.trod enc P W 0 (fun _ => true) true fuel t [v] = some (d, ps) := by
  obtain ⟨a, len, cap, rfl⟩ := okWide_slice hu hok
  exact h
end
theorem wf_u8 {x : Int} (h : (Lit.int .u8 x).wf = true) : 0 ≤ x ∧ x ≤ 255 := by simpa [Lit.wf, IntKind.min, IntKind.max, IntKind.signed, IntKind.bits] using h
theorem wf_u32 {x : Int} (h : (Lit.int .u32 x).wf = true) : 0 ≤ x ∧ x < 2 ^ 32 := by
  have : 0 ≤ x ∧ x ≤ 4294967295 := by simpa [Lit.wf, IntKind.min, IntKind.max, IntKind.signed, IntKind.bits] using h
  omega
theorem wf_i64 {x : Int} (h : (Lit.int .i64 x).wf = true) : -9223372036854775808 ≤ x ∧ x ≤ 9223372036854775807 := by simpa [Lit.wf, IntKind.min, IntKind.max, IntKind.signed, IntKind.bits] using h
theorem ints_wf {H : Type} {k : IntKind} {W : World} {s : Sl} {l : List Int} {d : DataW H} (h : InInts H k W s l d) : ∀ x, x ∈ l → (Lit.int k x).wf = true := by
  intro x hx
  obtain ⟨i, hi, hxi⟩ := List.getElem_of_mem hx
  rcases h.2.2 with ⟨_, rfl⟩ | ⟨ds, sp, rfl, hl, hr⟩
  · cases hx
  · exact (hr i x ds[i] (by simp [hi, hxi]) (by simp [hl, hi])).2

/-! ### An argument that is a struct or an array -/
def isAggT (P : Program) (t : TypeId) : Bool := match P.underlying t with | some (.struct _) => true | some (.array _ _) => true | _ => false
theorem row_of {P : Program} {W : World} {r : Reach} {base : Nat} {t : TypeId} {ts : List TypeId} {v : Value} (hu : isAggT P t = true) (hts : P.cellTypes P.depth t = some ts) (hc : P.cellsOf t = ts.length) (h : Value.okWide P W r base t v) :
    ∃ cs : List Value, v = .agg cs.toArray ∧ cs.length = ts.length ∧ ∀ (i : Nat) (u : TypeId), ts[i]? = some u → ∃ x, cs[i]? = some x ∧ Cell.okWide P W r base u x := by
  have key : ∃ cs, v = .agg cs ∧ cs.size = P.cellsOf t ∧ Row.okWide P W r base t cs := by
    unfold isAggT at hu
    unfold Value.okWide at h
    split at hu
    · rename_i e; rw [e] at h; exact h
    · rename_i e; rw [e] at h; exact h
    · cases hu
  obtain ⟨cs, rfl, hs, ts', ht', _, hcell⟩ := key
  rw [hts] at ht'; cases ht'
  refine ⟨cs.toList, rfl, by simp [hs, hc], fun i u hi => ?_⟩
  have hlt : i < ts.length := (List.getElem?_eq_some_iff.1 hi).1
  have hlt2 : i < cs.size := by omega
  obtain ⟨u', hu', hok⟩ := hcell i cs[i] (by simp [hlt2])
  rw [Nat.mod_eq_of_lt hlt, hi] at hu'; cases hu'
  exact ⟨cs[i], by simp [hlt2], hok⟩
theorem cell_int {P : Program} {W : World} {r : Reach} {base : Nat} {u : TypeId} {k : IntKind} {x : Value} (hu : P.underlying u = some (.int k)) (h : Cell.okWide P W r base u x) : ∃ n, x = .int k n ∧ k.has n := by
  unfold Cell.okWide at h
  rw [hu] at h
  simp only at h
  unfold Cell.ok at h
  rw [hu] at h
  cases x <;> simp at h
  rename_i k' n
  obtain ⟨rfl, hn⟩ := h
  exact ⟨n, rfl, hn⟩
theorem cell_bool {P : Program} {W : World} {r : Reach} {base : Nat} {u : TypeId} {x : Value} (hu : P.underlying u = some .bool) (h : Cell.okWide P W r base u x) : ∃ b, x = .bool b := by
  unfold Cell.okWide at h
  rw [hu] at h
  simp only at h
  unfold Cell.ok at h
  rw [hu] at h
  cases x <;> simp at h
  exact ⟨_, rfl⟩
theorem list1 {α : Type} {cs : List α} {a : α} (hl : cs.length = 1) (h0 : cs[0]? = some a) : cs = [a] := by
  match cs, hl with | [x0], _ => simp at h0; simp [h0]
theorem list2 {α : Type} {cs : List α} {a b : α} (hl : cs.length = 2) (h0 : cs[0]? = some a) (h1 : cs[1]? = some b) : cs = [a, b] := by
  match cs, hl with | [x0, x1], _ => simp at h0 h1; simp [h0, h1]
theorem list3 {α : Type} {cs : List α} {a b c : α} (hl : cs.length = 3) (h0 : cs[0]? = some a) (h1 : cs[1]? = some b) (h2 : cs[2]? = some c) : cs = [a, b, c] := by
  match cs, hl with | [x0, x1, x2], _ => simp at h0 h1 h2; simp [h0, h1, h2]
theorem list4 {α : Type} {cs : List α} {a b c d : α} (hl : cs.length = 4) (h0 : cs[0]? = some a) (h1 : cs[1]? = some b) (h2 : cs[2]? = some c) (h3 : cs[3]? = some d) : cs = [a, b, c, d] := by
  match cs, hl with | [x0, x1, x2, x3], _ => simp at h0 h1 h2 h3; simp [h0, h1, h2, h3]
theorem list5 {α : Type} {cs : List α} {a b c d e : α} (hl : cs.length = 5) (h0 : cs[0]? = some a) (h1 : cs[1]? = some b) (h2 : cs[2]? = some c) (h3 : cs[3]? = some d) (h4 : cs[4]? = some e) : cs = [a, b, c, d, e] := by
  match cs, hl with | [x0, x1, x2, x3, x4], _ => simp at h0 h1 h2 h3 h4; simp [h0, h1, h2, h3, h4]
theorem list6 {α : Type} {cs : List α} {a b c d e f : α} (hl : cs.length = 6) (h0 : cs[0]? = some a) (h1 : cs[1]? = some b) (h2 : cs[2]? = some c) (h3 : cs[3]? = some d) (h4 : cs[4]? = some e) (h5 : cs[5]? = some f) : cs = [a, b, c, d, e, f] := by
  match cs, hl with | [x0, x1, x2, x3, x4, x5], _ => simp at h0 h1 h2 h3 h4 h5; simp [h0, h1, h2, h3, h4, h5]
theorem list7 {α : Type} {cs : List α} {a b c d e f g : α} (hl : cs.length = 7) (h0 : cs[0]? = some a) (h1 : cs[1]? = some b) (h2 : cs[2]? = some c) (h3 : cs[3]? = some d) (h4 : cs[4]? = some e) (h5 : cs[5]? = some f) (h6 : cs[6]? = some g) : cs = [a, b, c, d, e, f, g] := by
  match cs, hl with | [x0, x1, x2, x3, x4, x5, x6], _ => simp at h0 h1 h2 h3 h4 h5 h6; simp [h0, h1, h2, h3, h4, h5, h6]
theorem list8 {α : Type} {cs : List α} {a b c d e f g h : α} (hl : cs.length = 8) (h0 : cs[0]? = some a) (h1 : cs[1]? = some b) (h2 : cs[2]? = some c) (h3 : cs[3]? = some d) (h4 : cs[4]? = some e) (h5 : cs[5]? = some f) (h6 : cs[6]? = some g) (h7 : cs[7]? = some h) : cs = [a, b, c, d, e, f, g, h] := by
  match cs, hl with | [x0, x1, x2, x3, x4, x5, x6, x7], _ => simp at h0 h1 h2 h3 h4 h5 h6 h7; simp [h0, h1, h2, h3, h4, h5, h6, h7]
end Go.Kx

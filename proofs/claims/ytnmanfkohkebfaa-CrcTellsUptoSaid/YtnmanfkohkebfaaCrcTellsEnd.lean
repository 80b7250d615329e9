/- CrcTells answers true, and leaves its arguments as they were, whatever it is given of bulk at most 1048576. -/
import Derived.Test.YtnmanfkohkebfaaCrcC
import Derived.Test.YtnmanfkohkebfaaKxW
import Derived.Test.YtnmanfkohkebfaaRows
set_option linter.unusedVariables false
set_option linter.unusedSimpArgs false
namespace Go.Proofs.Ytnmanfkohkebfaa.lawCrcTells
open Go Go.Kx Crc
open Go.ChangeShapes Go.WideShapes Go.ChangeAt Go.RowKit

theorem own : ownKnob Try.prog.godebug = none := by kernel_rfl
theorem laid : laidOutB Try.prog = true := by kernel_rfl
theorem rd : Try.f3.params.toList.all (fun t => Try.prog.readableRec t && decide (t < Try.prog.types.size)) = true := by kernel_rfl
theorem c5 : Try.prog.cellsOf 5 = 1 := by kernel_rfl
theorem c23 : Try.prog.cellsOf 23 = 1 := by kernel_rfl

/-- bulk -/
theorem bulk_one {H : Type} (d : DataW H) : 1 ≤ Rows.uptoBulk d := by
  cases d with
  | lit l => cases l <;> simp [Rows.uptoBulk]
  | nil => simp [Rows.uptoBulk]
  | ptr d => simp [Rows.uptoBulk]
  | slice elems spare => simp [Rows.uptoBulk]
  | agg parts => simp [Rows.uptoBulk]
  | iface t d => simp [Rows.uptoBulk]
  | map entries => simp [Rows.uptoBulk]
  | held h => simp [Rows.uptoBulk]
theorem bulk_len {H : Type} (l : List (DataW H)) : l.length ≤ Rows.uptoBulkAll l := by
  induction l with
  | nil => simp [Rows.uptoBulkAll]
  | cons x r ih => have := bulk_one x; simp only [Rows.uptoBulkAll, List.length_cons]; omega
theorem bulk_ints {H : Type} {k : IntKind} {W : World} {s : Sl} {l : List Int} {d : DataW H} (h : InInts H k W s l d) : l.length ≤ Rows.uptoBulk d := by
  rcases h.2.2 with ⟨_, rfl⟩ | ⟨ds, sp, rfl, hl, _⟩
  · simp
  · have := bulk_len ds; simp only [Rows.uptoBulk]; omega
theorem wf_u8 {x : Int} (h : (Lit.int .u8 x).wf = true) : 0 ≤ x ∧ x ≤ 255 := by simpa [Lit.wf, IntKind.min, IntKind.max, IntKind.signed, IntKind.bits] using h
theorem ints_byt {H : Type} {W : World} {s : Sl} {l : List Int} {d : DataW H} (h : InInts H .u8 W s l d) : Byt l := by
  intro x hx
  obtain ⟨i, hi, hxi⟩ := List.getElem_of_mem hx
  rcases h.2.2 with ⟨_, rfl⟩ | ⟨ds, sp, rfl, hl, hr⟩
  · cases hx
  · exact wf_u8 (hr i x ds[i] (by simp [hi, hxi]) (by simp [hl, hi])).2
theorem bulk_rows {H : Type} : ∀ (ls : List (Sl × List Int)) (ds : List (DataW H)) (W : World), ds.length = ls.length → (∀ (i : Nat) (q : Sl × List Int) (x : DataW H), ls[i]? = some q → ds[i]? = some x → InInts H .u8 W q.1 q.2 x) → (cat ls).length + ls.length ≤ 2 * Rows.uptoBulkAll ds
  | [], [], _, _, _ => by simp [cat, Rows.uptoBulkAll]
  | q :: ls, d :: ds, W, hl, h => by
    have h0 := bulk_ints (h 0 q d rfl rfl)
    have h1 := bulk_one d
    have ih := bulk_rows ls ds W (by simpa using hl) fun i q x hq hx => h (i + 1) q x (by simpa using hq) (by simpa using hx)
    simp only [cat, List.map_cons, List.flatten_cons, List.length_append, List.length_cons, Rows.uptoBulkAll] at *
    omega

theorem contract (H : Type) (enc : TypeId × Value → H) (W : World) (base : Nat) (args : Array Value) (ds gs : List (DataW H)) (before : List MemPlace)
    (hval : ∀ (j : Nat) t v, Try.f3.params[j]? = some t → args[j]? = some v → Value.okWide Try.prog W .any base t v)
    (hW : DataW.Whole enc Try.prog Try.f3.params.toList Rows.crcTellsSpec.vars false W args.toList ds gs before) (hk : Rows.uptoSmall H (ds ++ gs) = true) :
    Calls Try.prog 3 args W fun e W' => ∃ v, e = .returned v ∧ Rows.crcTellsSpec.post enc Try.prog Try.f3 false true false false W args v W' := by
  have hW' := hW
  obtain ⟨p, q, hA, hV, rfl, hfz, hnd⟩ := hW
  rw [Try.params3] at hA hval
  obtain ⟨v0, vs0, d0, ds0, p0, q0, hargs, rfl, rfl, h0, r0⟩ := trodAll_cons hA
  obtain ⟨v1, vs1, d1, ds1, p1, q1, rfl, rfl, rfl, h1, r1⟩ := trodAll_cons r0
  obtain ⟨v2, vs2, d2, ds2, p2, q2, rfl, rfl, rfl, h2, r2⟩ := trodAll_cons r1
  obtain ⟨rfl, rfl, rfl⟩ := trodAll_nil r2
  obtain rfl : args = #[v0, v1, v2] := by cases args; simp_all
  obtain ⟨rfl, rfl⟩ := trodVars_none hV
  obtain ⟨n0, g0⟩ := trod_of_slice Try.underlying22 (hval 0 22 v0 rfl rfl) h0
  obtain ⟨s0, l0, e0, i0⟩ := in_rows Try.underlying22 c23 Try.underlying23 c5 Try.underlying5 g0
  obtain ⟨x1, rfl, rfl, rfl, w1⟩ := open_int Try.underlying3 (hval 1 3 v1 rfl rfl) h1
  obtain ⟨n2, g2⟩ := trod_of_slice Try.underlying23 (hval 2 23 v2 rfl rfl) h2
  obtain ⟨s2, l2, e2, i2⟩ := in_ints Try.underlying23 c5 Try.underlying5 g2
  obtain rfl : v0 = Sl.v s0 := by simpa using e0
  obtain rfl : v2 = Sl.v s2 := by simpa using e2
  have hb : Rows.uptoBulkAll ([d0, .lit (.int .i64 x1), d2] ++ ([] : List (DataW H))) ≤ 1048576 := of_decide_eq_true hk
  simp only [List.append_nil, Rows.uptoBulkAll] at hb
  have hb2 := bulk_ints i2
  have hrows : (cat l0).length + l0.length ≤ 2 * Rows.uptoBulk d0 ∧ Rows (heapOf W) s0 l0 ∧ Byt (cat l0) := by
    rcases i0.2.2 with ⟨rfl, rfl⟩ | ⟨ds', sp, rfl, hl, hr⟩
    · exact ⟨by simp [cat], ⟨⟨i0.1.1, i0.1.2.1, fun i x h => by simp at h⟩, fun q hq => by cases hq⟩, fun x hx => by simp [cat] at hx⟩
    · have hbr := bulk_rows l0 ds' W hl hr
      have hall : ∀ q, q ∈ l0 → ∃ x, InInts H .u8 W q.1 q.2 x := fun q hq => by
        obtain ⟨i, hi, hqi⟩ := List.getElem_of_mem hq
        exact ⟨ds'[i]'(by omega), hr i q _ (by simp [hi, hqi]) (by simp [hl, hi])⟩
      refine ⟨by simp only [Rows.uptoBulk]; omega, ⟨?_, fun q hq => ?_⟩, fun x hx => ?_⟩
      · obtain ⟨a1, a2, a3⟩ := i0.1
        exact ⟨by simpa using a1, a2, fun i x hi => by
          rw [List.getElem?_map, Option.map_eq_some_iff] at hi
          obtain ⟨q, hq, rfl⟩ := hi
          exact a3 i q hq⟩
      · obtain ⟨x, hx⟩ := hall q hq
        have hcl : q.2.length ≤ (cat l0).length := by
          obtain ⟨i, hi, hqi⟩ := List.getElem_of_mem hq
          have e : cat l0 = cat (l0.take (i + 1)) ++ cat (l0.drop (i + 1)) := by simp [cat, ← List.flatten_append, ← List.map_append]
          rw [e, cat_take (p := q) (by simp [hi, hqi])]; simp; omega
        exact ⟨hx.1, ints_byt hx, by simp only [Rows.uptoBulk] at hb; omega⟩
      · simp only [cat, List.mem_flatten, List.mem_map] at hx
        obtain ⟨_, ⟨q, hq, rfl⟩, hx⟩ := hx
        obtain ⟨y, hy⟩ := hall q hq
        exact ints_byt hy x hx
  refine (calls_done (keelsonlaw2_CrcTells_s s0 x1 s2 (heapOf W) _ (tells_law hrows.2.1 (by omega) (by omega) i2.1 (ints_byt i2) (by omega) hrows.2.2))).mono fun e W' ⟨he, hg⟩ => ?_
  exact ⟨_, he, post_law laid rd rfl Try.underlying4 rfl ⟨rfl, rfl, rfl⟩ hW' hg⟩

set_option maxRecDepth 100000 in
theorem lifted (os : Os) (started : os.Started) (H : Type) (enc : TypeId × Value → H) (F : Stop.Interp) :
    ReturnsInHanded {} Try.checked os 3 .any ((Rows.OpenSpec.upto Rows.crcTellsSpec).pre6 enc Try.prog Try.f3 Rows.crcTellsUptoRow.domain false) (((Rows.OpenSpec.upto Rows.crcTellsSpec).at F).post enc Try.prog Try.f3 false true false false) := by
  refine returnsInHanded_of_cond (C := Try.checked) (s := Rows.OpenSpec.upto Rows.crcTellsSpec) (k := Rows.uptoSmall) rfl own started (by kernel_rfl) Try.func3
    (OpenSpec.witness (enc := enc) (C := Try.checked) (s := Rows.OpenSpec.upto Rows.crcTellsSpec) (k := Rows.uptoSmall) rfl false ⟨#[], #[.slice none 0 0, .int .i64 0, .slice none 0 0], []⟩ 8 (by kernel_rfl) (by kernel_rfl) (by kernel_rfl)
      (x := ([.nil, .lit (.int .i64 0), .nil], [], [])) (by kernel_rfl) rfl (by kernel_rfl)) ?_
  intro W base args ds gs before hval hW _ hk _
  exact contract H enc W base args ds gs before hval hW hk

theorem over : Rows.crcTellsUptoRow.holds Try.pinned (Rows.OpenSpec.upto Rows.crcTellsSpec) :=
  OpenClaim.holds_of_cond 3 Try.f3 rfl rfl rfl rfl rfl rfl rfl ⟨rfl, rfl, rfl, rfl, rfl⟩ rfl rfl rfl rfl rfl (by kernel_rfl) Try.func3 (by kernel_rfl)
    (of_decide_eq_true (by kernel_rfl)) (by unfold Func.isWrapper; first | (rw [if_pos (by decide +kernel)]; kernel_rfl) | (rw [if_neg (by decide +kernel)]; exact ⟨rfl, rfl⟩))
    (fun os started H enc _ F => lifted os started H enc F)

theorem proved : Rows.CrcTellsUptoSaid := over
#print axioms proved
end Go.Proofs.Ytnmanfkohkebfaa.lawCrcTells

/- turned from PagD by pagv.py. -/
import Derived.Test.YtmbfefbgjdpelaaImgC
set_option linter.unusedVariables false
set_option linter.unusedSimpArgs false
namespace Go.Proofs.Ytmbfefbgjdpelaa
open Go Go.Kx PInt

theorem setL_in {l : List Int} {k v : Int} (h0 : 0 ≤ k) (h1 : k < l.length) : setL ne l k v = l.set k.toNat v := by
  unfold setL
  split
  · rfl
  · rename_i h
    have hlt : k.toNat < l.length := by omega
    rw [hitAt, decide_eq_true (show 0 ≤ k ∧ k < (l.length : Int) from ⟨h0, h1⟩), List.getElem?_eq_getElem hlt] at h
    have : l[k.toNat] = v := by simpa [ne] using h
    apply List.ext_getElem?
    intro j
    by_cases e : k.toNat = j
    · subst e; rw [List.getElem?_set_self hlt, List.getElem?_eq_getElem hlt, this]
    · rw [List.getElem?_set_ne e]
theorem hit_in {l : List Int} {k v x : Int} (h0 : 0 ≤ k) (h1 : k < l.length) (hx : l[k.toNat]? = some x) : hitAt ne l k v = (x != v) := by rw [hitAt, decide_eq_true ⟨h0, h1⟩, hx]; rfl
theorem arr_get {α : Type} {enc : α → Value} {l : List α} {k : Nat} {x : α} (h : l[k]? = some x) : (l.map enc)[k]? = some (enc x) := by simp [h]
theorem idxA_arr {a : Addr} {i : Int} {K : Addr → Prop} {n : Nat} (h0 : 0 ≤ i) (h1 : i < n) (hK : K (a.add i.toNat)) : mIdxA n a 1 i K := idxA_row h0 h1 (by rw [Nat.mul_one]; exact hK)
section
variable {H : PH} {s : Sl} {l : List (Int × Int)} {i : Int}
end
theorem dirtyL_len (d : List Bool) : (dirtyL d).length ≤ d.length := dirtyTo_len d d.length

end Go.Proofs.Ytmbfefbgjdpelaa

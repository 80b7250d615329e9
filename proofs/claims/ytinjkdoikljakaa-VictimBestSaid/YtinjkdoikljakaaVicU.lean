/- turned from UsgU by usgv.py. -/
import Derived.Test.YtinjkdoikljakaaVicT
set_option linter.unusedVariables false
set_option linter.unusedSimpArgs false
namespace Go.Proofs.Ytinjkdoikljakaa
open Go Go.Kx

theorem r_froz {H B : PH} {L : List Ob} {c : Cfg} {x : Sl} {ul : List Use} {Q : Option Addr → PH → Prop} (h : Stars H (baseO B :: L)) (hc : CfgOk c) (hx : ListN encU 2 H x ul) (h1 : ul = [] ∨ (ul.length : Int) = c.2.1) (h2 : ∀ u, u ∈ ul → okU u = true)
    (hQ : ∀ B' a s t H', Ext B B' → RowAt B' a (rowR c s t) → Stars H' (baseO B' :: (L ++ [vecNO encU 2 s (iniL c.2.1.toNat ul), vecO (Value.int .i64) t (List.replicate c.2.1.toNat 0)])) → Q (some a) H') : keelsonref11_NewTable c x H Q := by
  have hul : ul.length < 2 ^ 40 := by
    have := hc.2.2.2.1
    rcases h1 with h | h
    · subst h; decide
    · omega
  refine r_new hc hx hul (fun hb => absurd ⟨h1, h2⟩ hb) fun _ _ a s t H1 k1 => ?_
  have k2 := h.over k1
  have k3 : Stars H1 (baseO B :: (L ++ [vecNO encU 2 s (iniL c.2.1.toNat ul), vecO (Value.int .i64) t (List.replicate c.2.1.toNat 0)]) ++ [rowO a (rowR c s t)]) := by simpa using k2
  obtain ⟨B', xb, rb, k4⟩ := k3.freeze
  exact hQ B' a s t H1 xb rb k4

end Go.Proofs.Ytinjkdoikljakaa

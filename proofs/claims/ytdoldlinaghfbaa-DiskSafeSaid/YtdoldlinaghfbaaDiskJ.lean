/- A DISK WITHOUT A FUSE. -/
import Derived.Test.YtdoldlinaghfbaaDiskI
set_option linter.unusedVariables false
set_option linter.unusedSimpArgs false
namespace Go.Proofs.Ytdoldlinaghfbaa
open Go Go.Kx
theorem act_live {D : Dk} (ho : D.off = false) (hf : D.fuse = -1) : D.act = ({ D with acts := D.acts + 1, off := false, fuse := -1 }, true) := by
  unfold Dk.act
  rw [ho, hf]; rfl
theorem write_live {D : Dk} {i : Nat} {b : Blk} (ho : D.off = false) (hf : D.fuse = -1) : D.act.2 = true ∧ D.write i b = ⟨D.safe, D.now.set i b, D.held ++ [((i : Int), b)], D.faults, -1, D.acts + 1, false⟩ := by
  have := act_live ho hf
  refine ⟨by rw [this], ?_⟩
  unfold Dk.write
  rw [this]; rfl
theorem flush_live {D : Dk} (ho : D.off = false) (hf : D.fuse = -1) : D.act.2 = true ∧ D.flush = ⟨putAll D.safe D.held, D.now, [], D.faults, -1, D.acts + 1, false⟩ := by
  have := act_live ho hf
  refine ⟨by rw [this], ?_⟩
  unfold Dk.flush
  rw [this]; rfl
end Go.Proofs.Ytdoldlinaghfbaa

/- A flash chip that is not touched; cells and their blocks. No conditions. -/
import Derived.Test.YtifajfjiloajfaaGreatDoorMFlash
namespace Go.Proofs.YtifajfjiloajfaaGreatDoor.OwnChip
open Go.RowKit Go.Proofs.YtifajfjiloajfaaGreatDoor.Own
theorem fl_out {S T : Nat → Prop} {n g : Nat} {w w' : World} (k : Kept T w w') (hd : ∀ j, S j → ¬ T j) (h : Fl S n w g) : Fl S n w' g := by
  obtain ⟨hg, x, d, cap, sv, hD, ok, hb, hy, hs⟩ := h
  exact ⟨hg, x, d, cap, sv, hD, ok, k.blk hb (hd g hg), hy.kept k (hd d hD), hs.same (Same.kept k hd)⟩
theorem bel_trans {a b c : World} (h : Below a.heap.size a b) (k : Below b.heap.size b c) : Below a.heap.size a c :=
  Kept.none_below ((Kept.below h).trans (Kept.below k))
theorem cell_lt {w : World} {d o : Nat} {v : Value} (h : w.cell? ⟨d, o, none⟩ = some v) : d < w.heap.size := by
  unfold World.cell? at h
  by_cases hd : d < w.heap.size
  · exact hd
  · rw [show w.heap[d]? = none from Array.getElem?_eq_none (by omega)] at h
    simp at h
theorem cell_of {w w' : World} {d o : Nat} (h : w'.heap[d]? = w.heap[d]?) : w'.cell? ⟨d, o, none⟩ = w.cell? ⟨d, o, none⟩ := by
  unfold World.cell?
  simp only [h]
end Go.Proofs.YtifajfjiloajfaaGreatDoor.OwnChip

/- The numbers of package api are those of the document: the walk. No condition. -/
import Derived.Test.YtlchkaedjeabjaaProg
import Derived.Below
import Derived.OwnWalk
import Derived.WalkKit
import Derived.Tactics
import Derived.KernelRfl
namespace Go.Proofs.Ytlchkaedjeabjaa.Own
open Go.RowKit
set_option maxHeartbeats 4000000 in
set_option maxRecDepth 100000 in
theorem names_walk (w : World) : Calls Try.prog 3 #[] w fun e w' => e = .returned (.bool true) ∧ Below w.heap.size w w' := by
  go_enter Try.func3, Try.ntmps3
  go_wp2
  go_ret
  exact ⟨rfl, Below.refl _ _⟩
end Go.Proofs.Ytlchkaedjeabjaa.Own

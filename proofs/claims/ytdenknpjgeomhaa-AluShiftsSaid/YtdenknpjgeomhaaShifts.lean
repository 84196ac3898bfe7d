/- Any byte, shifted and turned, with any flags, is as the document says: the walk. Conditions: bytes are bytes. -/
import Derived.Test.YtdenknpjgeomhaaRef
namespace Go.Proofs.Ytdenknpjgeomhaa.Own
open Go.RowKit
set_option maxHeartbeats 3200000 in
theorem shifts_walk (m p : Int) (w : World) (hm : By m) (hp : By p) :
    Calls Try.prog 3 #[.int .u8 m, .int .u8 p] w fun e w' => e = .returned (.bool true) ∧ Below w.heap.size w w' := by
  go_enter Try.func3, Try.ntmps3
  go_wp2_with fail
  go_at_call 11
  refine (awake_any _).mono ?_
  rintro e w1 ⟨rfl, hb1⟩
  go_wp2_with fail
  go_at_call 12
  refine (asl_any _ _ _ hm hp).mono ?_
  rintro e w' ⟨rfl, rfl⟩
  go_wp2_with fail
  go_at_call 13
  refine (rasl_any _ _ _ hm hp).mono ?_
  rintro e w' ⟨rfl, rfl⟩
  go_wp2_with fail
  go_at_call 14
  refine (lsr_any _ _ _ hm hp).mono ?_
  rintro e w' ⟨rfl, rfl⟩
  go_wp2_with fail
  go_at_call 15
  refine (rlsr_any _ _ _ hm hp).mono ?_
  rintro e w' ⟨rfl, rfl⟩
  go_wp2_with fail
  go_at_call 16
  refine (rol_any _ _ _ hm hp).mono ?_
  rintro e w' ⟨rfl, rfl⟩
  go_wp2_with fail
  go_at_call 17
  refine (rrol_any _ _ _ hm hp).mono ?_
  rintro e w' ⟨rfl, rfl⟩
  go_wp2_with fail
  go_at_call 18
  refine (ror_any _ _ _ hm hp).mono ?_
  rintro e w' ⟨rfl, rfl⟩
  go_wp2_with fail
  go_at_call 19
  refine (rror_any _ _ _ hm hp).mono ?_
  rintro e w' ⟨rfl, rfl⟩
  go_wp2
  go_ret
  exact ⟨rfl, hb1⟩
end Go.Proofs.Ytdenknpjgeomhaa.Own

/- What any bytes compared, and tested, tell the flags is as the document says; so are Arr and Sbx: the walk. Conditions: bytes are bytes. -/
import Derived.Test.YtdenknpjgeomhaaRefArr
namespace Go.Proofs.Ytdenknpjgeomhaa.Own
open Go.RowKit
set_option maxHeartbeats 3200000 in
theorem tests_walk (a m p : Int) (w : World) (ha : By a) (hm : By m) (hp : By p) :
    Calls Try.prog 9 #[.int .u8 a, .int .u8 m, .int .u8 p] w fun e w' => e = .returned (.bool true) ∧ Below w.heap.size w w' := by
  go_enter Try.func9, Try.ntmps9
  go_wp2_with fail
  go_at_call 11
  refine (awake_any _).mono ?_
  rintro e w1 ⟨rfl, hb1⟩
  go_wp2_with fail
  go_at_call 26
  refine (arr_any _ _ _ _ ha hm hp).mono ?_
  rintro e w' ⟨rfl, rfl⟩
  go_wp2_with fail
  go_at_call 27
  refine (rarr_any _ _ _ _ ha hm hp).mono ?_
  rintro e w' ⟨rfl, rfl⟩
  go_wp2_with fail
  go_at_call 25
  refine (sbx_any _ _ _ _ ha hm hp).mono ?_
  rintro e w' ⟨rfl, rfl⟩
  go_wp2_with fail
  go_at_call 28
  refine (rsbx_any _ _ _ _ ha hm hp).mono ?_
  rintro e w' ⟨rfl, rfl⟩
  go_wp2_with fail
  go_at_call 29
  refine (nz_any _ _ _ hp).mono ?_
  rintro e w' ⟨rfl, rfl⟩
  go_wp2_with fail
  go_at_call 30
  refine (rnz_any _ _ _ hp).mono ?_
  rintro e w' ⟨rfl, rfl⟩
  go_wp2_with fail
  go_at_call 24
  refine (cmp_any _ _ _ _ ha hm hp).mono ?_
  rintro e w' ⟨rfl, rfl⟩
  go_wp2_with fail
  go_at_call 31
  refine (rcmp_any _ _ _ _ ha hm hp).mono ?_
  rintro e w' ⟨rfl, rfl⟩
  go_wp2_with fail
  go_at_call 32
  refine (bit_any _ _ _ _ ha hm hp).mono ?_
  rintro e w' ⟨rfl, rfl⟩
  go_wp2_with fail
  go_at_call 33
  refine (rbit_any _ _ _ _ ha hm hp).mono ?_
  rintro e w' ⟨rfl, rfl⟩
  go_wp2
  go_ret
  exact ⟨rfl, hb1⟩
end Go.Proofs.Ytdenknpjgeomhaa.Own

/- Contracts of an opcode and of a mode's size. Conditions: bytes are bytes; the library's own variable reads as an integer. -/
import Derived.Test.YtpicoihlbgceiaaOps
namespace Go.Proofs.Ytpicoihlbgceiaa.Own
open Go.RowKit

noncomputable def kindI (c : Nat) : Int := kindS (nameN c) (modeI c)
set_option maxHeartbeats 3200000 in
set_option maxRecDepth 100000 in
theorem of_any (c : Nat) (mx : Int) (w : World) (h : c < 256) (hm : w.cell? ⟨0, 0, none⟩ = some (.int .i64 mx)) :
    Calls Try.prog 10 #[.int .u8 c] w fun e w' => e = .returned (.agg #[.string (nameN c), .int .i64 (modeI c), .int .i64 (kindI c)]) ∧ Below w.heap.size w w' := by
  have hlt := World.block_lt_of_cell? _ _ hm
  have HM := Lib.hid (show ∀ o, (w.alloc o).cell? ⟨0, 0, none⟩ = some (.int .i64 mx) from fun o => (World.cell?_alloc_lt w o _ hlt).trans hm)
  have HL := Lib.hid (fun w => letter_any (c : Int) w ⟨by omega, by omega⟩)
  clear hm hlt
  go_enter Try.func10, Try.ntmps10
  go_wp2_with fail
  go_at_call 17
  refine (HL.out _).mono ?_
  rintro e w' ⟨rfl, rfl⟩
  go_wp2_with fail
  go_at_call 16
  refine (Try.strings_IndexByte _ _ _).mono ?_
  rintro e w' ⟨rfl, rfl⟩
  go_wp2_with fail
  go_at_call 18
  refine (name_any _ _ h).mono ?_
  rintro e w' ⟨rfl, rfl⟩
  go_wp2_with fail
  go_at_call 18
  refine (name_any _ _ h).mono ?_
  rintro e w' ⟨rfl, rfl⟩
  go_wp2_with fail
  go_at_call 19
  refine (kind_any _ _ mx _ (HM.out _)).mono ?_
  rintro e w' ⟨rfl, rfl⟩
  go_wp2
  exact bodyPost_ret (v := .agg #[.string (nameN c), .int .i64 (modeI c), .int .i64 (kindI c)]) (by simp [results, Try.results10, go_sem]; exact ⟨rfl, rfl⟩) rfl ⟨rfl, (Below.refl _ _).alloc (Nat.le_refl _) _⟩
def sizeI (m : Int) : Int := if m < 0 ∨ m > 11 then 0 else if m = 0 then 1 else if m = 5 ∨ m = 6 ∨ m = 7 ∨ m = 11 then 3 else 2
set_option maxHeartbeats 3200000 in
theorem size_any (m : Int) (w : World) : Calls Try.prog 12 #[.int .i64 m] w fun e w' => e = .returned (.int .i64 (sizeI m)) ∧ w = w' := by
  unfold sizeI
  by_cases k0 : m < 0
  · rw [if_pos (.inl k0)]
    go_enter Try.func12, Try.ntmps12
    go_wp2
    go_ret
    exact ⟨rfl, rfl⟩
  by_cases k1 : m > 11
  · rw [if_pos (.inr k1)]
    go_enter Try.func12, Try.ntmps12
    go_wp2
    go_ret
    exact ⟨rfl, rfl⟩
  rw [if_neg (by omega)]
  have hm : m = 0 ∨ m = 1 ∨ m = 2 ∨ m = 3 ∨ m = 4 ∨ m = 5 ∨ m = 6 ∨ m = 7 ∨ m = 8 ∨ m = 9 ∨ m = 10 ∨ m = 11 := by omega
  clear k0 k1
  rcases hm with rfl | rfl | rfl | rfl | rfl | rfl | rfl | rfl | rfl | rfl | rfl | rfl
  all_goals
    go_enter Try.func12, Try.ntmps12
    go_wp2
    go_ret
    exact ⟨rfl, rfl⟩
end Go.Proofs.Ytpicoihlbgceiaa.Own

/- Contracts of the arithmetic unit's small functions, and of the document's. Conditions: bytes are bytes. -/
import Derived.Test.YtdenknpjgeomhaaSpec
import Derived.Test.YtdenknpjgeomhaaProg
import Derived.Below
import Derived.OwnWalk
import Derived.Laws.OwnMore
import Derived.Laws.Rows
import Derived.Deep.Draws
import Derived.WalkKit
import Derived.Tactics
import Derived.Lib.Hide
import Derived.KernelRfl
namespace Go.Proofs.Ytdenknpjgeomhaa.Own
open Go.RowKit

set_option maxHeartbeats 1600000 in
theorem flag_any (p f : Int) (is : Bool) (w : World) (hp : By p) (hf : isF f) :
    Calls Try.prog 40 #[.int .u8 p, .int .u8 f, .bool is] w fun e w' => e = .returned (.int .u8 (fl p f is)) ∧ w = w' := by
  cases is
  · rw [← flag_not hp hf]
    go_enter Try.func40, Try.ntmps40
    go_wp2
    go_ret
    exact ⟨rfl, rfl⟩
  · rw [← flag_or hp hf]
    go_enter Try.func40, Try.ntmps40
    go_wp2
    go_ret
    exact ⟨rfl, rfl⟩
set_option maxHeartbeats 1600000 in
theorem nz_any (p v : Int) (w : World) (hp : By p) :
    Calls Try.prog 29 #[.int .u8 p, .int .u8 v] w fun e w' => e = .returned (.int .u8 (nz p v)) ∧ w = w' := by
  go_enter Try.func29, Try.ntmps29
  go_wp2_with fail
  go_at_call 40
  refine (flag_any _ _ _ _ hp (.inr (.inl rfl))).mono ?_
  rintro e w' ⟨rfl, rfl⟩
  go_wp2_with fail
  go_at_call 40
  refine (flag_any _ _ _ _ (fl_by hp (.inr (.inl rfl)) _) (.inr (.inr (.inr (.inr rfl))))).mono ?_
  rintro e w' ⟨rfl, rfl⟩
  go_wp2
  go_ret
  exact ⟨rfl, rfl⟩
set_option maxHeartbeats 1600000 in
theorem shifted_any (v p : Int) (out : Bool) (w : World) (hp : By p) :
    Calls Try.prog 34 #[.int .u8 v, .int .u8 p, .bool out] w fun e w' => e = .returned (.tuple #[.int .u8 v, .int .u8 (shF v p out)]) ∧ w = w' := by
  go_enter Try.func34, Try.ntmps34
  go_wp2_with fail
  go_at_call 40
  refine (flag_any _ _ _ _ hp (.inl rfl)).mono ?_
  rintro e w' ⟨rfl, rfl⟩
  go_wp2_with fail
  go_at_call 29
  refine (nz_any _ _ _ (fl_by hp (.inl rfl) _)).mono ?_
  rintro e w' ⟨rfl, rfl⟩
  go_wp2
  go_ret2
  exact ⟨rfl, rfl⟩
set_option maxHeartbeats 1600000 in
theorem asl_any (m p : Int) (w : World) (hm : By m) (hp : By p) :
    Calls Try.prog 12 #[.int .u8 m, .int .u8 p] w fun e w' => e = .returned (.tuple #[.int .u8 (aslV m), .int .u8 (aslF m p)]) ∧ w = w' := by
  have hm' := hm
  obtain ⟨hm0, hm1⟩ := hm'
  go_enter Try.func12, Try.ntmps12
  go_wp2_with fail
  go_at_call 34
  refine (shifted_any _ _ _ _ hp).mono ?_
  rintro e w' ⟨rfl, rfl⟩
  go_wp2
  go_ret2
  exact ⟨rfl, rfl⟩
set_option maxHeartbeats 1600000 in
theorem lsr_any (m p : Int) (w : World) (hm : By m) (hp : By p) :
    Calls Try.prog 14 #[.int .u8 m, .int .u8 p] w fun e w' => e = .returned (.tuple #[.int .u8 (lsrV m), .int .u8 (lsrF m p)]) ∧ w = w' := by
  have ho := and_one hm
  have hm' := hm
  obtain ⟨hm0, hm1⟩ := hm'
  go_enter Try.func14, Try.ntmps14
  go_wp2_with fail
  go_at_call 34
  refine (shifted_any _ _ _ _ hp).mono ?_
  rintro e w' ⟨rfl, rfl⟩
  go_wp2
  go_ret2
  exact ⟨rfl, rfl⟩
set_option maxHeartbeats 1600000 in
theorem rol_any (m p : Int) (w : World) (hm : By m) (hp : By p) :
    Calls Try.prog 16 #[.int .u8 m, .int .u8 p] w fun e w' => e = .returned (.tuple #[.int .u8 (rolV m p), .int .u8 (rolF m p)]) ∧ w = w' := by
  have ho := and_one hp
  have hr : Go.bits .or .u8 (m * 2 % 256) (p % 2) = rolV m p :=
    bits_join .u8 8 (by decide) wraps_u8 1 _ _ (by omega) (by omega) (by omega) (by omega) (by omega) (by omega)
  have hm' := hm
  obtain ⟨hm0, hm1⟩ := hm'
  go_enter Try.func16, Try.ntmps16
  go_wp2_with fail
  go_at_call 34
  refine (shifted_any _ _ _ _ hp).mono ?_
  rintro e w' ⟨rfl, rfl⟩
  go_wp2
  go_ret2
  exact ⟨rfl, rfl⟩
theorem ror_or {m p : Int} (hm : By m) : Go.bits .or .u8 (m / 2) (p % 2 * 128) = rorV m p := by
  rcases (show p % 2 = 0 ∨ p % 2 = 1 by omega) with h | h
  · unfold rorV
    rw [h]
    exact byte_all (P := fun m => Go.bits .or .u8 (m / 2) (0 * 128) = m / 2 + 128 * 0) (by decide +kernel) hm
  · unfold rorV
    rw [h]
    exact byte_all (P := fun m => Go.bits .or .u8 (m / 2) (1 * 128) = m / 2 + 128 * 1) (by decide +kernel) hm
set_option maxHeartbeats 1600000 in
theorem ror_any (m p : Int) (w : World) (hm : By m) (hp : By p) :
    Calls Try.prog 18 #[.int .u8 m, .int .u8 p] w fun e w' => e = .returned (.tuple #[.int .u8 (rorV m p), .int .u8 (rorF m p)]) ∧ w = w' := by
  have ho := and_one hp
  have hq := and_one hm
  have hr := ror_or (p := p) hm
  have hm' := hm
  obtain ⟨hm0, hm1⟩ := hm'
  go_enter Try.func18, Try.ntmps18
  go_wp2_with fail
  go_at_call 34
  refine (shifted_any _ _ _ _ hp).mono ?_
  rintro e w' ⟨rfl, rfl⟩
  go_wp2
  go_ret2
  exact ⟨rfl, rfl⟩
set_option maxHeartbeats 1600000 in
theorem cmp_any (r m p : Int) (w : World) (hr : By r) (hm : By m) (hp : By p) :
    Calls Try.prog 24 #[.int .u8 r, .int .u8 m, .int .u8 p] w fun e w' => e = .returned (.int .u8 (cmpF r m p)) ∧ w = w' := by
  obtain ⟨hm0, hm1⟩ := hm
  obtain ⟨hr0, hr1⟩ := hr
  go_enter Try.func24, Try.ntmps24
  go_wp2_with fail
  go_at_call 40
  refine (flag_any _ _ _ _ hp (.inl rfl)).mono ?_
  rintro e w' ⟨rfl, rfl⟩
  go_wp2_with fail
  go_at_call 29
  refine (nz_any _ _ _ (fl_by hp (.inl rfl) _)).mono ?_
  rintro e w' ⟨rfl, rfl⟩
  go_wp2
  go_ret
  exact ⟨rfl, rfl⟩
set_option maxHeartbeats 1600000 in
theorem sbx_any (r m p : Int) (w : World) (hr : By r) (hm : By m) (hp : By p) :
    Calls Try.prog 25 #[.int .u8 r, .int .u8 m, .int .u8 p] w fun e w' => e = .returned (.tuple #[.int .u8 (sbxV r m), .int .u8 (cmpF r m p)]) ∧ w = w' := by
  have hr' := hr
  have hm' := hm
  obtain ⟨hm0, hm1⟩ := hm'
  obtain ⟨hr0, hr1⟩ := hr'
  go_enter Try.func25, Try.ntmps25
  go_wp2_with fail
  go_at_call 24
  refine (cmp_any _ _ _ _ hr hm hp).mono ?_
  rintro e w' ⟨rfl, rfl⟩
  go_wp2
  go_ret2
  exact ⟨rfl, rfl⟩
set_option maxHeartbeats 1600000 in
theorem bit_any (a m p : Int) (w : World) (ha : By a) (hm : By m) (hp : By p) :
    Calls Try.prog 32 #[.int .u8 a, .int .u8 m, .int .u8 p] w fun e w' => e = .returned (.int .u8 (bitF a m p)) ∧ w = w' := by
  have h1 : Go.bits .and .u8 a m = land a m := u8_and a m ha.1 ha.2 hm.1 hm.2
  have h2 := and_has hm (.inr (.inr (.inr (.inl rfl))))
  have h3 := and_has hm (.inr (.inr (.inr (.inr rfl))))
  go_enter Try.func32, Try.ntmps32
  go_wp2_with fail
  go_at_call 40
  refine (flag_any _ _ _ _ hp (.inr (.inl rfl))).mono ?_
  rintro e w' ⟨rfl, rfl⟩
  go_wp2_with fail
  go_at_call 40
  refine (flag_any _ _ _ _ (fl_by hp (.inr (.inl rfl)) _) (.inr (.inr (.inr (.inl rfl))))).mono ?_
  rintro e w' ⟨rfl, rfl⟩
  go_wp2_with fail
  go_at_call 40
  refine (flag_any _ _ _ _ (fl_by (fl_by hp (.inr (.inl rfl)) _) (.inr (.inr (.inr (.inl rfl)))) _) (.inr (.inr (.inr (.inr rfl))))).mono ?_
  rintro e w' ⟨rfl, rfl⟩
  go_wp2
  go_ret
  exact ⟨rfl, rfl⟩
end Go.Proofs.Ytdenknpjgeomhaa.Own

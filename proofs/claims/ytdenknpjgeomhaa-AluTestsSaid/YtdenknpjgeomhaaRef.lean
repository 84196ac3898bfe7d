/- Contracts of the document's arithmetic unit: each comes to what the program's comes to. Conditions: bytes are bytes. -/
import Derived.Test.YtdenknpjgeomhaaSbcArr
namespace Go.Proofs.Ytdenknpjgeomhaa.Own
open Go.RowKit

set_option maxHeartbeats 1600000 in
theorem rhas_any (p f : Int) (w : World) (hp : By p) (hf : isF f) :
    Calls Try.prog 42 #[.int .u8 p, .int .i64 f] w fun e w' => e = .returned (.bool (has p f)) ∧ w = w' := by
  obtain ⟨hp0, hp1⟩ := hp
  rcases hf with rfl | rfl | rfl | rfl | rfl
  all_goals
    go_enter Try.func42, Try.ntmps42
    go_wp2
    go_ret
    exact ⟨by first | rfl | simp [has], rfl⟩
set_option maxHeartbeats 1600000 in
theorem rone_any (p : Int) (w : World) (hp : By p) :
    Calls Try.prog 36 #[.int .u8 p, .int .i64 1] w fun e w' => e = .returned (.int .i64 (p % 2)) ∧ w = w' := by
  obtain ⟨hp0, hp1⟩ := hp
  go_enter Try.func36, Try.ntmps36
  go_wp2
  go_ret
  exact ⟨by first | rfl | simp, rfl⟩
theorem fl_has (p f : Int) (is : Bool) : fl p f is = p - (if has p f then f else 0) + (if is then f else 0) := by
  unfold fl has
  rcases (show p / f % 2 = 0 ∨ p / f % 2 = 1 by omega) with h | h <;> rw [h] <;> simp
set_option maxHeartbeats 3200000 in
theorem rset_any (p f : Int) (is : Bool) (w : World) (hp : By p) (hf : isF f) :
    Calls Try.prog 35 #[.int .u8 p, .int .i64 f, .bool is] w fun e w' => e = .returned (.int .u8 (fl p f is)) ∧ w = w' := by
  have hby := fl_by hp hf is
  have HH := Lib.hid (show ∀ w, Calls Try.prog 42 #[.int .u8 p, .int .i64 f] w fun e w' => e = .returned (.bool (has p f)) ∧ w = w' from fun w => rhas_any p f w hp hf)
  have hfb : 0 ≤ f ∧ f < 256 := by rcases hf with rfl | rfl | rfl | rfl | rfl <;> omega
  rw [fl_has] at hby ⊢
  unfold By at hby
  obtain ⟨hp0, hp1⟩ := hp
  obtain ⟨hf0, hf1⟩ := hfb
  clear hf
  have HY := Lib.hid hby
  clear hby
  generalize has p f = h at *
  cases h <;> cases is
  all_goals
    have hy := HY.out
    simp only [Bool.false_eq_true, if_false, if_true, Int.sub_zero, Int.add_zero] at hy ⊢
    have HZ := Lib.hid hy
    clear hy
    go_enter Try.func35, Try.ntmps35
    go_wp2_with fail
    go_at_call 42
    refine (HH.out _).mono ?_
    rintro e w' ⟨rfl, rfl⟩
    go_wp2
    go_ret
    have hz := HZ.out
    exact ⟨ret_int (by omega), rfl⟩
set_option maxHeartbeats 1600000 in
theorem rnz_any (p v : Int) (w : World) (hp : By p) :
    Calls Try.prog 30 #[.int .u8 p, .int .u8 v] w fun e w' => e = .returned (.int .u8 (nz p v)) ∧ w = w' := by
  have hd : decide (128 ≤ v) = decide (127 < v) := by rw [decide_eq_decide]; omega
  unfold nz
  rw [← fl_swap, hd]
  clear hd
  go_enter Try.func30, Try.ntmps30
  go_wp2_with fail
  go_at_call 35
  refine (rset_any _ _ _ _ hp (.inr (.inr (.inr (.inr rfl))))).mono ?_
  rintro e w' ⟨rfl, rfl⟩
  go_wp2_with fail
  go_at_call 35
  refine (rset_any _ _ _ _ (fl_by hp (.inr (.inr (.inr (.inr rfl)))) _) (.inr (.inl rfl))).mono ?_
  rintro e w' ⟨rfl, rfl⟩
  go_wp2
  go_ret
  exact ⟨rfl, rfl⟩
theorem top_gt (m : Int) : decide (128 ≤ m) = decide (127 < m) := by rw [decide_eq_decide]; omega
set_option maxHeartbeats 1600000 in
theorem rasl_any (m p : Int) (w : World) (hm : By m) (hp : By p) :
    Calls Try.prog 13 #[.int .u8 m, .int .u8 p] w fun e w' => e = .returned (.tuple #[.int .u8 (aslV m), .int .u8 (aslF m p)]) ∧ w = w' := by
  unfold aslF shF
  rw [top_gt]
  unfold aslV
  obtain ⟨hm0, hm1⟩ := hm
  go_enter Try.func13, Try.ntmps13
  go_wp2_with fail
  go_at_call 35
  refine (rset_any _ _ _ _ hp (.inl rfl)).mono ?_
  rintro e w' ⟨rfl, rfl⟩
  go_wp2_with fail
  go_at_call 30
  refine (rnz_any _ _ _ (fl_by hp (.inl rfl) _)).mono ?_
  rintro e w' ⟨rfl, rfl⟩
  go_wp2
  go_ret2
  exact ⟨rfl, rfl⟩
set_option maxHeartbeats 1600000 in
theorem rlsr_any (m p : Int) (w : World) (hm : By m) (hp : By p) :
    Calls Try.prog 15 #[.int .u8 m, .int .u8 p] w fun e w' => e = .returned (.tuple #[.int .u8 (lsrV m), .int .u8 (lsrF m p)]) ∧ w = w' := by
  unfold lsrF shF lsrV
  obtain ⟨hm0, hm1⟩ := hm
  go_enter Try.func15, Try.ntmps15
  go_wp2_with fail
  go_at_call 35
  refine (rset_any _ _ _ _ hp (.inl rfl)).mono ?_
  rintro e w' ⟨rfl, rfl⟩
  go_wp2_with fail
  go_at_call 30
  refine (rnz_any _ _ _ (fl_by hp (.inl rfl) _)).mono ?_
  rintro e w' ⟨rfl, rfl⟩
  go_wp2
  go_ret2
  exact ⟨rfl, rfl⟩
set_option maxHeartbeats 1600000 in
theorem rrol_any (m p : Int) (w : World) (hm : By m) (hp : By p) :
    Calls Try.prog 17 #[.int .u8 m, .int .u8 p] w fun e w' => e = .returned (.tuple #[.int .u8 (rolV m p), .int .u8 (rolF m p)]) ∧ w = w' := by
  have hb := rolV_by m p
  unfold rolF shF
  rw [top_gt]
  have ho := (show 0 ≤ p % 2 ∧ p % 2 < 2 by omega)
  have HO := Lib.hid (show ∀ w, Calls Try.prog 36 #[.int .u8 p, .int .i64 1] w fun e w' => e = .returned (.int .i64 (p % 2)) ∧ w = w' from fun w => rone_any p w hp)
  unfold By rolV at hb
  unfold rolV
  generalize p % 2 = c at *
  obtain ⟨hm0, hm1⟩ := hm
  obtain ⟨hc0, hc1⟩ := ho
  have hv : (m * 2 % 256 + c) % 256 = m * 2 % 256 + c := by omega
  clear hb
  go_enter Try.func17, Try.ntmps17
  go_wp2_with fail
  go_at_call 36
  refine (HO.out _).mono ?_
  rintro e w' ⟨rfl, rfl⟩
  go_wp2_with fail
  go_at_call 35
  refine (rset_any _ _ _ _ hp (.inl rfl)).mono ?_
  rintro e w' ⟨rfl, rfl⟩
  go_wp2_with fail
  go_at_call 30
  refine (rnz_any _ _ _ (fl_by hp (.inl rfl) _)).mono ?_
  rintro e w' ⟨rfl, rfl⟩
  go_wp2
  go_ret2
  exact ⟨rfl, rfl⟩
set_option maxHeartbeats 1600000 in
theorem rror_any (m p : Int) (w : World) (hm : By m) (hp : By p) :
    Calls Try.prog 19 #[.int .u8 m, .int .u8 p] w fun e w' => e = .returned (.tuple #[.int .u8 (rorV m p), .int .u8 (rorF m p)]) ∧ w = w' := by
  have hb := rorV_by hm p
  unfold rorF shF
  have ho := (show 0 ≤ p % 2 ∧ p % 2 < 2 by omega)
  have HO := Lib.hid (show ∀ w, Calls Try.prog 36 #[.int .u8 p, .int .i64 1] w fun e w' => e = .returned (.int .i64 (p % 2)) ∧ w = w' from fun w => rone_any p w hp)
  unfold By rorV at hb
  unfold rorV
  generalize p % 2 = c at *
  obtain ⟨hm0, hm1⟩ := hm
  obtain ⟨hc0, hc1⟩ := ho
  have hv : (m / 2 + 128 * c) % 256 = m / 2 + 128 * c := by omega
  clear hb
  go_enter Try.func19, Try.ntmps19
  go_wp2_with fail
  go_at_call 36
  refine (HO.out _).mono ?_
  rintro e w' ⟨rfl, rfl⟩
  go_wp2_with fail
  go_at_call 35
  refine (rset_any _ _ _ _ hp (.inl rfl)).mono ?_
  rintro e w' ⟨rfl, rfl⟩
  go_wp2_with fail
  go_at_call 30
  refine (rnz_any _ _ _ (fl_by hp (.inl rfl) _)).mono ?_
  rintro e w' ⟨rfl, rfl⟩
  go_wp2
  go_ret2
  exact ⟨rfl, rfl⟩
set_option maxHeartbeats 1600000 in
theorem rcmp_any (r m p : Int) (w : World) (hr : By r) (hm : By m) (hp : By p) :
    Calls Try.prog 31 #[.int .u8 r, .int .u8 m, .int .u8 p] w fun e w' => e = .returned (.int .u8 (cmpF r m p)) ∧ w = w' := by
  unfold cmpF
  obtain ⟨hr0, hr1⟩ := hr
  obtain ⟨hm0, hm1⟩ := hm
  by_cases h : r - m < 0
  · rw [show (r - m) % 256 = r - m + 256 by omega]
    have hv : (r - m + 256) % 256 = r - m + 256 := by omega
    have hb : decide (r - m < 0) = true := by simpa using h
    clear h
    go_enter Try.func31, Try.ntmps31
    go_wp2_with fail
    go_at_call 35
    refine (rset_any _ _ _ _ hp (.inl rfl)).mono ?_
    rintro e w' ⟨rfl, rfl⟩
    go_wp2_with fail
    go_at_call 30
    refine (rnz_any _ _ _ (fl_by hp (.inl rfl) _)).mono ?_
    rintro e w' ⟨rfl, rfl⟩
    go_wp2
    go_ret
    exact ⟨rfl, rfl⟩
  · have hv : (r - m) % 256 = r - m := by omega
    rw [hv]
    have hb : decide (r - m < 0) = false := by simpa using h
    clear h
    go_enter Try.func31, Try.ntmps31
    go_wp2_with fail
    go_at_call 35
    refine (rset_any _ _ _ _ hp (.inl rfl)).mono ?_
    rintro e w' ⟨rfl, rfl⟩
    go_wp2_with fail
    go_at_call 30
    refine (rnz_any _ _ _ (fl_by hp (.inl rfl) _)).mono ?_
    rintro e w' ⟨rfl, rfl⟩
    go_wp2
    go_ret
    exact ⟨rfl, rfl⟩
set_option maxHeartbeats 1600000 in
theorem rsbx_any (r m p : Int) (w : World) (hr : By r) (hm : By m) (hp : By p) :
    Calls Try.prog 28 #[.int .u8 r, .int .u8 m, .int .u8 p] w fun e w' => e = .returned (.tuple #[.int .u8 (sbxV r m), .int .u8 (cmpF r m p)]) ∧ w = w' := by
  unfold sbxV
  rw [show (r - m) % 256 = (r - m + 256) % 256 by omega]
  have HC := Lib.hid (show ∀ w, Calls Try.prog 31 #[.int .u8 r, .int .u8 m, .int .u8 p] w fun e w' => e = .returned (.int .u8 (cmpF r m p)) ∧ w = w' from fun w => rcmp_any r m p w hr hm hp)
  obtain ⟨hr0, hr1⟩ := hr
  obtain ⟨hm0, hm1⟩ := hm
  go_enter Try.func28, Try.ntmps28
  go_wp2_with fail
  go_at_call 31
  refine (HC.out _).mono ?_
  rintro e w' ⟨rfl, rfl⟩
  go_wp2
  go_ret2
  exact ⟨ret_pair (by omega), rfl⟩
end Go.Proofs.Ytdenknpjgeomhaa.Own

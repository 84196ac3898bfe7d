/- Contracts of the document's Sbc: it comes to what the program's comes to; and what any two bytes are together, and one without the other: the walk. Conditions: bytes are bytes. -/
import Derived.Test.YtdenknpjgeomhaaRefAdc
namespace Go.Proofs.Ytdenknpjgeomhaa.Own
open Go.RowKit

set_option maxHeartbeats 6400000 in
theorem rsbc_bin (a m p : Int) (w : World) (ha : By a) (hm : By m) (hp : By p) (hd : has p 8 = false) :
    Calls Try.prog 23 #[.int .u8 a, .int .u8 m, .int .u8 p] w fun e w' => e = .returned (.tuple #[.int .u8 (sbcV a m p), .int .u8 (sbcF a m p)]) ∧ w = w' := by
  have hn : By (255 - m) := by unfold By at *; omega
  have HA := Lib.hid (show ∀ w, Calls Try.prog 21 #[.int .u8 a, .int .u8 (255 - m), .int .u8 (fl p 8 false)] w fun e w' => e = .returned (.tuple #[.int .u8 (adcV a (255 - m) (fl p 8 false)), .int .u8 (adcF a (255 - m) (fl p 8 false))]) ∧ w = w' from fun w => radc_any _ _ _ w ha hn (fl_by hp (.inr (.inr (.inl rfl))) _))
  have HH := Lib.hid (show ∀ w, Calls Try.prog 42 #[.int .u8 p, .int .i64 8] w fun e w' => e = .returned (.bool false) ∧ w = w' from fun w => by have := rhas_any p 8 w hp (.inr (.inr (.inl rfl))); rw [hd] at this; exact this)
  unfold sbcV sbcF
  rw [hd]
  simp only [Bool.false_eq_true, if_false]
  have hv : (255 - m) % 256 = 255 - m := by unfold By at *; omega
  clear hd
  obtain ⟨hm0, hm1⟩ := hm
  go_enter Try.func23, Try.ntmps23
  go_wp2_with fail
  go_at_call 35
  refine (rset_any _ _ _ _ hp (.inr (.inr (.inl rfl)))).mono ?_
  rintro e w' ⟨rfl, rfl⟩
  go_wp2_with fail
  go_at_call 21
  refine (HA.out _).mono ?_
  rintro e w' ⟨rfl, rfl⟩
  go_wp2_with fail
  go_at_call 42
  refine (HH.out _).mono ?_
  rintro e w' ⟨rfl, rfl⟩
  go_wp2_with fail
  go_ret2
  exact ⟨rfl, rfl⟩
set_option maxHeartbeats 12800000 in
set_option maxRecDepth 100000 in
theorem rsbc_dec (a m p : Int) (w : World) (ha : By a) (hm : By m) (hp : By p) (hd : has p 8 = true) :
    Calls Try.prog 23 #[.int .u8 a, .int .u8 m, .int .u8 p] w fun e w' => e = .returned (.tuple #[.int .u8 (sbcV a m p), .int .u8 (sbcF a m p)]) ∧ w = w' := by
  have hn : By (255 - m) := by unfold By at *; omega
  have hF := adcF_by (a := a) (m := 255 - m) (fl_by hp (.inr (.inr (.inl rfl))) false)
  have HA := Lib.hid (show ∀ w, Calls Try.prog 21 #[.int .u8 a, .int .u8 (255 - m), .int .u8 (fl p 8 false)] w fun e w' => e = .returned (.tuple #[.int .u8 (adcV a (255 - m) (fl p 8 false)), .int .u8 (adcF a (255 - m) (fl p 8 false))]) ∧ w = w' from fun w => radc_any _ _ _ w ha hn (fl_by hp (.inr (.inr (.inl rfl))) _))
  have HH := Lib.hid (show ∀ w, Calls Try.prog 42 #[.int .u8 p, .int .i64 8] w fun e w' => e = .returned (.bool true) ∧ w = w' from fun w => by have := rhas_any p 8 w hp (.inr (.inr (.inl rfl))); rw [hd] at this; exact this)
  have HO := Lib.hid (show ∀ w, Calls Try.prog 36 #[.int .u8 p, .int .i64 1] w fun e w' => e = .returned (.int .i64 (p % 2)) ∧ w = w' from fun w => rone_any p w hp)
  have hc : 0 ≤ p % 2 ∧ p % 2 < 2 := by omega
  unfold sbcV sbcF
  rw [hd]
  simp only [if_true]
  have hv : (255 - m) % 256 = 255 - m := by unfold By at *; omega
  clear hd
  unfold sbcE midS
  generalize p % 2 = c at *
  have hle : a % 16 - m % 16 - 1 + c = lowS a m c := by unfold lowS; omega
  have hl0 : -17 ≤ lowS a m c := by unfold By lowS at *; omega
  have hl1 : lowS a m c < 17 := by unfold By lowS at *; omega
  generalize lowS a m c = l at *
  generalize adcF a (255 - m) (fl p 8 false) = F at *
  obtain ⟨ha0, ha1⟩ := ha
  obtain ⟨hm0, hm1⟩ := hm
  obtain ⟨hc0, hc1⟩ := hc
  by_cases hl : l < 0
  · rw [if_pos hl]
    have hlb : decide (l < 0) = true := by simpa using hl
    have h6 : (l - 6 + 32) % 16 = (l - 6) % 16 := by omega
    generalize hme : a - a % 16 - (m - m % 16) + ((l - 6) % 16 - 16) = s
    have hs0 : -600 ≤ s := by omega
    have hs1 : s < 600 := by omega
    by_cases hx : s < 0
    · rw [if_pos hx]
      have hxb : decide (s < 0) = true := by simpa using hx
      clear hl hx
      go_enter Try.func23, Try.ntmps23
      go_wp2_with fail
      go_at_call 35
      refine (rset_any _ _ _ _ hp (.inr (.inr (.inl rfl)))).mono ?_
      rintro e w' ⟨rfl, rfl⟩
      go_wp2_with fail
      go_at_call 21
      refine (HA.out _).mono ?_
      rintro e w' ⟨rfl, rfl⟩
      go_wp2_with fail
      go_at_call 42
      refine (HH.out _).mono ?_
      rintro e w' ⟨rfl, rfl⟩
      go_wp2_with fail
      go_at_call 36
      refine (HO.out _).mono ?_
      rintro e w' ⟨rfl, rfl⟩
      go_wp2_with fail
      go_at_call 35
      refine (rset_any _ _ _ _ hF (.inr (.inr (.inl rfl)))).mono ?_
      rintro e w' ⟨rfl, rfl⟩
      go_wp2
      go_ret2
      exact ⟨ret_pair (by omega), rfl⟩
    · rw [if_neg hx]
      have hxb : decide (s < 0) = false := by simpa using hx
      clear hl hx
      go_enter Try.func23, Try.ntmps23
      go_wp2_with fail
      go_at_call 35
      refine (rset_any _ _ _ _ hp (.inr (.inr (.inl rfl)))).mono ?_
      rintro e w' ⟨rfl, rfl⟩
      go_wp2_with fail
      go_at_call 21
      refine (HA.out _).mono ?_
      rintro e w' ⟨rfl, rfl⟩
      go_wp2_with fail
      go_at_call 42
      refine (HH.out _).mono ?_
      rintro e w' ⟨rfl, rfl⟩
      go_wp2_with fail
      go_at_call 36
      refine (HO.out _).mono ?_
      rintro e w' ⟨rfl, rfl⟩
      go_wp2_with fail
      go_at_call 35
      refine (rset_any _ _ _ _ hF (.inr (.inr (.inl rfl)))).mono ?_
      rintro e w' ⟨rfl, rfl⟩
      go_wp2
      go_ret2
      exact ⟨ret_pair (by omega), rfl⟩
  · rw [if_neg hl]
    have hlb : decide (l < 0) = false := by simpa using hl
    generalize hme : a - a % 16 - (m - m % 16) + l = s
    have hs0 : -600 ≤ s := by omega
    have hs1 : s < 600 := by omega
    by_cases hx : s < 0
    · rw [if_pos hx]
      have hxb : decide (s < 0) = true := by simpa using hx
      clear hl hx
      go_enter Try.func23, Try.ntmps23
      go_wp2_with fail
      go_at_call 35
      refine (rset_any _ _ _ _ hp (.inr (.inr (.inl rfl)))).mono ?_
      rintro e w' ⟨rfl, rfl⟩
      go_wp2_with fail
      go_at_call 21
      refine (HA.out _).mono ?_
      rintro e w' ⟨rfl, rfl⟩
      go_wp2_with fail
      go_at_call 42
      refine (HH.out _).mono ?_
      rintro e w' ⟨rfl, rfl⟩
      go_wp2_with fail
      go_at_call 36
      refine (HO.out _).mono ?_
      rintro e w' ⟨rfl, rfl⟩
      go_wp2_with fail
      go_at_call 35
      refine (rset_any _ _ _ _ hF (.inr (.inr (.inl rfl)))).mono ?_
      rintro e w' ⟨rfl, rfl⟩
      go_wp2
      go_ret2
      exact ⟨ret_pair (by omega), rfl⟩
    · rw [if_neg hx]
      have hxb : decide (s < 0) = false := by simpa using hx
      clear hl hx
      go_enter Try.func23, Try.ntmps23
      go_wp2_with fail
      go_at_call 35
      refine (rset_any _ _ _ _ hp (.inr (.inr (.inl rfl)))).mono ?_
      rintro e w' ⟨rfl, rfl⟩
      go_wp2_with fail
      go_at_call 21
      refine (HA.out _).mono ?_
      rintro e w' ⟨rfl, rfl⟩
      go_wp2_with fail
      go_at_call 42
      refine (HH.out _).mono ?_
      rintro e w' ⟨rfl, rfl⟩
      go_wp2_with fail
      go_at_call 36
      refine (HO.out _).mono ?_
      rintro e w' ⟨rfl, rfl⟩
      go_wp2_with fail
      go_at_call 35
      refine (rset_any _ _ _ _ hF (.inr (.inr (.inl rfl)))).mono ?_
      rintro e w' ⟨rfl, rfl⟩
      go_wp2
      go_ret2
      exact ⟨ret_pair (by omega), rfl⟩
theorem rsbc_any (a m p : Int) (w : World) (ha : By a) (hm : By m) (hp : By p) :
    Calls Try.prog 23 #[.int .u8 a, .int .u8 m, .int .u8 p] w fun e w' => e = .returned (.tuple #[.int .u8 (sbcV a m p), .int .u8 (sbcF a m p)]) ∧ w = w' := by
  cases hd : has p 8
  · exact rsbc_bin a m p w ha hm hp hd
  · exact rsbc_dec a m p w ha hm hp hd

set_option maxHeartbeats 3200000 in
theorem adds_walk (a m p : Int) (w : World) (ha : By a) (hm : By m) (hp : By p) :
    Calls Try.prog 5 #[.int .u8 a, .int .u8 m, .int .u8 p] w fun e w' => e = .returned (.bool true) ∧ Below w.heap.size w w' := by
  go_enter Try.func5, Try.ntmps5
  go_wp2_with fail
  go_at_call 11
  refine (awake_any _).mono ?_
  rintro e w1 ⟨rfl, hb1⟩
  go_wp2_with fail
  go_at_call 20
  refine (adc_any _ _ _ _ ha hm hp).mono ?_
  rintro e w2 ⟨rfl, hb2⟩
  have hb12 := hb1.trans (hb2.mono hb1.size)
  go_wp2_with fail
  go_at_call 21
  refine (radc_any _ _ _ _ ha hm hp).mono ?_
  rintro e w' ⟨rfl, rfl⟩
  go_wp2_with fail
  go_at_call 22
  refine (sbc_any _ _ _ _ ha hm hp).mono ?_
  rintro e w3 ⟨rfl, hb3⟩
  have hb13 := hb12.trans (hb3.mono hb12.size)
  go_wp2_with fail
  go_at_call 23
  refine (rsbc_any _ _ _ _ ha hm hp).mono ?_
  rintro e w' ⟨rfl, rfl⟩
  go_wp2
  go_ret
  exact ⟨rfl, hb13⟩
end Go.Proofs.Ytdenknpjgeomhaa.Own

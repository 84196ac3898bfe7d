/- Contracts of Sbc and of Arr. Conditions: bytes are bytes. -/
import Derived.Test.YtdenknpjgeomhaaAdc
import Derived.Laws.Unary
namespace Go.Proofs.Ytdenknpjgeomhaa.Own
open Go.RowKit

theorem not_byte {m : Int} (hm : By m) : Op.unary .xor (.int .u8 m) = pure (.int .u8 (255 - m)) := by
  have : Go.bits .xor .u8 255 m = 255 - m := byte_all (P := fun m => Go.bits .xor .u8 255 m = 255 - m) (by decide +kernel) hm
  rw [← this]
  rfl
set_option maxHeartbeats 1600000 in
theorem sbc_bin (a m p : Int) (w : World) (ha : By a) (hm : By m) (hp : By p) (hd : has p 8 = false) :
    Calls Try.prog 22 #[.int .u8 a, .int .u8 m, .int .u8 p] w fun e w' => e = .returned (.tuple #[.int .u8 (sbcV a m p), .int .u8 (sbcF a m p)]) ∧ Below w.heap.size w w' := by
  have hq := has_p hp (.inr (.inr (.inl rfl)))
  have h8 := flag_not hp (.inr (.inr (.inl rfl)))
  have hx := not_byte hm
  have hn : By (255 - m) := by unfold By at *; omega
  rw [hd] at hq
  unfold sbcV sbcF
  rw [hd]
  simp only [Bool.false_eq_true, if_false]
  clear hd
  go_enter Try.func22, Try.ntmps22
  go_wp2_with fail
  go_at_call 20
  refine (adc_any _ _ _ _ ha hn (fl_by hp (.inr (.inr (.inl rfl))) _)).mono ?_
  rintro e w1 ⟨rfl, hb1⟩
  go_wp2
  go_ret2
  exact ⟨rfl, hb1⟩
theorem ret_pair {k l : IntKind} {a b c : Int} (h : a = b) : Ending.returned (.tuple #[.int k a, .int l c]) = .returned (.tuple #[.int k b, .int l c]) := by rw [h]
theorem i64_low_neg {x : Int} (h : -32 < x ∧ x ≤ 0) : Go.bits .and .i64 x 15 = x % 16 := by
  have key : ∀ k : Fin 32, Go.bits .and .i64 (-((k.val : Nat) : Int)) 15 = (-((k.val : Nat) : Int)) % 16 := by decide +kernel
  obtain ⟨n, hn, hx⟩ : ∃ n : Nat, n < 32 ∧ x = -(n : Int) := ⟨(-x).toNat, by omega, by omega⟩
  rw [hx]
  exact key ⟨n, hn⟩
set_option maxHeartbeats 6400000 in
theorem sbc_dec (a m p : Int) (w : World) (ha : By a) (hm : By m) (hp : By p) (hd : has p 8 = true) :
    Calls Try.prog 22 #[.int .u8 a, .int .u8 m, .int .u8 p] w fun e w' => e = .returned (.tuple #[.int .u8 (sbcV a m p), .int .u8 (sbcF a m p)]) ∧ Below w.heap.size w w' := by
  have hq := has_p hp (.inr (.inr (.inl rfl)))
  have h8 := flag_not hp (.inr (.inr (.inl rfl)))
  have hx := not_byte hm
  have hn : By (255 - m) := by unfold By at *; omega
  have hF := adcF_by (a := a) (m := 255 - m) (fl_by hp (.inr (.inr (.inl rfl))) false)
  have h80 := flag_or hF (.inr (.inr (.inl rfl)))
  have h1 := i64_low (a := a) ⟨ha.1, by have := ha.2; omega⟩
  have h2 := i64_low (a := m) ⟨hm.1, by have := hm.2; omega⟩
  have h3 := i64_high ha
  have h4 := i64_high hm
  obtain ⟨c, hc⟩ : ∃ c, p % 2 = c := ⟨_, rfl⟩
  have hcb : 0 ≤ c ∧ c < 2 := by omega
  rw [hd] at hq
  unfold sbcV sbcF
  rw [hd, hc]
  simp only [if_true]
  clear hd
  unfold sbcE midS lowS
  have ha' := ha
  have hm' := hm
  obtain ⟨ha0, ha1⟩ := ha'
  obtain ⟨hm0, hm1⟩ := hm'
  obtain ⟨hc0, hc1⟩ := hcb
  have HC := Lib.hid hc
  clear hc
  by_cases k1 : a % 16 - m % 16 + c - 1 < 0
  · have h5 := i64_low_neg (x := a % 16 - m % 16 + c - 1 - 6) (by omega)
    rw [if_pos k1]
    have k1b : decide (a % 16 - m % 16 + c - 1 < 0) = true := by simpa using k1
    by_cases k2 : a - a % 16 - (m - m % 16) + ((a % 16 - m % 16 + c - 1 - 6) % 16 - 16) < 0
    · rw [if_pos k2]
      have k2b : decide (a - a % 16 - (m - m % 16) + ((a % 16 - m % 16 + c - 1 - 6) % 16 - 15 - 1) < 0) = true := by rw [show (a % 16 - m % 16 + c - 1 - 6) % 16 - 15 - 1 = (a % 16 - m % 16 + c - 1 - 6) % 16 - 16 from by omega]; simpa using k2
      clear k1 k2
      go_enter Try.func22, Try.ntmps22
      go_wp2_with fail
      clear hx h8
      go_at_call 20
      refine (adc_any _ _ _ _ ha hn (fl_by hp (.inr (.inr (.inl rfl))) _)).mono ?_
      rintro e w1 ⟨rfl, hb1⟩
      go_wp2_with fail
      go_at_call 37
      refine (operand_any _ _ _ _ ha hm hp).mono ?_
      rintro e w2 ⟨rfl, hb2⟩
      rw [HC.out]
      go_wp2
      go_ret2
      have hbb := hb1.trans (hb2.mono hb1.size)
      exact ⟨ret_pair (by omega), hbb.alloc hbb.size _⟩
    · rw [if_neg k2]
      have k2b : decide (a - a % 16 - (m - m % 16) + ((a % 16 - m % 16 + c - 1 - 6) % 16 - 15 - 1) < 0) = false := by rw [show (a % 16 - m % 16 + c - 1 - 6) % 16 - 15 - 1 = (a % 16 - m % 16 + c - 1 - 6) % 16 - 16 from by omega]; simpa using k2
      have HK := Lib.hid k2
      clear k1 k2
      go_enter Try.func22, Try.ntmps22
      go_wp2_with fail
      clear hx h8
      go_at_call 20
      refine (adc_any _ _ _ _ ha hn (fl_by hp (.inr (.inr (.inl rfl))) _)).mono ?_
      rintro e w1 ⟨rfl, hb1⟩
      go_wp2_with fail
      go_at_call 37
      refine (operand_any _ _ _ _ ha hm hp).mono ?_
      rintro e w2 ⟨rfl, hb2⟩
      rw [HC.out]
      go_wp2
      go_ret2
      have hbb := hb1.trans (hb2.mono hb1.size)
      have hk := HK.out
      exact ⟨ret_pair (by omega), hbb.alloc hbb.size _⟩
  · rw [if_neg k1]
    have k1b : decide (a % 16 - m % 16 + c - 1 < 0) = false := by simpa using k1
    by_cases k2 : a - a % 16 - (m - m % 16) + (a % 16 - m % 16 + c - 1) < 0
    · rw [if_pos k2]
      have k2b : decide (a - a % 16 - (m - m % 16) + (a % 16 - m % 16 + c - 1) < 0) = true := by simpa using k2
      clear k1 k2
      go_enter Try.func22, Try.ntmps22
      go_wp2_with fail
      clear hx h8
      go_at_call 20
      refine (adc_any _ _ _ _ ha hn (fl_by hp (.inr (.inr (.inl rfl))) _)).mono ?_
      rintro e w1 ⟨rfl, hb1⟩
      go_wp2_with fail
      go_at_call 37
      refine (operand_any _ _ _ _ ha hm hp).mono ?_
      rintro e w2 ⟨rfl, hb2⟩
      rw [HC.out]
      go_wp2
      go_ret2
      have hbb := hb1.trans (hb2.mono hb1.size)
      exact ⟨ret_pair (by omega), hbb.alloc hbb.size _⟩
    · rw [if_neg k2]
      have k2b : decide (a - a % 16 - (m - m % 16) + (a % 16 - m % 16 + c - 1) < 0) = false := by simpa using k2
      have HK := Lib.hid k2
      clear k1 k2
      go_enter Try.func22, Try.ntmps22
      go_wp2_with fail
      clear hx h8
      go_at_call 20
      refine (adc_any _ _ _ _ ha hn (fl_by hp (.inr (.inr (.inl rfl))) _)).mono ?_
      rintro e w1 ⟨rfl, hb1⟩
      go_wp2_with fail
      go_at_call 37
      refine (operand_any _ _ _ _ ha hm hp).mono ?_
      rintro e w2 ⟨rfl, hb2⟩
      rw [HC.out]
      go_wp2
      go_ret2
      have hbb := hb1.trans (hb2.mono hb1.size)
      have hk := HK.out
      exact ⟨ret_pair (by omega), hbb.alloc hbb.size _⟩
theorem sbc_any (a m p : Int) (w : World) (ha : By a) (hm : By m) (hp : By p) :
    Calls Try.prog 22 #[.int .u8 a, .int .u8 m, .int .u8 p] w fun e w' => e = .returned (.tuple #[.int .u8 (sbcV a m p), .int .u8 (sbcF a m p)]) ∧ Below w.heap.size w w' := by
  cases hd : has p 8
  · exact sbc_bin a m p w ha hm hp hd
  · exact sbc_dec a m p w ha hm hp hd

theorem xor_bit6 (a b : Nat) : (a ^^^ b) / 64 % 2 = (a / 64 + b / 64) % 2 := by
  have h := Nat.testBit_xor a b 6
  rw [Nat.testBit_eq_decide_div_mod_eq, Nat.testBit_eq_decide_div_mod_eq, Nat.testBit_eq_decide_div_mod_eq] at h
  rw [show 2 ^ 6 = 64 from rfl] at h
  rcases Nat.mod_two_eq_zero_or_one (a / 64) with ha | ha <;> rcases Nat.mod_two_eq_zero_or_one (b / 64) with hb | hb <;> simp [ha, hb] at h <;> omega
theorem xor_v {t n : Int} (ht : By t) (hn : By n) : (Go.bits .and .u8 (Go.bits .xor .u8 t n) 64 != 0) = (has t 64 != has n 64) := by
  obtain ⟨x, rfl, hx⟩ := nat_of (n := 256) ht
  obtain ⟨y, rfl, hy⟩ := nat_of (n := 256) hn
  have h1 : x ^^^ y < 2 ^ 8 := Nat.xor_lt_two_pow (by omega) (by omega)
  rw [u8_xor_nat x y hx hy, show (64 : Int) = ((64 : Nat) : Int) from rfl, u8_and_nat _ 64 (by omega) (by omega), show (64 : Nat) = 2 ^ 6 from rfl, nat_bit, show 2 ^ 6 = 64 from rfl, xor_bit6]
  have e1 : (x / 64 + y / 64) % 2 = (x / 64 % 2 + y / 64 % 2) % 2 := by omega
  have hX : (x : Int) / ((64 : Nat) : Int) % 2 = ((x / 64 % 2 : Nat) : Int) := by omega
  have hY : (y : Int) / ((64 : Nat) : Int) % 2 = ((y / 64 % 2 : Nat) : Int) := by omega
  unfold has
  rw [hX, hY, e1]
  rcases Nat.mod_two_eq_zero_or_one (x / 64) with ha | ha <;> rcases Nat.mod_two_eq_zero_or_one (y / 64) with hb | hb <;> rw [ha, hb] <;> rfl
theorem has_xor {n : Int} (hn : By n) : (Go.bits .and .u8 (Go.bits .xor .u8 n (n * 2 % 256)) 64 != 0) = (has n 64 != has n 32) :=
  byte_all (P := fun n => (Go.bits .and .u8 (Go.bits .xor .u8 n (n * 2 % 256)) 64 != 0) = (has n 64 != has n 32)) (by decide +kernel) hn
theorem u8_low {n : Int} (hn : By n) : Go.bits .and .u8 n 15 = n % 16 := byte_all (P := fun n => Go.bits .and .u8 n 15 = n % 16) (by decide +kernel) hn
theorem u8_high {n : Int} (hn : By n) : Go.bits .and .u8 n 240 = n - n % 16 := byte_all (P := fun n => Go.bits .and .u8 n 240 = n - n % 16) (by decide +kernel) hn
theorem u8_16 {n : Int} (hn : By n) : Go.bits .and .u8 n 16 = 16 * (n / 16 % 2) := byte_all (P := fun n => Go.bits .and .u8 n 16 = 16 * (n / 16 % 2)) (by decide +kernel) hn
theorem u8_six {n : Int} (hn : By n) : Go.bits .and .u8 ((n + 6) % 256) 15 = (n + 6) % 16 := byte_all (P := fun n => Go.bits .and .u8 ((n + 6) % 256) 15 = (n + 6) % 16) (by decide +kernel) hn
theorem u8_fix {n : Int} (hn : By n) : Go.bits .or .u8 (n - n % 16) ((n + 6) % 16) = n - n % 16 + (n + 6) % 16 :=
  byte_all (P := fun n => Go.bits .or .u8 (n - n % 16) ((n + 6) % 16) = n - n % 16 + (n + 6) % 16) (by decide +kernel) hn

set_option maxHeartbeats 3200000 in
theorem arr_bin (a m p : Int) (w : World) (ha : By a) (hm : By m) (hp : By p) (hd : has p 8 = false) :
    Calls Try.prog 26 #[.int .u8 a, .int .u8 m, .int .u8 p] w fun e w' => e = .returned (.tuple #[.int .u8 (arrV a m p), .int .u8 (arrF a m p)]) ∧ w = w' := by
  have h1 : Go.bits .and .u8 a m = land a m := u8_and a m ha.1 ha.2 hm.1 hm.2
  have hq := has_p hp (.inr (.inr (.inl rfl)))
  rw [hd] at hq
  unfold arrV arrF arrR
  rw [hd]
  simp only [Bool.false_eq_true, if_false]
  clear hd
  have ht : By (land a m) := land_by ha
  have hn : By (rorV (land a m) p) := rorV_by ht p
  have HR := Lib.hid (show ∀ w, Calls Try.prog 18 #[.int .u8 (land a m), .int .u8 p] w fun e w' => e = .returned (.tuple #[.int .u8 (rorV (land a m) p), .int .u8 (rorF (land a m) p)]) ∧ w = w' from fun w => ror_any _ _ w ht hp)
  have h2 := and_has hn (.inr (.inr (.inr (.inl rfl))))
  have h3 := has_xor hn
  generalize rorV (land a m) p = n at *
  generalize rorF (land a m) p = nf at *
  generalize land a m = t at *
  obtain ⟨hn0, hn1⟩ := hn
  go_enter Try.func26, Try.ntmps26
  go_wp2_with fail
  go_at_call 18
  refine (HR.out _).mono ?_
  rintro e w' ⟨rfl, rfl⟩
  go_wp2_with fail
  go_at_call 29
  refine (nz_any _ _ _ hp).mono ?_
  rintro e w' ⟨rfl, rfl⟩
  go_wp2_with fail
  go_at_call 40
  refine (flag_any _ _ _ _ (nz_by hp _) (.inl rfl)).mono ?_
  rintro e w' ⟨rfl, rfl⟩
  go_wp2_with fail
  go_at_call 40
  refine (flag_any _ _ _ _ (fl_by (nz_by hp _) (.inl rfl) _) (.inr (.inr (.inr (.inl rfl))))).mono ?_
  rintro e w' ⟨rfl, rfl⟩
  go_wp2
  go_ret2
  exact ⟨rfl, rfl⟩
theorem ret_pair2 {k l : IntKind} {a b c d : Int} (h : a = b) (g : c = d) : Ending.returned (.tuple #[.int k a, .int l c]) = .returned (.tuple #[.int k b, .int l d]) := by rw [h, g]
set_option maxHeartbeats 6400000 in
theorem arr_dec (a m p : Int) (w : World) (ha : By a) (hm : By m) (hp : By p) (hd : has p 8 = true) :
    Calls Try.prog 26 #[.int .u8 a, .int .u8 m, .int .u8 p] w fun e w' => e = .returned (.tuple #[.int .u8 (arrV a m p), .int .u8 (arrF a m p)]) ∧ w = w' := by
  have h1 : Go.bits .and .u8 a m = land a m := u8_and a m ha.1 ha.2 hm.1 hm.2
  have hq := has_p hp (.inr (.inr (.inl rfl)))
  rw [hd] at hq
  unfold arrV arrF arrN arrH arrR
  rw [hd]
  simp only [if_true]
  clear hd
  have ht : By (land a m) := land_by ha
  have hn : By (rorV (land a m) p) := rorV_by ht p
  have HR := Lib.hid (show ∀ w, Calls Try.prog 18 #[.int .u8 (land a m), .int .u8 p] w fun e w' => e = .returned (.tuple #[.int .u8 (rorV (land a m) p), .int .u8 (rorF (land a m) p)]) ∧ w = w' from fun w => ror_any _ _ w ht hp)
  have h2 := xor_v ht hn
  have h3 := u8_low ht
  have h4 := and_one ht
  have h5 := u8_high hn
  have h6 := u8_six hn
  have h7 := u8_fix hn
  have h8 := u8_high ht
  have h9 := u8_16 ht
  generalize rorV (land a m) p = n at *
  generalize rorF (land a m) p = nf at *
  generalize land a m = t at *
  have g1 := flag_or (fl_by (nz_by hp n) (.inr (.inr (.inr (.inl rfl)))) (has t 64 != has n 64)) (.inl rfl)
  have g2 := flag_not (fl_by (nz_by hp n) (.inr (.inr (.inr (.inl rfl)))) (has t 64 != has n 64)) (.inl rfl)
  obtain ⟨hn0, hn1⟩ := hn
  obtain ⟨ht0, ht1⟩ := ht
  by_cases k1 : t % 16 + t % 2 > 5
  · rw [if_pos k1]
    have k1b : decide (5 < t % 16 + t % 2) = true := by simpa using k1
    by_cases k2 : 80 < t - t % 16 + 16 * (t / 16 % 2)
    · have k2b : decide (80 < t - t % 16 + 16 * (t / 16 % 2)) = true := by simpa using k2
      rw [k2b]
      simp only [if_true]
      clear k1 k2
      go_enter Try.func26, Try.ntmps26
      go_wp2_with fail
      go_at_call 18
      refine (HR.out _).mono ?_
      rintro e w' ⟨rfl, rfl⟩
      go_wp2_with fail
      go_at_call 29
      refine (nz_any _ _ _ hp).mono ?_
      rintro e w' ⟨rfl, rfl⟩
      go_wp2_with fail
      go_at_call 40
      refine (flag_any _ _ _ _ (nz_by hp _) (.inr (.inr (.inr (.inl rfl))))).mono ?_
      rintro e w' ⟨rfl, rfl⟩
      go_wp2
      go_ret2
      exact ⟨ret_pair2 (by omega) rfl, rfl⟩
    · have k2b : decide (80 < t - t % 16 + 16 * (t / 16 % 2)) = false := by simpa using k2
      rw [k2b]
      simp only [Bool.false_eq_true, if_false]
      clear k1 k2
      go_enter Try.func26, Try.ntmps26
      go_wp2_with fail
      go_at_call 18
      refine (HR.out _).mono ?_
      rintro e w' ⟨rfl, rfl⟩
      go_wp2_with fail
      go_at_call 29
      refine (nz_any _ _ _ hp).mono ?_
      rintro e w' ⟨rfl, rfl⟩
      go_wp2_with fail
      go_at_call 40
      refine (flag_any _ _ _ _ (nz_by hp _) (.inr (.inr (.inr (.inl rfl))))).mono ?_
      rintro e w' ⟨rfl, rfl⟩
      go_wp2
      go_ret2
      exact ⟨ret_pair2 (by omega) rfl, rfl⟩
  · rw [if_neg k1]
    have k1b : decide (5 < t % 16 + t % 2) = false := by simpa using k1
    by_cases k2 : 80 < t - t % 16 + 16 * (t / 16 % 2)
    · have k2b : decide (80 < t - t % 16 + 16 * (t / 16 % 2)) = true := by simpa using k2
      rw [k2b]
      simp only [if_true]
      clear k1 k2
      go_enter Try.func26, Try.ntmps26
      go_wp2_with fail
      go_at_call 18
      refine (HR.out _).mono ?_
      rintro e w' ⟨rfl, rfl⟩
      go_wp2_with fail
      go_at_call 29
      refine (nz_any _ _ _ hp).mono ?_
      rintro e w' ⟨rfl, rfl⟩
      go_wp2_with fail
      go_at_call 40
      refine (flag_any _ _ _ _ (nz_by hp _) (.inr (.inr (.inr (.inl rfl))))).mono ?_
      rintro e w' ⟨rfl, rfl⟩
      go_wp2
      go_ret2
      exact ⟨rfl, rfl⟩
    · have k2b : decide (80 < t - t % 16 + 16 * (t / 16 % 2)) = false := by simpa using k2
      rw [k2b]
      simp only [Bool.false_eq_true, if_false]
      clear k1 k2
      go_enter Try.func26, Try.ntmps26
      go_wp2_with fail
      go_at_call 18
      refine (HR.out _).mono ?_
      rintro e w' ⟨rfl, rfl⟩
      go_wp2_with fail
      go_at_call 29
      refine (nz_any _ _ _ hp).mono ?_
      rintro e w' ⟨rfl, rfl⟩
      go_wp2_with fail
      go_at_call 40
      refine (flag_any _ _ _ _ (nz_by hp _) (.inr (.inr (.inr (.inl rfl))))).mono ?_
      rintro e w' ⟨rfl, rfl⟩
      go_wp2
      go_ret2
      exact ⟨rfl, rfl⟩
theorem arr_any (a m p : Int) (w : World) (ha : By a) (hm : By m) (hp : By p) :
    Calls Try.prog 26 #[.int .u8 a, .int .u8 m, .int .u8 p] w fun e w' => e = .returned (.tuple #[.int .u8 (arrV a m p), .int .u8 (arrF a m p)]) ∧ w = w' := by
  cases hd : has p 8
  · exact arr_bin a m p w ha hm hp hd
  · exact arr_dec a m p w ha hm hp hd
end Go.Proofs.Ytdenknpjgeomhaa.Own

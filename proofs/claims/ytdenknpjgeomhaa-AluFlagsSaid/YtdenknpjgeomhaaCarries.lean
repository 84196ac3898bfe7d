/- A sum is what is carried and the result; numbers of two decimal digits are added, and taken away, as such: the walks. Conditions: bytes are bytes. -/
import Derived.Test.YtdenknpjgeomhaaSbcArr
namespace Go.Proofs.Ytdenknpjgeomhaa.Own
open Go.RowKit

theorem keep60 {p f : Int} (hp : By p) (hf : f = 1 ∨ f = 2 ∨ f = 64 ∨ f = 128) (is : Bool) : Go.bits .and .u8 (fl p f is) 60 = Go.bits .and .u8 p 60 := by
  cases is <;> rcases hf with rfl | rfl | rfl | rfl
  · exact byte_all (P := fun p => Go.bits .and .u8 (fl p 1 false) 60 = Go.bits .and .u8 p 60) (by decide +kernel) hp
  · exact byte_all (P := fun p => Go.bits .and .u8 (fl p 2 false) 60 = Go.bits .and .u8 p 60) (by decide +kernel) hp
  · exact byte_all (P := fun p => Go.bits .and .u8 (fl p 64 false) 60 = Go.bits .and .u8 p 60) (by decide +kernel) hp
  · exact byte_all (P := fun p => Go.bits .and .u8 (fl p 128 false) 60 = Go.bits .and .u8 p 60) (by decide +kernel) hp
  · exact byte_all (P := fun p => Go.bits .and .u8 (fl p 1 true) 60 = Go.bits .and .u8 p 60) (by decide +kernel) hp
  · exact byte_all (P := fun p => Go.bits .and .u8 (fl p 2 true) 60 = Go.bits .and .u8 p 60) (by decide +kernel) hp
  · exact byte_all (P := fun p => Go.bits .and .u8 (fl p 64 true) 60 = Go.bits .and .u8 p 60) (by decide +kernel) hp
  · exact byte_all (P := fun p => Go.bits .and .u8 (fl p 128 true) 60 = Go.bits .and .u8 p 60) (by decide +kernel) hp
theorem sums60 {a m c s p : Int} (hp : By p) : Go.bits .and .u8 (sumsF a m c s p) 60 = Go.bits .and .u8 p 60 := by
  unfold sumsF
  have h1 := fl_by hp (.inr (.inr (.inr (.inr rfl)))) (has s 128)
  have h2 := fl_by h1 (.inr (.inr (.inr (.inl rfl)))) (ovr a m s)
  rw [keep60 h2 (.inr (.inl rfl)), keep60 h1 (.inr (.inr (.inl rfl))), keep60 hp (.inr (.inr (.inr rfl)))]
theorem adc60 {a m p : Int} (hp : By p) : Go.bits .and .u8 (adcF a m p) 60 = Go.bits .and .u8 p 60 := by
  unfold adcF
  rw [keep60 (sumsF_by hp) (.inl rfl), sums60 hp]
theorem fl_one (p : Int) (is : Bool) : fl p 1 is % 2 = if is then 1 else 0 := by
  unfold fl
  cases is <;> simp <;> omega
theorem adc_c {a m p : Int} (hp : By p) : Go.bits .and .u8 (adcF a m p) 1 = if 255 < adcE a m p then 1 else 0 := by
  rw [and_one (adcF_by hp)]
  unfold adcF
  rw [fl_one]
  simp
theorem no8 {p : Int} (hp : By p) : has (fl p 8 false) 8 = false := byte_all (P := fun p => has (fl p 8 false) 8 = false) (by decide +kernel) hp
theorem no8_no8 {p : Int} (h : has p 8 = false) : fl p 8 false = p := by
  unfold fl
  have : p / 8 % 2 = 0 := by
    unfold has at h
    simp at h
    omega
  rw [this]
  simp

set_option maxHeartbeats 3200000 in
theorem carries_walk (a m p : Int) (w : World) (ha : By a) (hm : By m) (hp : By p) :
    Calls Try.prog 6 #[.int .u8 a, .int .u8 m, .int .u8 p] w fun e w' => e = .returned (.bool true) ∧ Below w.heap.size w w' := by
  have hq : By (fl p 8 false) := fl_by hp (.inr (.inr (.inl rfl))) false
  have hd := no8 hp
  have h8 := flag_not hp (.inr (.inr (.inl rfl)))
  generalize fl p 8 false = q at *
  have hone := and_one hq
  have hc : 0 ≤ q % 2 ∧ q % 2 < 2 := by omega
  have hE : adcE a m q = a + m + q % 2 := by unfold adcE adcM; rw [if_neg (by simp [hd]), hd]; rfl
  have hE' : adcE a (255 - m) q = a + (255 - m) + q % 2 := by unfold adcE adcM; rw [if_neg (by simp [hd]), hd]; rfl
  have hX : adcV a m q = (a + m + q % 2) % 256 := by unfold adcV; rw [hE]
  have hY : sbcV a m q = (a + (255 - m) + q % 2) % 256 := by unfold sbcV; rw [hd]; simp only [Bool.false_eq_true, if_false]; rw [no8_no8 hd]; unfold adcV; rw [hE']
  have hG : sbcF a m q = adcF a (255 - m) q := by unfold sbcF; rw [hd]; simp only [Bool.false_eq_true, if_false]; rw [no8_no8 hd]
  have hf1 : Go.bits .and .u8 (adcF a m q) 1 = if 255 < a + m + q % 2 then 1 else 0 := by rw [adc_c hq, hE]
  have hg1 : Go.bits .and .u8 (sbcF a m q) 1 = if 255 < a + (255 - m) + q % 2 then 1 else 0 := by rw [hG, adc_c hq, hE']
  have hf60 : Go.bits .and .u8 (adcF a m q) 60 = Go.bits .and .u8 q 60 := adc60 hq
  have hg60 : Go.bits .and .u8 (sbcF a m q) 60 = Go.bits .and .u8 q 60 := by rw [hG]; exact adc60 hq
  have HA := Lib.hid (show ∀ w, Calls Try.prog 20 #[.int .u8 a, .int .u8 m, .int .u8 q] w fun e w' => e = .returned (.tuple #[.int .u8 (adcV a m q), .int .u8 (adcF a m q)]) ∧ Below w.heap.size w w' from fun w => adc_any a m q w ha hm hq)
  have HS := Lib.hid (show ∀ w, Calls Try.prog 22 #[.int .u8 a, .int .u8 m, .int .u8 q] w fun e w' => e = .returned (.tuple #[.int .u8 (sbcV a m q), .int .u8 (sbcF a m q)]) ∧ Below w.heap.size w w' from fun w => sbc_any a m q w ha hm hq)
  clear hE hE' hG hd
  generalize adcV a m q = X at *
  generalize sbcV a m q = Y at *
  generalize adcF a m q = F at *
  generalize sbcF a m q = G at *
  generalize hfe : Go.bits .and .u8 F 1 = f at hf1
  generalize hge : Go.bits .and .u8 G 1 = g at hg1
  have t1 : X + 256 * f = a + m + q % 2 := by rw [hX, hf1]; unfold By at *; split <;> omega
  have t2 : Y - 256 * (1 - g) = a - m - (1 - q % 2) := by rw [hY, hg1]; unfold By at *; split <;> omega
  have hXb : 0 ≤ X ∧ X < 256 := by omega
  have hYb : 0 ≤ Y ∧ Y < 256 := by omega
  have hfb : 0 ≤ f ∧ f < 2 := by rw [hf1]; split <;> omega
  have hgb : 0 ≤ g ∧ g < 2 := by rw [hg1]; split <;> omega
  generalize q % 2 = c at *
  clear hX hY hf1 hg1
  have t1b : (X + 256 * f == a + m + c) = true := by simpa using t1
  have t2b : (Y - 256 * (1 - g) == a - m - (1 - c)) = true := by simpa using t2
  clear t1 t2
  obtain ⟨ha0, ha1⟩ := ha
  obtain ⟨hm0, hm1⟩ := hm
  obtain ⟨hX0, hX1⟩ := hXb
  obtain ⟨hY0, hY1⟩ := hYb
  obtain ⟨hf0, hf1⟩ := hfb
  obtain ⟨hg0, hg1⟩ := hgb
  obtain ⟨hc0, hc1⟩ := hc
  go_enter Try.func6, Try.ntmps6
  go_wp2_with fail
  go_at_call 11
  refine (awake_any _).mono ?_
  rintro e w1 ⟨rfl, hb1⟩
  go_wp2_with fail
  go_at_call 20
  refine (HA.out _).mono ?_
  rintro e w2 ⟨rfl, hb2⟩
  have hb12 := hb1.trans (hb2.mono hb1.size)
  go_wp2_with fail
  go_at_call 22
  refine (HS.out _).mono ?_
  rintro e w3 ⟨rfl, hb3⟩
  have hb13 := hb12.trans (hb3.mono hb12.size)
  go_wp2
  go_ret
  exact ⟨rfl, hb13⟩
end Go.Proofs.Ytdenknpjgeomhaa.Own

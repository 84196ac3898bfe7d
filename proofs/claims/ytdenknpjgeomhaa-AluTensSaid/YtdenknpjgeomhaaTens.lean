/- Numbers of two decimal digits are added, and taken away, as such: the walk. Conditions: bytes are bytes. -/
import Derived.Test.YtdenknpjgeomhaaCarries
namespace Go.Proofs.Ytdenknpjgeomhaa.Own
open Go.RowKit

theorem has8 {p : Int} (hp : By p) : has (fl p 8 true) 8 = true := byte_all (P := fun p => has (fl p 8 true) 8 = true) (by decide +kernel) hp
def bcd (x : Int) : Int := x / 10 * 16 + x % 10
theorem tens_add' (xt xu yt yu c : Int) (h1 : 0 ≤ xt ∧ xt < 10) (h2 : 0 ≤ xu ∧ xu < 10) (h3 : 0 ≤ yt ∧ yt < 10) (h4 : 0 ≤ yu ∧ yu < 10) (hc : 0 ≤ c ∧ c < 2) (M E S : Int)
    (hM : M = (xt + yt) * 16 + (if xu + yu + c ≥ 10 then xu + yu + c + 6 else xu + yu + c)) (hE : E = if M ≥ 160 then M + 96 else M) (hS : S = 10 * (xt + yt) + (xu + yu + c)) :
    E % 256 = S % 100 / 10 * 16 + S % 10 ∧ (if 255 < E then 1 else 0) = S / 100 := by
  by_cases k1 : xu + yu + c ≥ 10
  · rw [if_pos k1] at hM
    by_cases k2 : M ≥ 160
    · rw [if_pos k2] at hE
      rw [if_pos (by omega)]
      have a1 : S / 100 = 1 := by omega
      have a2 : S % 10 = xu + yu + c - 10 := by omega
      have a3 : S % 100 / 10 = xt + yt + 1 - 10 := by omega
      rw [a1, a2, a3]
      omega
    · rw [if_neg k2] at hE
      rw [if_neg (by omega)]
      have a1 : S / 100 = 0 := by omega
      have a2 : S % 10 = xu + yu + c - 10 := by omega
      have a3 : S % 100 / 10 = xt + yt + 1 := by omega
      rw [a1, a2, a3]
      omega
  · rw [if_neg k1] at hM
    by_cases k2 : M ≥ 160
    · rw [if_pos k2] at hE
      rw [if_pos (by omega)]
      have a1 : S / 100 = 1 := by omega
      have a2 : S % 10 = xu + yu + c := by omega
      have a3 : S % 100 / 10 = xt + yt - 10 := by omega
      rw [a1, a2, a3]
      omega
    · rw [if_neg k2] at hE
      rw [if_neg (by omega)]
      have a1 : S / 100 = 0 := by omega
      have a2 : S % 10 = xu + yu + c := by omega
      have a3 : S % 100 / 10 = xt + yt := by omega
      rw [a1, a2, a3]
      omega
theorem bcd_low (x : Int) : bcd x % 16 = x % 10 := by unfold bcd; omega
theorem bcd_high (x : Int) : bcd x - bcd x % 16 = x / 10 * 16 := by unfold bcd; omega
theorem midD_bcd (x y c : Int) (hc : 0 ≤ c ∧ c < 2) : midD (bcd x) (bcd y) c = (x / 10 + y / 10) * 16 + (if x % 10 + y % 10 + c ≥ 10 then x % 10 + y % 10 + c + 6 else x % 10 + y % 10 + c) := by
  unfold midD lowD
  rw [bcd_high, bcd_high, bcd_low, bcd_low]
  split <;> omega
theorem tens_add (x y c : Int) (hx : 0 ≤ x ∧ x < 100) (hy : 0 ≤ y ∧ y < 100) (hc : 0 ≤ c ∧ c < 2) (E : Int) (hE : E = if midD (bcd x) (bcd y) c ≥ 160 then midD (bcd x) (bcd y) c + 96 else midD (bcd x) (bcd y) c) :
    E % 256 = (x + y + c) % 100 / 10 * 16 + (x + y + c) % 10 ∧ (if 255 < E then 1 else 0) = (x + y + c) / 100 :=
  tens_add' (x / 10) (x % 10) (y / 10) (y % 10) c (by omega) (by omega) (by omega) (by omega) hc _ E _ (midD_bcd x y c hc) hE (by omega)
theorem midS_bcd (x y c : Int) (hc : 0 ≤ c ∧ c < 2) : midS (bcd x) (bcd y) c = (x / 10 - y / 10) * 16 + (if x % 10 - y % 10 + c - 1 < 0 then x % 10 - y % 10 + c - 1 - 6 else x % 10 - y % 10 + c - 1) := by
  unfold midS lowS
  rw [bcd_high, bcd_high, bcd_low, bcd_low]
  split <;> omega
theorem tens_sub' (xt xu yt yu c : Int) (h1 : 0 ≤ xt ∧ xt < 10) (h2 : 0 ≤ xu ∧ xu < 10) (h3 : 0 ≤ yt ∧ yt < 10) (h4 : 0 ≤ yu ∧ yu < 10) (hc : 0 ≤ c ∧ c < 2) (M E S L : Int)
    (hM : M = (xt - yt) * 16 + (if xu - yu + c - 1 < 0 then xu - yu + c - 1 - 6 else xu - yu + c - 1)) (hE : E = if M < 0 then M - 96 else M) (hS : S = 10 * (xt - yt) + (xu - yu - 1 + c))
    (hL : L = if S < 0 then S + 100 else S) : E % 256 = L / 10 * 16 + L % 10 := by
  by_cases k1 : xu - yu + c - 1 < 0
  · rw [if_pos k1] at hM
    by_cases k2 : M < 0
    · rw [if_pos k2] at hE
      rw [if_pos (by omega)] at hL
      have a2 : L % 10 = xu - yu - 1 + c + 10 := by omega
      have a3 : L / 10 = xt - yt - 1 + 10 := by omega
      rw [a2, a3]
      omega
    · rw [if_neg k2] at hE
      rw [if_neg (by omega)] at hL
      have a2 : L % 10 = xu - yu - 1 + c + 10 := by omega
      have a3 : L / 10 = xt - yt - 1 := by omega
      rw [a2, a3]
      omega
  · rw [if_neg k1] at hM
    by_cases k2 : M < 0
    · rw [if_pos k2] at hE
      rw [if_pos (by omega)] at hL
      have a2 : L % 10 = xu - yu - 1 + c := by omega
      have a3 : L / 10 = xt - yt + 10 := by omega
      rw [a2, a3]
      omega
    · rw [if_neg k2] at hE
      rw [if_neg (by omega)] at hL
      have a2 : L % 10 = xu - yu - 1 + c := by omega
      have a3 : L / 10 = xt - yt := by omega
      rw [a2, a3]
      omega
theorem tens_sub (x y c : Int) (hx : 0 ≤ x ∧ x < 100) (hy : 0 ≤ y ∧ y < 100) (hc : 0 ≤ c ∧ c < 2) (L : Int) (hL : L = if x - y - 1 + c < 0 then x - y - 1 + c + 100 else x - y - 1 + c) :
    sbcE (bcd x) (bcd y) c % 256 = L / 10 * 16 + L % 10 :=
  tens_sub' (x / 10) (x % 10) (y / 10) (y % 10) c (by omega) (by omega) (by omega) (by omega) hc _ _ (x - y - 1 + c) L (midS_bcd x y c hc) rfl (by omega) hL
theorem tens_borrow (x y c : Int) (hc : 0 ≤ c ∧ c < 2) : (255 < bcd x + (255 - bcd y) + c) ↔ ¬ x - y - 1 + c < 0 := by unfold bcd; omega

theorem yes8 {p : Int} (hp : By p) : Go.bits .and .u8 (fl p 8 true) 8 = 8 := byte_all (P := fun p => Go.bits .and .u8 (fl p 8 true) 8 = 8) (by decide +kernel) hp
theorem flip8 {p : Int} (hp : By p) (h : has p 8 = true) : fl (fl p 8 false) 8 true = p := byte_all (P := fun p => has p 8 = true → fl (fl p 8 false) 8 true = p) (by decide +kernel) hp h
theorem one8 {p : Int} (hp : By p) (is : Bool) : fl p 8 is % 2 = p % 2 := by
  cases is
  · exact byte_all (P := fun p => fl p 8 false % 2 = p % 2) (by decide +kernel) hp
  · exact byte_all (P := fun p => fl p 8 true % 2 = p % 2) (by decide +kernel) hp
theorem bcd_by {x : Int} (hx : 0 ≤ x ∧ x < 100) : By (bcd x) := by unfold By bcd; omega
theorem and8_60 {p : Int} (hp : By p) : Go.bits .and .u8 p 8 = Go.bits .and .u8 (Go.bits .and .u8 p 60) 8 := byte_all (P := fun p => Go.bits .and .u8 p 8 = Go.bits .and .u8 (Go.bits .and .u8 p 60) 8) (by decide +kernel) hp
set_option maxHeartbeats 3200000 in
set_option maxRecDepth 100000 in
theorem tens_walk (a m p : Int) (w : World) (ha : By a) (hm : By m) (hp : By p) :
    Calls Try.prog 7 #[.int .u8 a, .int .u8 m, .int .u8 p] w fun e w' => e = .returned (.bool true) ∧ Below w.heap.size w w' := by
  have hq : By (fl p 8 true) := fl_by hp (.inr (.inr (.inl rfl))) true
  have hd := has8 hp
  have h8 := flag_or hp (.inr (.inr (.inl rfl)))
  generalize fl p 8 true = q at *
  have hone := and_one hq
  have hc : 0 ≤ q % 2 ∧ q % 2 < 2 := by omega
  have hxb : 0 ≤ a % 100 ∧ a % 100 < 100 := by omega
  have hyb : 0 ≤ m % 100 ∧ m % 100 < 100 := by omega
  generalize hxe : a % 100 = x at *
  generalize hye : m % 100 = y at *
  have hu : By (bcd x) := bcd_by hxb
  have hv : By (bcd y) := bcd_by hyb
  have hn : By (255 - bcd y) := by unfold By at *; omega
  have hq0 : By (fl q 8 false) := fl_by hq (.inr (.inr (.inl rfl))) false
  have hF : By (adcF (bcd x) (bcd y) q) := adcF_by hq
  have hF0 : By (adcF (bcd x) (255 - bcd y) (fl q 8 false)) := adcF_by hq0
  have hG : sbcF (bcd x) (bcd y) q = fl (adcF (bcd x) (255 - bcd y) (fl q 8 false)) 8 true := by unfold sbcF; rw [hd]; rfl
  have hEe : adcE (bcd x) (bcd y) q = if midD (bcd x) (bcd y) (q % 2) ≥ 160 then midD (bcd x) (bcd y) (q % 2) + 96 else midD (bcd x) (bcd y) (q % 2) := by
    unfold adcE adcM
    rw [hd]
    simp only [true_and, if_true]
  obtain ⟨t1, t2⟩ := tens_add x y (q % 2) hxb hyb hc _ hEe
  have hE0 : adcE (bcd x) (255 - bcd y) (fl q 8 false) = bcd x + (255 - bcd y) + q % 2 := by unfold adcE adcM; rw [if_neg (by simp [no8 hq]), no8 hq, one8 hq]; rfl
  have hf1 : Go.bits .and .u8 (adcF (bcd x) (bcd y) q) 1 = (x + y + q % 2) / 100 := by rw [adc_c hq, t2]
  have hg1 : Go.bits .and .u8 (sbcF (bcd x) (bcd y) q) 1 = if x - y - 1 + q % 2 < 0 then 0 else 1 := by
    rw [hG, and_one (fl_by hF0 (.inr (.inr (.inl rfl))) _), one8 hF0, ← and_one hF0, adc_c hq0, hE0]
    by_cases h : x - y - 1 + q % 2 < 0
    · rw [if_pos h, if_neg (fun h' => (tens_borrow x y (q % 2) hc).1 h' h)]
    · rw [if_neg h, if_pos ((tens_borrow x y (q % 2) hc).2 h)]
  have hf8 : Go.bits .and .u8 (adcF (bcd x) (bcd y) q) 8 = 8 := by
    rw [and8_60 hF, adc60 hq, ← and8_60 hq]
    have := and_has hq (.inr (.inr (.inl rfl)))
    rw [hd] at this
    exact byte_all (P := fun q => (Go.bits .and .u8 q 8 != 0) = true → Go.bits .and .u8 q 8 = 8) (by decide +kernel) hq this
  have hg8 : Go.bits .and .u8 (sbcF (bcd x) (bcd y) q) 8 = 8 := by rw [hG]; exact yes8 hF0
  have hX : adcV (bcd x) (bcd y) q = (x + y + q % 2) % 100 / 10 * 16 + (x + y + q % 2) % 10 := t1
  have hXb : By (adcV (bcd x) (bcd y) q) := mod_by _
  have hYe : sbcV (bcd x) (bcd y) q = sbcE (bcd x) (bcd y) (q % 2) % 256 := by unfold sbcV; rw [hd]; rfl
  have hYb : By (sbcV (bcd x) (bcd y) q) := by rw [hYe]; exact mod_by _
  have hY := tens_sub x y (q % 2) hxb hyb hc _ rfl
  rw [← hYe] at hY
  have HA := Lib.hid (show ∀ w, Calls Try.prog 20 #[.int .u8 (bcd x), .int .u8 (bcd y), .int .u8 q] w fun e w' => e = .returned (.tuple #[.int .u8 (adcV (bcd x) (bcd y) q), .int .u8 (adcF (bcd x) (bcd y) q)]) ∧ Below w.heap.size w w' from fun w => adc_any _ _ q w hu hv hq)
  have HS := Lib.hid (show ∀ w, Calls Try.prog 22 #[.int .u8 (bcd x), .int .u8 (bcd y), .int .u8 q] w fun e w' => e = .returned (.tuple #[.int .u8 (sbcV (bcd x) (bcd y) q), .int .u8 (sbcF (bcd x) (bcd y) q)]) ∧ Below w.heap.size w w' from fun w => sbc_any _ _ q w hu hv hq)
  clear hG hEe t1 t2 hE0 hYe hF hF0 hq0 hn hd
  generalize adcV (bcd x) (bcd y) q = X at *
  generalize sbcV (bcd x) (bcd y) q = Y at *
  generalize adcF (bcd x) (bcd y) q = F at *
  generalize sbcF (bcd x) (bcd y) q = G at *
  generalize q % 2 = c at *
  have hub : x / 10 * 16 + x % 10 = bcd x := rfl
  have hvb : y / 10 * 16 + y % 10 = bcd y := rfl
  generalize bcd x = u at *
  generalize bcd y = v at *
  obtain ⟨ha0, ha1⟩ := ha
  obtain ⟨hm0, hm1⟩ := hm
  obtain ⟨hx0, hx1⟩ := hxb
  obtain ⟨hy0, hy1⟩ := hyb
  obtain ⟨hc0, hc1⟩ := hc
  obtain ⟨hu0, hu1⟩ := hu
  obtain ⟨hv0, hv1⟩ := hv
  obtain ⟨hX0, hX1⟩ := hXb
  obtain ⟨hY0, hY1⟩ := hYb
  obtain ⟨S, hS⟩ : ∃ S, x + y + c = S := ⟨_, rfl⟩
  have hS0 : 0 ≤ S := by omega
  have hS1 : S < 256 := by omega
  rw [hS] at hX hf1
  have hXb : (X == S % 100 / 10 * 16 + S % 10) = true := by simpa using hX
  clear hX
  by_cases hb : x - y - 1 + c < 0
  · rw [if_pos hb] at hg1 hY
    have hbb : decide (x - y - 1 + c < 0) = true := by simpa using hb
    obtain ⟨L0, hL⟩ : ∃ L, x - y - 1 + c = L := ⟨_, rfl⟩
    rw [hL] at hY hb hbb
    have hL00 : -101 ≤ L0 := by omega
    have hL01 : L0 < 0 := by omega
    obtain ⟨L, hM⟩ : ∃ L, L0 + 100 = L := ⟨_, rfl⟩
    rw [hM] at hY
    have hL0 : 0 ≤ L := by omega
    have hL1 : L < 100 := by omega
    have hYb : (Y == L / 10 * 16 + L % 10) = true := by simpa using hY
    have HXb := Lib.hid hXb
    have HYb := Lib.hid hYb
    have HSe := Lib.hid hS
    have HLe := Lib.hid hL
    have HMe := Lib.hid hM
    have HF1 := Lib.hid hf1
    have HG1 := Lib.hid hg1
    have HF8 := Lib.hid hf8
    have HG8 := Lib.hid hg8
    clear hY hXb hYb hb hS hL hM hf1 hg1 hf8 hg8
    go_enter Try.func7, Try.ntmps7
    go_wp2_with fail
    go_at_call 11
    refine (awake_any _).mono ?_
    rintro e w1 ⟨rfl, hb1⟩
    go_wp2_with fail
    go_at_call 20
    refine (HA.out _).mono ?_
    rintro e w2 ⟨rfl, hb2⟩
    have hb12 := hb1.trans (hb2.mono hb1.size)
    go_wp2_with fail
    go_at_call 22
    refine (HS.out _).mono ?_
    rintro e w3 ⟨rfl, hb3⟩
    have hb13 := hb12.trans (hb3.mono hb12.size)
    have hS := HSe.out
    have hL := HLe.out
    have hM := HMe.out
    have hXb := HXb.out
    have hYb := HYb.out
    have hf1 := HF1.out
    have hg1 := HG1.out
    have hf8 := HF8.out
    have hg8 := HG8.out
    go_wp2
    go_ret
    exact ⟨rfl, hb13⟩
  · rw [if_neg hb] at hg1 hY
    have hbb : decide (x - y - 1 + c < 0) = false := by simpa using hb
    obtain ⟨L, hL⟩ : ∃ L, x - y - 1 + c = L := ⟨_, rfl⟩
    rw [hL] at hY hb hbb
    have hL0 : 0 ≤ L := by omega
    have hL1 : L < 100 := by omega
    have hYb : (Y == L / 10 * 16 + L % 10) = true := by simpa using hY
    have HXb := Lib.hid hXb
    have HYb := Lib.hid hYb
    have HSe := Lib.hid hS
    have HLe := Lib.hid hL
    have HF1 := Lib.hid hf1
    have HG1 := Lib.hid hg1
    have HF8 := Lib.hid hf8
    have HG8 := Lib.hid hg8
    clear hY hXb hYb hb hS hL hf1 hg1 hf8 hg8
    go_enter Try.func7, Try.ntmps7
    go_wp2_with fail
    go_at_call 11
    refine (awake_any _).mono ?_
    rintro e w1 ⟨rfl, hb1⟩
    go_wp2_with fail
    go_at_call 20
    refine (HA.out _).mono ?_
    rintro e w2 ⟨rfl, hb2⟩
    have hb12 := hb1.trans (hb2.mono hb1.size)
    go_wp2_with fail
    go_at_call 22
    refine (HS.out _).mono ?_
    rintro e w3 ⟨rfl, hb3⟩
    have hb13 := hb12.trans (hb3.mono hb12.size)
    have hS := HSe.out
    have hL := HLe.out
    have hXb := HXb.out
    have hYb := HYb.out
    have hf1 := HF1.out
    have hg1 := HG1.out
    have hf8 := HF8.out
    have hg8 := HG8.out
    go_wp2
    go_ret
    exact ⟨rfl, hb13⟩
end Go.Proofs.Ytdenknpjgeomhaa.Own

/- Contracts of the document's Adc and Sbc: each comes to what the program's comes to. Conditions: bytes are bytes. -/
import Derived.Test.YtdenknpjgeomhaaRef
namespace Go.Proofs.Ytdenknpjgeomhaa.Own
open Go.RowKit

theorem sign_has (s : Int) : (s / 128 % 2 == 1) = has s 128 := rfl
theorem ovr_ref {a m s : Int} (ha : By a) (hm : By m) : ovr a m s = ((a / 128 == m / 128) && (a / 128 != s / 128 % 2)) := by
  unfold ovr has By at *
  have h1 : a / 128 % 2 = a / 128 := by omega
  have h2 : m / 128 % 2 = m / 128 := by omega
  rw [h1, h2]
  rcases (show a / 128 = 0 ∨ a / 128 = 1 by omega) with h | h <;> rcases (show m / 128 = 0 ∨ m / 128 = 1 by omega) with g | g <;> rcases (show s / 128 % 2 = 0 ∨ s / 128 % 2 = 1 by omega) with k | k <;> rw [h, g, k] <;> rfl
theorem same_top {a m : Int} (ha : By a) (hm : By m) (s : Int) (h : (a / 128 == m / 128) = true) : ovr a m s = (a / 128 != s / 128 % 2) := by rw [ovr_ref ha hm, h]; rfl
theorem other_top {a m : Int} (ha : By a) (hm : By m) (s : Int) (h : (a / 128 == m / 128) = false) : ovr a m s = false := by rw [ovr_ref ha hm, h]; rfl

set_option maxHeartbeats 6400000 in
set_option maxRecDepth 100000 in
theorem radc_bin (a m p : Int) (w : World) (ha : By a) (hm : By m) (hp : By p) (hd : has p 8 = false) :
    Calls Try.prog 21 #[.int .u8 a, .int .u8 m, .int .u8 p] w fun e w' => e = .returned (.tuple #[.int .u8 (adcV a m p), .int .u8 (adcF a m p)]) ∧ w = w' := by
  have hc : 0 ≤ p % 2 ∧ p % 2 < 2 := by omega
  have eM : adcM a m p = sumB a m (p % 2) := by unfold adcM; rw [hd]; rfl
  have eE : adcE a m p = sumB a m (p % 2) := by unfold adcE; rw [if_neg (by simp [hd]), eM]
  have h9 : decide (255 < sumB a m (p % 2)) = decide (256 ≤ sumB a m (p % 2)) := by rw [decide_eq_decide]; omega
  have HO := Lib.hid (show ∀ w, Calls Try.prog 36 #[.int .u8 p, .int .i64 1] w fun e w' => e = .returned (.int .i64 (p % 2)) ∧ w = w' from fun w => rone_any p w hp)
  have HH := Lib.hid (show ∀ w, Calls Try.prog 42 #[.int .u8 p, .int .i64 8] w fun e w' => e = .returned (.bool false) ∧ w = w' from fun w => by have := rhas_any p 8 w hp (.inr (.inr (.inl rfl))); rw [hd] at this; exact this)
  obtain ⟨hs0, hs1⟩ := sumB_rng ha hm hc
  unfold adcV adcF sumsF
  rw [eE, eM, h9]
  clear eE eM h9 hd
  generalize p % 2 = c at *
  have hse : a + m + c = sumB a m c := rfl
  have HT1 := Lib.hid (same_top ha hm (sumB a m c))
  have HT2 := Lib.hid (other_top ha hm (sumB a m c))
  have HSg := Lib.hid (sign_has (sumB a m c))
  generalize sumB a m c = s at *
  generalize ovr a m s = o at *
  generalize has s 128 = n at *
  obtain ⟨ha0, ha1⟩ := ha
  obtain ⟨hm0, hm1⟩ := hm
  obtain ⟨hc0, hc1⟩ := hc
  by_cases hz : (a / 128 == m / 128) = true
  · have ht := HT1.out hz
    subst ht
    have hsg := HSg.out
    subst hsg
    go_enter Try.func21, Try.ntmps21
    go_wp2_with fail
    go_at_call 36
    refine (HO.out _).mono ?_
    rintro e w' ⟨rfl, rfl⟩
    go_wp2_with fail
    go_at_call 42
    refine (HH.out _).mono ?_
    rintro e w' ⟨rfl, rfl⟩
    go_wp2_with fail
    go_at_call 35
    refine (rset_any _ _ _ _ hp (.inr (.inr (.inr (.inr rfl))))).mono ?_
    rintro e w' ⟨rfl, rfl⟩
    go_wp2_with fail
    go_at_call 35
    refine (rset_any _ _ _ _ (fl_by hp (.inr (.inr (.inr (.inr rfl)))) _) (.inr (.inr (.inr (.inl rfl))))).mono ?_
    rintro e w' ⟨rfl, rfl⟩
    go_wp2_with fail
    go_at_call 35
    refine (rset_any _ _ _ _ (fl_by (fl_by hp (.inr (.inr (.inr (.inr rfl)))) _) (.inr (.inr (.inr (.inl rfl)))) _) (.inr (.inl rfl))).mono ?_
    rintro e w' ⟨rfl, rfl⟩
    go_wp2_with fail
    go_at_call 35
    refine (rset_any _ _ _ _ (fl_by (fl_by (fl_by hp (.inr (.inr (.inr (.inr rfl)))) _) (.inr (.inr (.inr (.inl rfl)))) _) (.inr (.inl rfl)) _) (.inl rfl)).mono ?_
    rintro e w' ⟨rfl, rfl⟩
    go_wp2
    go_ret2
    exact ⟨rfl, rfl⟩
  · have hz' : (a / 128 == m / 128) = false := by simpa using hz
    have ht := HT2.out hz'
    subst ht
    clear hz
    have hsg := HSg.out
    subst hsg
    go_enter Try.func21, Try.ntmps21
    go_wp2_with fail
    go_at_call 36
    refine (HO.out _).mono ?_
    rintro e w' ⟨rfl, rfl⟩
    go_wp2_with fail
    go_at_call 42
    refine (HH.out _).mono ?_
    rintro e w' ⟨rfl, rfl⟩
    go_wp2_with fail
    go_at_call 35
    refine (rset_any _ _ _ _ hp (.inr (.inr (.inr (.inr rfl))))).mono ?_
    rintro e w' ⟨rfl, rfl⟩
    go_wp2_with fail
    go_at_call 35
    refine (rset_any _ _ _ _ (fl_by hp (.inr (.inr (.inr (.inr rfl)))) _) (.inr (.inr (.inr (.inl rfl))))).mono ?_
    rintro e w' ⟨rfl, rfl⟩
    go_wp2_with fail
    go_at_call 35
    refine (rset_any _ _ _ _ (fl_by (fl_by hp (.inr (.inr (.inr (.inr rfl)))) _) (.inr (.inr (.inr (.inl rfl)))) _) (.inr (.inl rfl))).mono ?_
    rintro e w' ⟨rfl, rfl⟩
    go_wp2_with fail
    go_at_call 35
    refine (rset_any _ _ _ _ (fl_by (fl_by (fl_by hp (.inr (.inr (.inr (.inr rfl)))) _) (.inr (.inr (.inr (.inl rfl)))) _) (.inr (.inl rfl)) _) (.inl rfl)).mono ?_
    rintro e w' ⟨rfl, rfl⟩
    go_wp2
    go_ret2
    exact ⟨rfl, rfl⟩

set_option maxHeartbeats 12800000 in
set_option maxRecDepth 100000 in
theorem radc_dec (a m p : Int) (w : World) (ha : By a) (hm : By m) (hp : By p) (hd : has p 8 = true) :
    Calls Try.prog 21 #[.int .u8 a, .int .u8 m, .int .u8 p] w fun e w' => e = .returned (.tuple #[.int .u8 (adcV a m p), .int .u8 (adcF a m p)]) ∧ w = w' := by
  have hc : 0 ≤ p % 2 ∧ p % 2 < 2 := by omega
  have eM : adcM a m p = midD a m (p % 2) := by unfold adcM; rw [hd]; rfl
  have eE : adcE a m p = if midD a m (p % 2) ≥ 160 then midD a m (p % 2) + 96 else midD a m (p % 2) := by unfold adcE; rw [eM, hd]; simp only [true_and]
  have HO := Lib.hid (show ∀ w, Calls Try.prog 36 #[.int .u8 p, .int .i64 1] w fun e w' => e = .returned (.int .i64 (p % 2)) ∧ w = w' from fun w => rone_any p w hp)
  have HH := Lib.hid (show ∀ w, Calls Try.prog 42 #[.int .u8 p, .int .i64 8] w fun e w' => e = .returned (.bool true) ∧ w = w' from fun w => by have := rhas_any p 8 w hp (.inr (.inr (.inl rfl))); rw [hd] at this; exact this)
  obtain ⟨hs0, hs1⟩ := midD_rng ha hm hc
  obtain ⟨ht0, ht1⟩ := sumB_rng ha hm hc
  unfold adcV adcF sumsF
  rw [eE, eM]
  clear eE eM hd
  generalize p % 2 = c at *
  have hse : a + m + c = sumB a m c := rfl
  have hme : midD a m c = a - a % 16 + (m - m % 16) + (if lowD a m c ≥ 10 then (lowD a m c + 6) % 16 + 16 else lowD a m c) := rfl
  have hle : a % 16 + m % 16 + c = lowD a m c := rfl
  have hl0 : 0 ≤ lowD a m c := by unfold By lowD at *; omega
  have hl1 : lowD a m c < 32 := by unfold By lowD at *; omega
  have HT1 := Lib.hid (same_top ha hm (midD a m c))
  have HT2 := Lib.hid (other_top ha hm (midD a m c))
  have HSg := Lib.hid (sign_has (midD a m c))
  generalize sumB a m c = t at *
  generalize midD a m c = s at *
  generalize ovr a m s = o at *
  generalize has s 128 = n at *
  generalize lowD a m c = l at *
  obtain ⟨ha0, ha1⟩ := ha
  obtain ⟨hm0, hm1⟩ := hm
  obtain ⟨hc0, hc1⟩ := hc
  by_cases hl : l ≥ 10
  · rw [if_pos hl] at hme
    have hlb : decide (10 ≤ l) = true := by simpa using hl
    have hme2 : a - a % 16 + m - m % 16 + ((l + 6) % 16 + 16) = s := by omega
    clear hme
    by_cases hx : s ≥ 160
    · rw [if_pos hx]
      have hxb : decide (160 ≤ s) = true := by simpa using hx
      have h9 : decide (255 < s + 96) = decide (256 ≤ s + 96) := by rw [decide_eq_decide]; omega
      rw [h9]
      clear h9 hx hl
      by_cases hz : (a / 128 == m / 128) = true
      · have ht := HT1.out hz
        subst ht
        have hsg := HSg.out
        subst hsg
        go_enter Try.func21, Try.ntmps21
        go_wp2_with fail
        go_at_call 36
        refine (HO.out _).mono ?_
        rintro e w' ⟨rfl, rfl⟩
        go_wp2_with fail
        go_at_call 42
        refine (HH.out _).mono ?_
        rintro e w' ⟨rfl, rfl⟩
        go_wp2_with fail
        go_at_call 35
        refine (rset_any _ _ _ _ hp (.inr (.inr (.inr (.inr rfl))))).mono ?_
        rintro e w' ⟨rfl, rfl⟩
        go_wp2_with fail
        go_at_call 35
        refine (rset_any _ _ _ _ (fl_by hp (.inr (.inr (.inr (.inr rfl)))) _) (.inr (.inr (.inr (.inl rfl))))).mono ?_
        rintro e w' ⟨rfl, rfl⟩
        go_wp2_with fail
        go_at_call 35
        refine (rset_any _ _ _ _ (fl_by (fl_by hp (.inr (.inr (.inr (.inr rfl)))) _) (.inr (.inr (.inr (.inl rfl)))) _) (.inr (.inl rfl))).mono ?_
        rintro e w' ⟨rfl, rfl⟩
        go_wp2_with fail
        go_at_call 35
        refine (rset_any _ _ _ _ (fl_by (fl_by (fl_by hp (.inr (.inr (.inr (.inr rfl)))) _) (.inr (.inr (.inr (.inl rfl)))) _) (.inr (.inl rfl)) _) (.inl rfl)).mono ?_
        rintro e w' ⟨rfl, rfl⟩
        go_wp2
        go_ret2
        exact ⟨rfl, rfl⟩
      · have hz' : (a / 128 == m / 128) = false := by simpa using hz
        have ht := HT2.out hz'
        subst ht
        clear hz
        have hsg := HSg.out
        subst hsg
        go_enter Try.func21, Try.ntmps21
        go_wp2_with fail
        go_at_call 36
        refine (HO.out _).mono ?_
        rintro e w' ⟨rfl, rfl⟩
        go_wp2_with fail
        go_at_call 42
        refine (HH.out _).mono ?_
        rintro e w' ⟨rfl, rfl⟩
        go_wp2_with fail
        go_at_call 35
        refine (rset_any _ _ _ _ hp (.inr (.inr (.inr (.inr rfl))))).mono ?_
        rintro e w' ⟨rfl, rfl⟩
        go_wp2_with fail
        go_at_call 35
        refine (rset_any _ _ _ _ (fl_by hp (.inr (.inr (.inr (.inr rfl)))) _) (.inr (.inr (.inr (.inl rfl))))).mono ?_
        rintro e w' ⟨rfl, rfl⟩
        go_wp2_with fail
        go_at_call 35
        refine (rset_any _ _ _ _ (fl_by (fl_by hp (.inr (.inr (.inr (.inr rfl)))) _) (.inr (.inr (.inr (.inl rfl)))) _) (.inr (.inl rfl))).mono ?_
        rintro e w' ⟨rfl, rfl⟩
        go_wp2_with fail
        go_at_call 35
        refine (rset_any _ _ _ _ (fl_by (fl_by (fl_by hp (.inr (.inr (.inr (.inr rfl)))) _) (.inr (.inr (.inr (.inl rfl)))) _) (.inr (.inl rfl)) _) (.inl rfl)).mono ?_
        rintro e w' ⟨rfl, rfl⟩
        go_wp2
        go_ret2
        exact ⟨rfl, rfl⟩
    · rw [if_neg hx]
      have hxb : decide (160 ≤ s) = false := by simpa using hx
      have h9 : decide (255 < s) = decide (256 ≤ s) := by rw [decide_eq_decide]; omega
      have hv : s % 256 = s := by omega
      have hx2 : s < 160 := by omega
      rw [h9]
      clear h9 hx hl hv
      by_cases hz : (a / 128 == m / 128) = true
      · have ht := HT1.out hz
        subst ht
        have hsg := HSg.out
        subst hsg
        go_enter Try.func21, Try.ntmps21
        go_wp2_with fail
        go_at_call 36
        refine (HO.out _).mono ?_
        rintro e w' ⟨rfl, rfl⟩
        go_wp2_with fail
        go_at_call 42
        refine (HH.out _).mono ?_
        rintro e w' ⟨rfl, rfl⟩
        go_wp2_with fail
        go_at_call 35
        refine (rset_any _ _ _ _ hp (.inr (.inr (.inr (.inr rfl))))).mono ?_
        rintro e w' ⟨rfl, rfl⟩
        go_wp2_with fail
        go_at_call 35
        refine (rset_any _ _ _ _ (fl_by hp (.inr (.inr (.inr (.inr rfl)))) _) (.inr (.inr (.inr (.inl rfl))))).mono ?_
        rintro e w' ⟨rfl, rfl⟩
        go_wp2_with fail
        go_at_call 35
        refine (rset_any _ _ _ _ (fl_by (fl_by hp (.inr (.inr (.inr (.inr rfl)))) _) (.inr (.inr (.inr (.inl rfl)))) _) (.inr (.inl rfl))).mono ?_
        rintro e w' ⟨rfl, rfl⟩
        go_wp2_with fail
        go_at_call 35
        refine (rset_any _ _ _ _ (fl_by (fl_by (fl_by hp (.inr (.inr (.inr (.inr rfl)))) _) (.inr (.inr (.inr (.inl rfl)))) _) (.inr (.inl rfl)) _) (.inl rfl)).mono ?_
        rintro e w' ⟨rfl, rfl⟩
        go_wp2
        go_ret2
        exact ⟨rfl, rfl⟩
      · have hz' : (a / 128 == m / 128) = false := by simpa using hz
        have ht := HT2.out hz'
        subst ht
        clear hz
        have hsg := HSg.out
        subst hsg
        go_enter Try.func21, Try.ntmps21
        go_wp2_with fail
        go_at_call 36
        refine (HO.out _).mono ?_
        rintro e w' ⟨rfl, rfl⟩
        go_wp2_with fail
        go_at_call 42
        refine (HH.out _).mono ?_
        rintro e w' ⟨rfl, rfl⟩
        go_wp2_with fail
        go_at_call 35
        refine (rset_any _ _ _ _ hp (.inr (.inr (.inr (.inr rfl))))).mono ?_
        rintro e w' ⟨rfl, rfl⟩
        go_wp2_with fail
        go_at_call 35
        refine (rset_any _ _ _ _ (fl_by hp (.inr (.inr (.inr (.inr rfl)))) _) (.inr (.inr (.inr (.inl rfl))))).mono ?_
        rintro e w' ⟨rfl, rfl⟩
        go_wp2_with fail
        go_at_call 35
        refine (rset_any _ _ _ _ (fl_by (fl_by hp (.inr (.inr (.inr (.inr rfl)))) _) (.inr (.inr (.inr (.inl rfl)))) _) (.inr (.inl rfl))).mono ?_
        rintro e w' ⟨rfl, rfl⟩
        go_wp2_with fail
        go_at_call 35
        refine (rset_any _ _ _ _ (fl_by (fl_by (fl_by hp (.inr (.inr (.inr (.inr rfl)))) _) (.inr (.inr (.inr (.inl rfl)))) _) (.inr (.inl rfl)) _) (.inl rfl)).mono ?_
        rintro e w' ⟨rfl, rfl⟩
        go_wp2
        go_ret2
        exact ⟨rfl, rfl⟩
  · rw [if_neg hl] at hme
    have hlb : decide (10 ≤ l) = false := by simpa using hl
    have hme2 : a - a % 16 + m - m % 16 + l = s := by omega
    clear hme
    by_cases hx : s ≥ 160
    · rw [if_pos hx]
      have hxb : decide (160 ≤ s) = true := by simpa using hx
      have h9 : decide (255 < s + 96) = decide (256 ≤ s + 96) := by rw [decide_eq_decide]; omega
      rw [h9]
      clear h9 hx hl
      by_cases hz : (a / 128 == m / 128) = true
      · have ht := HT1.out hz
        subst ht
        have hsg := HSg.out
        subst hsg
        go_enter Try.func21, Try.ntmps21
        go_wp2_with fail
        go_at_call 36
        refine (HO.out _).mono ?_
        rintro e w' ⟨rfl, rfl⟩
        go_wp2_with fail
        go_at_call 42
        refine (HH.out _).mono ?_
        rintro e w' ⟨rfl, rfl⟩
        go_wp2_with fail
        go_at_call 35
        refine (rset_any _ _ _ _ hp (.inr (.inr (.inr (.inr rfl))))).mono ?_
        rintro e w' ⟨rfl, rfl⟩
        go_wp2_with fail
        go_at_call 35
        refine (rset_any _ _ _ _ (fl_by hp (.inr (.inr (.inr (.inr rfl)))) _) (.inr (.inr (.inr (.inl rfl))))).mono ?_
        rintro e w' ⟨rfl, rfl⟩
        go_wp2_with fail
        go_at_call 35
        refine (rset_any _ _ _ _ (fl_by (fl_by hp (.inr (.inr (.inr (.inr rfl)))) _) (.inr (.inr (.inr (.inl rfl)))) _) (.inr (.inl rfl))).mono ?_
        rintro e w' ⟨rfl, rfl⟩
        go_wp2_with fail
        go_at_call 35
        refine (rset_any _ _ _ _ (fl_by (fl_by (fl_by hp (.inr (.inr (.inr (.inr rfl)))) _) (.inr (.inr (.inr (.inl rfl)))) _) (.inr (.inl rfl)) _) (.inl rfl)).mono ?_
        rintro e w' ⟨rfl, rfl⟩
        go_wp2
        go_ret2
        exact ⟨rfl, rfl⟩
      · have hz' : (a / 128 == m / 128) = false := by simpa using hz
        have ht := HT2.out hz'
        subst ht
        clear hz
        have hsg := HSg.out
        subst hsg
        go_enter Try.func21, Try.ntmps21
        go_wp2_with fail
        go_at_call 36
        refine (HO.out _).mono ?_
        rintro e w' ⟨rfl, rfl⟩
        go_wp2_with fail
        go_at_call 42
        refine (HH.out _).mono ?_
        rintro e w' ⟨rfl, rfl⟩
        go_wp2_with fail
        go_at_call 35
        refine (rset_any _ _ _ _ hp (.inr (.inr (.inr (.inr rfl))))).mono ?_
        rintro e w' ⟨rfl, rfl⟩
        go_wp2_with fail
        go_at_call 35
        refine (rset_any _ _ _ _ (fl_by hp (.inr (.inr (.inr (.inr rfl)))) _) (.inr (.inr (.inr (.inl rfl))))).mono ?_
        rintro e w' ⟨rfl, rfl⟩
        go_wp2_with fail
        go_at_call 35
        refine (rset_any _ _ _ _ (fl_by (fl_by hp (.inr (.inr (.inr (.inr rfl)))) _) (.inr (.inr (.inr (.inl rfl)))) _) (.inr (.inl rfl))).mono ?_
        rintro e w' ⟨rfl, rfl⟩
        go_wp2_with fail
        go_at_call 35
        refine (rset_any _ _ _ _ (fl_by (fl_by (fl_by hp (.inr (.inr (.inr (.inr rfl)))) _) (.inr (.inr (.inr (.inl rfl)))) _) (.inr (.inl rfl)) _) (.inl rfl)).mono ?_
        rintro e w' ⟨rfl, rfl⟩
        go_wp2
        go_ret2
        exact ⟨rfl, rfl⟩
    · rw [if_neg hx]
      have hxb : decide (160 ≤ s) = false := by simpa using hx
      have h9 : decide (255 < s) = decide (256 ≤ s) := by rw [decide_eq_decide]; omega
      rw [h9]
      clear h9 hx hl
      by_cases hz : (a / 128 == m / 128) = true
      · have ht := HT1.out hz
        subst ht
        have hsg := HSg.out
        subst hsg
        go_enter Try.func21, Try.ntmps21
        go_wp2_with fail
        go_at_call 36
        refine (HO.out _).mono ?_
        rintro e w' ⟨rfl, rfl⟩
        go_wp2_with fail
        go_at_call 42
        refine (HH.out _).mono ?_
        rintro e w' ⟨rfl, rfl⟩
        go_wp2_with fail
        go_at_call 35
        refine (rset_any _ _ _ _ hp (.inr (.inr (.inr (.inr rfl))))).mono ?_
        rintro e w' ⟨rfl, rfl⟩
        go_wp2_with fail
        go_at_call 35
        refine (rset_any _ _ _ _ (fl_by hp (.inr (.inr (.inr (.inr rfl)))) _) (.inr (.inr (.inr (.inl rfl))))).mono ?_
        rintro e w' ⟨rfl, rfl⟩
        go_wp2_with fail
        go_at_call 35
        refine (rset_any _ _ _ _ (fl_by (fl_by hp (.inr (.inr (.inr (.inr rfl)))) _) (.inr (.inr (.inr (.inl rfl)))) _) (.inr (.inl rfl))).mono ?_
        rintro e w' ⟨rfl, rfl⟩
        go_wp2_with fail
        go_at_call 35
        refine (rset_any _ _ _ _ (fl_by (fl_by (fl_by hp (.inr (.inr (.inr (.inr rfl)))) _) (.inr (.inr (.inr (.inl rfl)))) _) (.inr (.inl rfl)) _) (.inl rfl)).mono ?_
        rintro e w' ⟨rfl, rfl⟩
        go_wp2
        go_ret2
        exact ⟨rfl, rfl⟩
      · have hz' : (a / 128 == m / 128) = false := by simpa using hz
        have ht := HT2.out hz'
        subst ht
        clear hz
        have hsg := HSg.out
        subst hsg
        go_enter Try.func21, Try.ntmps21
        go_wp2_with fail
        go_at_call 36
        refine (HO.out _).mono ?_
        rintro e w' ⟨rfl, rfl⟩
        go_wp2_with fail
        go_at_call 42
        refine (HH.out _).mono ?_
        rintro e w' ⟨rfl, rfl⟩
        go_wp2_with fail
        go_at_call 35
        refine (rset_any _ _ _ _ hp (.inr (.inr (.inr (.inr rfl))))).mono ?_
        rintro e w' ⟨rfl, rfl⟩
        go_wp2_with fail
        go_at_call 35
        refine (rset_any _ _ _ _ (fl_by hp (.inr (.inr (.inr (.inr rfl)))) _) (.inr (.inr (.inr (.inl rfl))))).mono ?_
        rintro e w' ⟨rfl, rfl⟩
        go_wp2_with fail
        go_at_call 35
        refine (rset_any _ _ _ _ (fl_by (fl_by hp (.inr (.inr (.inr (.inr rfl)))) _) (.inr (.inr (.inr (.inl rfl)))) _) (.inr (.inl rfl))).mono ?_
        rintro e w' ⟨rfl, rfl⟩
        go_wp2_with fail
        go_at_call 35
        refine (rset_any _ _ _ _ (fl_by (fl_by (fl_by hp (.inr (.inr (.inr (.inr rfl)))) _) (.inr (.inr (.inr (.inl rfl)))) _) (.inr (.inl rfl)) _) (.inl rfl)).mono ?_
        rintro e w' ⟨rfl, rfl⟩
        go_wp2
        go_ret2
        exact ⟨rfl, rfl⟩
theorem radc_any (a m p : Int) (w : World) (ha : By a) (hm : By m) (hp : By p) :
    Calls Try.prog 21 #[.int .u8 a, .int .u8 m, .int .u8 p] w fun e w' => e = .returned (.tuple #[.int .u8 (adcV a m p), .int .u8 (adcF a m p)]) ∧ w = w' := by
  cases hd : has p 8
  · exact radc_bin a m p w ha hm hp hd
  · exact radc_dec a m p w ha hm hp hd
end Go.Proofs.Ytdenknpjgeomhaa.Own

/- What the arithmetic unit reckons, by whole numbers: plain definitions and facts, without the program. -/
import Derived.Laws.BitsAllLaws
import Derived.Laws.BitsLemmas
import Derived.RowKit
namespace Go.Proofs.Ytdenknpjgeomhaa.Own
open Go.RowKit

def isF (f : Int) : Prop := f = 1 ∨ f = 2 ∨ f = 8 ∨ f = 64 ∨ f = 128
def fl (p f : Int) (is : Bool) : Int := p - p / f % 2 * f + (if is then f else 0)
def has (p f : Int) : Bool := p / f % 2 == 1
def By (v : Int) : Prop := 0 ≤ v ∧ v < 256
theorem fl_by {p f : Int} (hp : By p) (hf : isF f) (is : Bool) : By (fl p f is) := by
  unfold By fl at *
  rcases hf with rfl | rfl | rfl | rfl | rfl <;> cases is <;> simp <;> omega

theorem byte_all {P : Int → Prop} (h : ∀ m : Fin 256, P ((m.val : Nat) : Int)) {v : Int} (hv : By v) : P v := by
  obtain ⟨n, rfl⟩ := Int.eq_ofNat_of_zero_le hv.1
  exact h ⟨n, by have := hv.2; omega⟩
theorem flag_or {p f : Int} (hp : By p) (hf : isF f) : Go.bits .or .u8 p f = fl p f true := by
  rcases hf with rfl | rfl | rfl | rfl | rfl
  · exact byte_all (P := fun p => Go.bits .or .u8 p 1 = fl p 1 true) (by decide +kernel) hp
  · exact byte_all (P := fun p => Go.bits .or .u8 p 2 = fl p 2 true) (by decide +kernel) hp
  · exact byte_all (P := fun p => Go.bits .or .u8 p 8 = fl p 8 true) (by decide +kernel) hp
  · exact byte_all (P := fun p => Go.bits .or .u8 p 64 = fl p 64 true) (by decide +kernel) hp
  · exact byte_all (P := fun p => Go.bits .or .u8 p 128 = fl p 128 true) (by decide +kernel) hp
theorem flag_not {p f : Int} (hp : By p) (hf : isF f) : Go.bits .andNot .u8 p f = fl p f false := by
  rcases hf with rfl | rfl | rfl | rfl | rfl
  · exact byte_all (P := fun p => Go.bits .andNot .u8 p 1 = fl p 1 false) (by decide +kernel) hp
  · exact byte_all (P := fun p => Go.bits .andNot .u8 p 2 = fl p 2 false) (by decide +kernel) hp
  · exact byte_all (P := fun p => Go.bits .andNot .u8 p 8 = fl p 8 false) (by decide +kernel) hp
  · exact byte_all (P := fun p => Go.bits .andNot .u8 p 64 = fl p 64 false) (by decide +kernel) hp
  · exact byte_all (P := fun p => Go.bits .andNot .u8 p 128 = fl p 128 false) (by decide +kernel) hp
theorem and_has {p f : Int} (hp : By p) (hf : isF f) : (Go.bits .and .u8 p f != 0) = has p f := by
  rcases hf with rfl | rfl | rfl | rfl | rfl
  · exact byte_all (P := fun p => (Go.bits .and .u8 p 1 != 0) = has p 1) (by decide +kernel) hp
  · exact byte_all (P := fun p => (Go.bits .and .u8 p 2 != 0) = has p 2) (by decide +kernel) hp
  · exact byte_all (P := fun p => (Go.bits .and .u8 p 8 != 0) = has p 8) (by decide +kernel) hp
  · exact byte_all (P := fun p => (Go.bits .and .u8 p 64 != 0) = has p 64) (by decide +kernel) hp
  · exact byte_all (P := fun p => (Go.bits .and .u8 p 128 != 0) = has p 128) (by decide +kernel) hp
theorem and_one {p : Int} (hp : By p) : Go.bits .and .u8 p 1 = p % 2 := byte_all (P := fun p => Go.bits .and .u8 p 1 = p % 2) (by decide +kernel) hp
theorem fl_swap (p : Int) (a b : Bool) : fl (fl p 128 a) 2 b = fl (fl p 2 b) 128 a := by
  unfold fl
  cases a <;> cases b <;> simp <;> omega

-- N and Z by a byte
def nz (p v : Int) : Int := fl (fl p 2 (v == 0)) 128 (decide (128 ≤ v))
def cmpF (r m p : Int) : Int := nz (fl p 1 (decide (m ≤ r))) ((r - m) % 256)
def sbxV (x m : Int) : Int := (x - m) % 256
def land (a m : Int) : Int := ((a.toNat &&& m.toNat : Nat) : Int)
def bitF (a m p : Int) : Int := fl (fl (fl p 2 (land a m == 0)) 64 (has m 64)) 128 (has m 128)
def aslV (m : Int) : Int := m * 2 % 256
def lsrV (m : Int) : Int := m / 2
def rolV (m p : Int) : Int := m * 2 % 256 + p % 2
def rorV (m p : Int) : Int := m / 2 + 128 * (p % 2)
def shF (v p : Int) (out : Bool) : Int := nz (fl p 1 out) v
def aslF (m p : Int) : Int := shF (aslV m) p (decide (128 ≤ m))
def lsrF (m p : Int) : Int := shF (lsrV m) p (m % 2 == 1)
def rolF (m p : Int) : Int := shF (rolV m p) p (decide (128 ≤ m))
def rorF (m p : Int) : Int := shF (rorV m p) p (m % 2 == 1)
theorem nz_by {p : Int} (hp : By p) (v : Int) : By (nz p v) := fl_by (fl_by hp (.inr (.inl rfl)) _) (.inr (.inr (.inr (.inr rfl)))) _
theorem land_by {a m : Int} (ha : By a) : By (land a m) := by
  unfold By land at *
  have : a.toNat &&& m.toNat ≤ a.toNat := Nat.and_le_left
  omega
theorem mod_by (v : Int) : By (v % 256) := by unfold By; omega
theorem lsrV_by {m : Int} (hm : By m) : By (lsrV m) := by unfold By lsrV at *; omega
theorem rolV_by (m p : Int) : By (rolV m p) := by unfold By rolV; omega
theorem rorV_by {m : Int} (hm : By m) (p : Int) : By (rorV m p) := by unfold By rorV at *; omega
theorem shF_by {v p : Int} (hp : By p) (out : Bool) : By (shF v p out) := nz_by (fl_by hp (.inl rfl) _) _

-- Adc: the sum, and the sum by digits but for what is behind the second one
def sumB (a m c : Int) : Int := a + m + c
def lowD (a m c : Int) : Int := a % 16 + m % 16 + c
def midD (a m c : Int) : Int := a - a % 16 + (m - m % 16) + (if lowD a m c ≥ 10 then (lowD a m c + 6) % 16 + 16 else lowD a m c)
def ovr (a m s : Int) : Bool := has a 128 == has m 128 && has a 128 != has s 128
def sumsF (a m c s p : Int) : Int := fl (fl (fl p 128 (has s 128)) 64 (ovr a m s)) 2 (sumB a m c % 256 == 0)
def adcM (a m p : Int) : Int := if has p 8 then midD a m (p % 2) else sumB a m (p % 2)
def adcE (a m p : Int) : Int := if has p 8 = true ∧ adcM a m p ≥ 160 then adcM a m p + 96 else adcM a m p
def adcV (a m p : Int) : Int := adcE a m p % 256
def adcF (a m p : Int) : Int := fl (sumsF a m (p % 2) (adcM a m p) p) 1 (decide (255 < adcE a m p))
-- Sbc
def lowS (a m c : Int) : Int := a % 16 - m % 16 + c - 1
def midS (a m c : Int) : Int := a - a % 16 - (m - m % 16) + (if lowS a m c < 0 then (lowS a m c - 6) % 16 - 16 else lowS a m c)
def sbcE (a m c : Int) : Int := if midS a m c < 0 then midS a m c - 96 else midS a m c
def sbcV (a m p : Int) : Int := if has p 8 then sbcE a m (p % 2) % 256 else adcV a (255 - m) (fl p 8 false)
def sbcF (a m p : Int) : Int := if has p 8 then fl (adcF a (255 - m) (fl p 8 false)) 8 true else adcF a (255 - m) (fl p 8 false)
-- Arr
def arrT (a m : Int) : Int := land a m
def arrR (a m p : Int) : Int := rorV (land a m) p
def arrN (a m p : Int) : Int := if land a m % 16 + land a m % 2 > 5 then arrR a m p - arrR a m p % 16 + (arrR a m p % 16 + 6) % 16 else arrR a m p
def arrH (a m : Int) : Bool := decide (80 < land a m - land a m % 16 + 16 * (land a m / 16 % 2))
def arrV (a m p : Int) : Int := if has p 8 then (if arrH a m then (arrN a m p + 96) % 256 else arrN a m p) else arrR a m p
def arrF (a m p : Int) : Int :=
  if has p 8 then fl (fl (nz p (arrR a m p)) 64 (has (land a m) 64 != has (arrR a m p) 64)) 1 (arrH a m)
  else fl (fl (nz p (arrR a m p)) 1 (has (arrR a m p) 64)) 64 (has (arrR a m p) 64 != has (arrR a m p) 32)
theorem sumsF_by {a m c s p : Int} (hp : By p) : By (sumsF a m c s p) := fl_by (fl_by (fl_by hp (.inr (.inr (.inr (.inr rfl)))) _) (.inr (.inr (.inr (.inl rfl)))) _) (.inr (.inl rfl)) _
theorem adcF_by {a m p : Int} (hp : By p) : By (adcF a m p) := fl_by (sumsF_by hp) (.inl rfl) _
theorem midD_rng {a m c : Int} (ha : By a) (hm : By m) (hc : 0 ≤ c ∧ c < 2) : 0 ≤ midD a m c ∧ midD a m c < 512 := by
  unfold midD lowD By at *
  split <;> omega
theorem sumB_rng {a m c : Int} (ha : By a) (hm : By m) (hc : 0 ≤ c ∧ c < 2) : 0 ≤ sumB a m c ∧ sumB a m c < 512 := by
  unfold sumB By at *
  omega
end Go.Proofs.Ytdenknpjgeomhaa.Own

/- What the arithmetic unit reckons, by whole numbers: plain definitions and facts, without the program. · Contracts of the arithmetic unit's small functions, and of the document's. Conditions: bytes are bytes. · Contracts of Adc and of what it calls, and of the example that each statement asks first. Conditions: bytes are bytes. · Contracts of Sbc and of Arr. Conditions: bytes are bytes. -/
import Derived.Laws.BitsAllLaws
import Derived.Laws.BitsLemmas
import Derived.RowKit
import Derived.Test.YtifajfjiloajfaaGreatDoorProg
import Derived.Below
import Derived.OwnWalk
import Derived.Laws.OwnMore
import Derived.Laws.Rows
import Derived.Deep.Draws
import Derived.WalkKit
import Derived.Tactics
import Derived.Lib.Hide
import Derived.KernelRfl
import Derived.Laws.Unary
namespace Go.Proofs.YtifajfjiloajfaaGreatDoor.Own
open Go.RowKit

def isF (f : Int) : Prop := f = 1 ∨ f = 2 ∨ f = 8 ∨ f = 64 ∨ f = 128
def fl (p f : Int) (is : Bool) : Int := p - p / f % 2 * f + (if is then f else 0)
def has (p f : Int) : Bool := p / f % 2 == 1
def By (v : Int) : Prop := 0 ≤ v ∧ v < 256
theorem fl_by {p f : Int} (hp : By p) (hf : isF f) (is : Bool) : By (fl p f is) := by
  unfold By fl at *
  rcases hf with rfl | rfl | rfl | rfl | rfl <;> cases is <;> simp <;> omega

theorem byte_all {P : Int → Prop} (h : ∀ m : Fin 256, P ((m.val : Nat) : Int)) {v : Int} (hv : By v) : P v := by
  obtain ⟨n, rfl⟩ := Int.eq_ofNat_of_zero_le hv.1
  exact h ⟨n, by have := hv.2; omega⟩
theorem flag_or {p f : Int} (hp : By p) (hf : isF f) : Go.bits .or .u8 p f = fl p f true := by
  rcases hf with rfl | rfl | rfl | rfl | rfl
  · exact byte_all (P := fun p => Go.bits .or .u8 p 1 = fl p 1 true) (by decide +kernel) hp
  · exact byte_all (P := fun p => Go.bits .or .u8 p 2 = fl p 2 true) (by decide +kernel) hp
  · exact byte_all (P := fun p => Go.bits .or .u8 p 8 = fl p 8 true) (by decide +kernel) hp
  · exact byte_all (P := fun p => Go.bits .or .u8 p 64 = fl p 64 true) (by decide +kernel) hp
  · exact byte_all (P := fun p => Go.bits .or .u8 p 128 = fl p 128 true) (by decide +kernel) hp
theorem flag_not {p f : Int} (hp : By p) (hf : isF f) : Go.bits .andNot .u8 p f = fl p f false := by
  rcases hf with rfl | rfl | rfl | rfl | rfl
  · exact byte_all (P := fun p => Go.bits .andNot .u8 p 1 = fl p 1 false) (by decide +kernel) hp
  · exact byte_all (P := fun p => Go.bits .andNot .u8 p 2 = fl p 2 false) (by decide +kernel) hp
  · exact byte_all (P := fun p => Go.bits .andNot .u8 p 8 = fl p 8 false) (by decide +kernel) hp
  · exact byte_all (P := fun p => Go.bits .andNot .u8 p 64 = fl p 64 false) (by decide +kernel) hp
  · exact byte_all (P := fun p => Go.bits .andNot .u8 p 128 = fl p 128 false) (by decide +kernel) hp
theorem and_has {p f : Int} (hp : By p) (hf : isF f) : (Go.bits .and .u8 p f != 0) = has p f := by
  rcases hf with rfl | rfl | rfl | rfl | rfl
  · exact byte_all (P := fun p => (Go.bits .and .u8 p 1 != 0) = has p 1) (by decide +kernel) hp
  · exact byte_all (P := fun p => (Go.bits .and .u8 p 2 != 0) = has p 2) (by decide +kernel) hp
  · exact byte_all (P := fun p => (Go.bits .and .u8 p 8 != 0) = has p 8) (by decide +kernel) hp
  · exact byte_all (P := fun p => (Go.bits .and .u8 p 64 != 0) = has p 64) (by decide +kernel) hp
  · exact byte_all (P := fun p => (Go.bits .and .u8 p 128 != 0) = has p 128) (by decide +kernel) hp
theorem and_one {p : Int} (hp : By p) : Go.bits .and .u8 p 1 = p % 2 := byte_all (P := fun p => Go.bits .and .u8 p 1 = p % 2) (by decide +kernel) hp
theorem fl_swap (p : Int) (a b : Bool) : fl (fl p 128 a) 2 b = fl (fl p 2 b) 128 a := by
  unfold fl
  cases a <;> cases b <;> simp <;> omega

-- N and Z by a byte
def nz (p v : Int) : Int := fl (fl p 2 (v == 0)) 128 (decide (128 ≤ v))
def cmpF (r m p : Int) : Int := nz (fl p 1 (decide (m ≤ r))) ((r - m) % 256)
def sbxV (x m : Int) : Int := (x - m) % 256
def land (a m : Int) : Int := ((a.toNat &&& m.toNat : Nat) : Int)
def bitF (a m p : Int) : Int := fl (fl (fl p 2 (land a m == 0)) 64 (has m 64)) 128 (has m 128)
def aslV (m : Int) : Int := m * 2 % 256
def lsrV (m : Int) : Int := m / 2
def rolV (m p : Int) : Int := m * 2 % 256 + p % 2
def rorV (m p : Int) : Int := m / 2 + 128 * (p % 2)
def shF (v p : Int) (out : Bool) : Int := nz (fl p 1 out) v
def aslF (m p : Int) : Int := shF (aslV m) p (decide (128 ≤ m))
def lsrF (m p : Int) : Int := shF (lsrV m) p (m % 2 == 1)
def rolF (m p : Int) : Int := shF (rolV m p) p (decide (128 ≤ m))
def rorF (m p : Int) : Int := shF (rorV m p) p (m % 2 == 1)
theorem nz_by {p : Int} (hp : By p) (v : Int) : By (nz p v) := fl_by (fl_by hp (.inr (.inl rfl)) _) (.inr (.inr (.inr (.inr rfl)))) _
theorem land_by {a m : Int} (ha : By a) : By (land a m) := by
  unfold By land at *
  have : a.toNat &&& m.toNat ≤ a.toNat := Nat.and_le_left
  omega
theorem mod_by (v : Int) : By (v % 256) := by unfold By; omega
theorem lsrV_by {m : Int} (hm : By m) : By (lsrV m) := by unfold By lsrV at *; omega
theorem rolV_by (m p : Int) : By (rolV m p) := by unfold By rolV; omega
theorem rorV_by {m : Int} (hm : By m) (p : Int) : By (rorV m p) := by unfold By rorV at *; omega
theorem shF_by {v p : Int} (hp : By p) (out : Bool) : By (shF v p out) := nz_by (fl_by hp (.inl rfl) _) _

-- Adc: the sum, and the sum by digits but for what is behind the second one
def sumB (a m c : Int) : Int := a + m + c
def lowD (a m c : Int) : Int := a % 16 + m % 16 + c
def midD (a m c : Int) : Int := a - a % 16 + (m - m % 16) + (if lowD a m c ≥ 10 then (lowD a m c + 6) % 16 + 16 else lowD a m c)
def ovr (a m s : Int) : Bool := has a 128 == has m 128 && has a 128 != has s 128
def sumsF (a m c s p : Int) : Int := fl (fl (fl p 128 (has s 128)) 64 (ovr a m s)) 2 (sumB a m c % 256 == 0)
def adcM (a m p : Int) : Int := if has p 8 then midD a m (p % 2) else sumB a m (p % 2)
def adcE (a m p : Int) : Int := if has p 8 = true ∧ adcM a m p ≥ 160 then adcM a m p + 96 else adcM a m p
def adcV (a m p : Int) : Int := adcE a m p % 256
def adcF (a m p : Int) : Int := fl (sumsF a m (p % 2) (adcM a m p) p) 1 (decide (255 < adcE a m p))
-- Sbc
def lowS (a m c : Int) : Int := a % 16 - m % 16 + c - 1
def midS (a m c : Int) : Int := a - a % 16 - (m - m % 16) + (if lowS a m c < 0 then (lowS a m c - 6) % 16 - 16 else lowS a m c)
def sbcE (a m c : Int) : Int := if midS a m c < 0 then midS a m c - 96 else midS a m c
def sbcV (a m p : Int) : Int := if has p 8 then sbcE a m (p % 2) % 256 else adcV a (255 - m) (fl p 8 false)
def sbcF (a m p : Int) : Int := if has p 8 then fl (adcF a (255 - m) (fl p 8 false)) 8 true else adcF a (255 - m) (fl p 8 false)
-- Arr
def arrT (a m : Int) : Int := land a m
def arrR (a m p : Int) : Int := rorV (land a m) p
def arrN (a m p : Int) : Int := if land a m % 16 + land a m % 2 > 5 then arrR a m p - arrR a m p % 16 + (arrR a m p % 16 + 6) % 16 else arrR a m p
def arrH (a m : Int) : Bool := decide (80 < land a m - land a m % 16 + 16 * (land a m / 16 % 2))
def arrV (a m p : Int) : Int := if has p 8 then (if arrH a m then (arrN a m p + 96) % 256 else arrN a m p) else arrR a m p
def arrF (a m p : Int) : Int :=
  if has p 8 then fl (fl (nz p (arrR a m p)) 64 (has (land a m) 64 != has (arrR a m p) 64)) 1 (arrH a m)
  else fl (fl (nz p (arrR a m p)) 1 (has (arrR a m p) 64)) 64 (has (arrR a m p) 64 != has (arrR a m p) 32)
theorem sumsF_by {a m c s p : Int} (hp : By p) : By (sumsF a m c s p) := fl_by (fl_by (fl_by hp (.inr (.inr (.inr (.inr rfl)))) _) (.inr (.inr (.inr (.inl rfl)))) _) (.inr (.inl rfl)) _
theorem adcF_by {a m p : Int} (hp : By p) : By (adcF a m p) := fl_by (sumsF_by hp) (.inl rfl) _
theorem midD_rng {a m c : Int} (ha : By a) (hm : By m) (hc : 0 ≤ c ∧ c < 2) : 0 ≤ midD a m c ∧ midD a m c < 512 := by
  unfold midD lowD By at *
  split <;> omega
theorem sumB_rng {a m c : Int} (ha : By a) (hm : By m) (hc : 0 ≤ c ∧ c < 2) : 0 ≤ sumB a m c ∧ sumB a m c < 512 := by
  unfold sumB By at *
  omega
end Go.Proofs.YtifajfjiloajfaaGreatDoor.Own
namespace Go.Proofs.YtifajfjiloajfaaGreatDoor.Own
open Go.RowKit

set_option maxHeartbeats 1600000 in
theorem flag_any (p f : Int) (is : Bool) (w : World) (hp : By p) (hf : isF f) :
    Calls Tryz.prog 205 #[.int .u8 p, .int .u8 f, .bool is] w fun e w' => e = .returned (.int .u8 (fl p f is)) ∧ w = w' := by
  cases is
  · rw [← flag_not hp hf]
    go_enter Tryz.func205, Tryz.ntmps205
    go_wp2
    go_ret
    exact ⟨rfl, rfl⟩
  · rw [← flag_or hp hf]
    go_enter Tryz.func205, Tryz.ntmps205
    go_wp2
    go_ret
    exact ⟨rfl, rfl⟩
set_option maxHeartbeats 1600000 in
theorem nz_any (p v : Int) (w : World) (hp : By p) :
    Calls Tryz.prog 201 #[.int .u8 p, .int .u8 v] w fun e w' => e = .returned (.int .u8 (nz p v)) ∧ w = w' := by
  go_enter Tryz.func201, Tryz.ntmps201
  go_wp2_with fail
  go_at_call 205
  refine (flag_any _ _ _ _ hp (.inr (.inl rfl))).mono ?_
  rintro e w' ⟨rfl, rfl⟩
  go_wp2_with fail
  go_at_call 205
  refine (flag_any _ _ _ _ (fl_by hp (.inr (.inl rfl)) _) (.inr (.inr (.inr (.inr rfl))))).mono ?_
  rintro e w' ⟨rfl, rfl⟩
  go_wp2
  go_ret
  exact ⟨rfl, rfl⟩
set_option maxHeartbeats 1600000 in
theorem shifted_any (v p : Int) (out : Bool) (w : World) (hp : By p) :
    Calls Tryz.prog 214 #[.int .u8 v, .int .u8 p, .bool out] w fun e w' => e = .returned (.tuple #[.int .u8 v, .int .u8 (shF v p out)]) ∧ w = w' := by
  go_enter Tryz.func214, Tryz.ntmps214
  go_wp2_with fail
  go_at_call 205
  refine (flag_any _ _ _ _ hp (.inl rfl)).mono ?_
  rintro e w' ⟨rfl, rfl⟩
  go_wp2_with fail
  go_at_call 201
  refine (nz_any _ _ _ (fl_by hp (.inl rfl) _)).mono ?_
  rintro e w' ⟨rfl, rfl⟩
  go_wp2
  go_ret2
  exact ⟨rfl, rfl⟩
set_option maxHeartbeats 1600000 in
theorem asl_any (m p : Int) (w : World) (hm : By m) (hp : By p) :
    Calls Tryz.prog 197 #[.int .u8 m, .int .u8 p] w fun e w' => e = .returned (.tuple #[.int .u8 (aslV m), .int .u8 (aslF m p)]) ∧ w = w' := by
  have hm' := hm
  obtain ⟨hm0, hm1⟩ := hm'
  go_enter Tryz.func197, Tryz.ntmps197
  go_wp2_with fail
  go_at_call 214
  refine (shifted_any _ _ _ _ hp).mono ?_
  rintro e w' ⟨rfl, rfl⟩
  go_wp2
  go_ret2
  exact ⟨rfl, rfl⟩
set_option maxHeartbeats 1600000 in
theorem lsr_any (m p : Int) (w : World) (hm : By m) (hp : By p) :
    Calls Tryz.prog 198 #[.int .u8 m, .int .u8 p] w fun e w' => e = .returned (.tuple #[.int .u8 (lsrV m), .int .u8 (lsrF m p)]) ∧ w = w' := by
  have ho := and_one hm
  have hm' := hm
  obtain ⟨hm0, hm1⟩ := hm'
  go_enter Tryz.func198, Tryz.ntmps198
  go_wp2_with fail
  go_at_call 214
  refine (shifted_any _ _ _ _ hp).mono ?_
  rintro e w' ⟨rfl, rfl⟩
  go_wp2
  go_ret2
  exact ⟨rfl, rfl⟩
set_option maxHeartbeats 1600000 in
theorem rol_any (m p : Int) (w : World) (hm : By m) (hp : By p) :
    Calls Tryz.prog 199 #[.int .u8 m, .int .u8 p] w fun e w' => e = .returned (.tuple #[.int .u8 (rolV m p), .int .u8 (rolF m p)]) ∧ w = w' := by
  have ho := and_one hp
  have hr : Go.bits .or .u8 (m * 2 % 256) (p % 2) = rolV m p :=
    bits_join .u8 8 (by decide) wraps_u8 1 _ _ (by omega) (by omega) (by omega) (by omega) (by omega) (by omega)
  have hm' := hm
  obtain ⟨hm0, hm1⟩ := hm'
  go_enter Tryz.func199, Tryz.ntmps199
  go_wp2_with fail
  go_at_call 214
  refine (shifted_any _ _ _ _ hp).mono ?_
  rintro e w' ⟨rfl, rfl⟩
  go_wp2
  go_ret2
  exact ⟨rfl, rfl⟩
theorem ror_or {m p : Int} (hm : By m) : Go.bits .or .u8 (m / 2) (p % 2 * 128) = rorV m p := by
  rcases (show p % 2 = 0 ∨ p % 2 = 1 by omega) with h | h
  · unfold rorV
    rw [h]
    exact byte_all (P := fun m => Go.bits .or .u8 (m / 2) (0 * 128) = m / 2 + 128 * 0) (by decide +kernel) hm
  · unfold rorV
    rw [h]
    exact byte_all (P := fun m => Go.bits .or .u8 (m / 2) (1 * 128) = m / 2 + 128 * 1) (by decide +kernel) hm
set_option maxHeartbeats 1600000 in
theorem ror_any (m p : Int) (w : World) (hm : By m) (hp : By p) :
    Calls Tryz.prog 200 #[.int .u8 m, .int .u8 p] w fun e w' => e = .returned (.tuple #[.int .u8 (rorV m p), .int .u8 (rorF m p)]) ∧ w = w' := by
  have ho := and_one hp
  have hq := and_one hm
  have hr := ror_or (p := p) hm
  have hm' := hm
  obtain ⟨hm0, hm1⟩ := hm'
  go_enter Tryz.func200, Tryz.ntmps200
  go_wp2_with fail
  go_at_call 214
  refine (shifted_any _ _ _ _ hp).mono ?_
  rintro e w' ⟨rfl, rfl⟩
  go_wp2
  go_ret2
  exact ⟨rfl, rfl⟩
set_option maxHeartbeats 1600000 in
theorem cmp_any (r m p : Int) (w : World) (hr : By r) (hm : By m) (hp : By p) :
    Calls Tryz.prog 207 #[.int .u8 r, .int .u8 m, .int .u8 p] w fun e w' => e = .returned (.int .u8 (cmpF r m p)) ∧ w = w' := by
  obtain ⟨hm0, hm1⟩ := hm
  obtain ⟨hr0, hr1⟩ := hr
  go_enter Tryz.func207, Tryz.ntmps207
  go_wp2_with fail
  go_at_call 205
  refine (flag_any _ _ _ _ hp (.inl rfl)).mono ?_
  rintro e w' ⟨rfl, rfl⟩
  go_wp2_with fail
  go_at_call 201
  refine (nz_any _ _ _ (fl_by hp (.inl rfl) _)).mono ?_
  rintro e w' ⟨rfl, rfl⟩
  go_wp2
  go_ret
  exact ⟨rfl, rfl⟩
set_option maxHeartbeats 1600000 in
theorem sbx_any (r m p : Int) (w : World) (hr : By r) (hm : By m) (hp : By p) :
    Calls Tryz.prog 209 #[.int .u8 r, .int .u8 m, .int .u8 p] w fun e w' => e = .returned (.tuple #[.int .u8 (sbxV r m), .int .u8 (cmpF r m p)]) ∧ w = w' := by
  have hr' := hr
  have hm' := hm
  obtain ⟨hm0, hm1⟩ := hm'
  obtain ⟨hr0, hr1⟩ := hr'
  go_enter Tryz.func209, Tryz.ntmps209
  go_wp2_with fail
  go_at_call 207
  refine (cmp_any _ _ _ _ hr hm hp).mono ?_
  rintro e w' ⟨rfl, rfl⟩
  go_wp2
  go_ret2
  exact ⟨rfl, rfl⟩
set_option maxHeartbeats 1600000 in
theorem bit_any (a m p : Int) (w : World) (ha : By a) (hm : By m) (hp : By p) :
    Calls Tryz.prog 208 #[.int .u8 a, .int .u8 m, .int .u8 p] w fun e w' => e = .returned (.int .u8 (bitF a m p)) ∧ w = w' := by
  have h1 : Go.bits .and .u8 a m = land a m := u8_and a m ha.1 ha.2 hm.1 hm.2
  have h2 := and_has hm (.inr (.inr (.inr (.inl rfl))))
  have h3 := and_has hm (.inr (.inr (.inr (.inr rfl))))
  go_enter Tryz.func208, Tryz.ntmps208
  go_wp2_with fail
  go_at_call 205
  refine (flag_any _ _ _ _ hp (.inr (.inl rfl))).mono ?_
  rintro e w' ⟨rfl, rfl⟩
  go_wp2_with fail
  go_at_call 205
  refine (flag_any _ _ _ _ (fl_by hp (.inr (.inl rfl)) _) (.inr (.inr (.inr (.inl rfl))))).mono ?_
  rintro e w' ⟨rfl, rfl⟩
  go_wp2_with fail
  go_at_call 205
  refine (flag_any _ _ _ _ (fl_by (fl_by hp (.inr (.inl rfl)) _) (.inr (.inr (.inr (.inl rfl)))) _) (.inr (.inr (.inr (.inr rfl))))).mono ?_
  rintro e w' ⟨rfl, rfl⟩
  go_wp2
  go_ret
  exact ⟨rfl, rfl⟩
end Go.Proofs.YtifajfjiloajfaaGreatDoor.Own
namespace Go.Proofs.YtifajfjiloajfaaGreatDoor.Own
open Go.RowKit

def Blk (w : World) (g : Nat) (t : TypeId) (cs : Array Value) : Prop := w.heap[g]? = some (.cells cs t (0, 0))

section
variable {w w' : World} {g : Nat} {t : TypeId} {cs : Array Value}
theorem Blk.lt (h : Blk w g t cs) : g < w.heap.size := by
  rcases Nat.lt_or_ge g w.heap.size with hlt | hge
  · exact hlt
  · unfold Blk at h; rw [Array.getElem?_eq_none hge] at h; cases h
theorem Blk.cell (h : Blk w g t cs) (i : Nat) : w.cell? ⟨g, i, none⟩ = cs[i]? := cell_of_row w g i cs t (0, 0) h
theorem Blk.frozen (h : Blk w g t cs) (i : Nat) : w.frozen? ⟨g, i, none⟩ = false := by
  unfold Blk at h
  simp [World.frozen?, h]
theorem Blk.new (w : World) (t : TypeId) (cs : Array Value) : Blk (w.alloc (.cells cs t)) w.heap.size t cs := heap_alloc_new w _
theorem Blk.drew (h : Blk w g t cs) : Blk w.drew g t cs := h
theorem Blk.drewN (h : Blk w g t cs) (n : Nat) : Blk (w.drewN n) g t cs := h
theorem Blk.alloc (h : Blk w g t cs) (o : Obj) : Blk (w.alloc o) g t cs := (Below.heap_alloc w o g h.lt).trans h
theorem Blk.set_ (h : Blk w g t cs) (i : Nat) (u : Value) : Blk (w.setCell ⟨g, i, none⟩ u) g t (cs.setIfInBounds i u) := by
  unfold Blk at h ⊢
  simp [World.setCell, Array.getElem?_modify, h]
theorem Blk.far (h : Blk w g t cs) {p : Addr} (hp : g ≠ p.block) (u : Value) : Blk (w.setCell p u) g t cs := (Below.heap_setCell w p u g hp).trans h
theorem Blk.below {B : Nat} (h : Blk w g t cs) (hb : Below B w w') (hg : g < B) : Blk w' g t cs := (hb.block g hg).trans h
theorem Blk.grown {row : Option Nat} (h : Blk w g t cs) (hb : w.grownBy w' row) (hg : some g ≠ row) : Blk w' g t cs := (hb.block g h.lt hg).trans h
end

theorem ofInt_i64 (a : Nat) (ha : a < 9223372036854775808) : (BitVec.ofInt 64 (a : Int)).toNat = a := by
  rw [BitVec.ofInt_natCast, BitVec.toNat_ofNat]; exact Nat.mod_eq_of_lt (by omega)
theorem i64_and_nat (a b : Nat) (ha : a < 9223372036854775808) (hb : b < 9223372036854775808) : Go.bits .and .i64 (a : Int) (b : Int) = ((a &&& b : Nat) : Int) := by
  have hx : a &&& b < 2 ^ 63 := Nat.and_lt_two_pow _ (by omega)
  show IntKind.i64.wrap ((BitVec.ofInt 64 (a : Int) &&& BitVec.ofInt 64 (b : Int)).toNat : Int) = _
  rw [BitVec.toNat_and, ofInt_i64 a ha, ofInt_i64 b hb, IntKind.wrap_i64]
  omega
theorem i64_xor_nat (a b : Nat) (ha : a < 9223372036854775808) (hb : b < 9223372036854775808) : Go.bits .xor .i64 (a : Int) (b : Int) = ((a ^^^ b : Nat) : Int) := by
  have hx : a ^^^ b < 2 ^ 63 := Nat.xor_lt_two_pow (by omega) (by omega)
  show IntKind.i64.wrap ((BitVec.ofInt 64 (a : Int) ^^^ BitVec.ofInt 64 (b : Int)).toNat : Int) = _
  rw [BitVec.toNat_xor, ofInt_i64 a ha, ofInt_i64 b hb, IntKind.wrap_i64]
  omega
theorem nat_of {v : Int} {n : Nat} (h : 0 ≤ v ∧ v < (n : Int)) : ∃ k : Nat, v = (k : Int) ∧ k < n := ⟨v.toNat, by omega, by omega⟩
theorem i64_low {a : Int} (h : 0 ≤ a ∧ a < 65536) : Go.bits .and .i64 a 15 = a % 16 := by
  obtain ⟨n, rfl, hn⟩ := nat_of (n := 65536) h
  rw [show (15 : Int) = ((15 : Nat) : Int) from rfl, i64_and_nat n 15 (by omega) (by omega), nat_mask4]
  omega
theorem i64_byte {a : Int} (h : 0 ≤ a ∧ a < 65536) : Go.bits .and .i64 a 255 = a % 256 := by
  obtain ⟨n, rfl, hn⟩ := nat_of (n := 65536) h
  rw [show (255 : Int) = ((255 : Nat) : Int) from rfl, i64_and_nat n 255 (by omega) (by omega), nat_mask8]
  omega
theorem i64_top {a : Int} (h : 0 ≤ a ∧ a < 65536) : Go.bits .and .i64 a 128 = a / 128 % 2 * 128 := by
  obtain ⟨n, rfl, hn⟩ := nat_of (n := 65536) h
  rw [show (128 : Int) = ((128 : Nat) : Int) from rfl, i64_and_nat n 128 (by omega) (by omega), show (128 : Nat) = 2 ^ 7 from rfl, nat_bit]
  omega
theorem i64_sign {a : Int} (h : 0 ≤ a ∧ a < 65536) : (Go.bits .and .i64 a 128 != 0) = has a 128 := by
  rw [i64_top h]
  unfold has
  rw [Bool.eq_iff_iff]
  simp
  omega
theorem i64_high {a : Int} (h : By a) : Go.bits .and .i64 a 240 = a - a % 16 := byte_all (P := fun a => Go.bits .and .i64 a 240 = a - a % 16) (by decide +kernel) h
theorem xor_bit (a b : Nat) : (a ^^^ b) / 128 % 2 = (a / 128 + b / 128) % 2 := by
  have h := Nat.testBit_xor a b 7
  rw [Nat.testBit_eq_decide_div_mod_eq, Nat.testBit_eq_decide_div_mod_eq, Nat.testBit_eq_decide_div_mod_eq] at h
  rw [show 2 ^ 7 = 128 from rfl] at h
  rcases Nat.mod_two_eq_zero_or_one (a / 128) with ha | ha <;> rcases Nat.mod_two_eq_zero_or_one (b / 128) with hb | hb <;> simp [ha, hb] at h <;> omega
theorem and_bit (a b : Nat) : (a &&& b) / 128 % 2 = a / 128 % 2 * (b / 128 % 2) := by
  have h := Nat.testBit_and a b 7
  rw [Nat.testBit_eq_decide_div_mod_eq, Nat.testBit_eq_decide_div_mod_eq, Nat.testBit_eq_decide_div_mod_eq] at h
  rw [show 2 ^ 7 = 128 from rfl] at h
  rcases Nat.mod_two_eq_zero_or_one (a / 128) with ha | ha <;> rcases Nat.mod_two_eq_zero_or_one (b / 128) with hb | hb <;> simp [ha, hb] at h <;> simp [ha, hb] <;> omega
theorem ovr_bits {a m s : Int} (ha : By a) (hm : By m) (hs : 0 ≤ s ∧ s < 65536) :
    (Go.bits .and .i64 (Go.bits .and .i64 (Go.bits .xor .i64 a s) (Go.bits .xor .i64 m s)) 128 != 0) = ovr a m s := by
  obtain ⟨x, rfl, hx⟩ := nat_of (n := 256) ha
  obtain ⟨y, rfl, hy⟩ := nat_of (n := 256) hm
  obtain ⟨z, rfl, hz⟩ := nat_of (n := 65536) hs
  rw [i64_xor_nat x z (by omega) (by omega), i64_xor_nat y z (by omega) (by omega)]
  have h1 : x ^^^ z < 2 ^ 16 := Nat.xor_lt_two_pow (by omega) (by omega)
  have h2 : y ^^^ z < 2 ^ 16 := Nat.xor_lt_two_pow (by omega) (by omega)
  rw [i64_and_nat _ _ (by omega) (by omega)]
  have h3 : (x ^^^ z) &&& (y ^^^ z) < 2 ^ 16 := Nat.and_lt_two_pow _ h2
  rw [show (128 : Int) = ((128 : Nat) : Int) from rfl, i64_and_nat _ 128 (by omega) (by omega), show (128 : Nat) = 2 ^ 7 from rfl, nat_bit, show 2 ^ 7 = 128 from rfl, and_bit, xor_bit, xor_bit]
  have e1 : (x / 128 + z / 128) % 2 = (x / 128 % 2 + z / 128 % 2) % 2 := by omega
  have e2 : (y / 128 + z / 128) % 2 = (y / 128 % 2 + z / 128 % 2) % 2 := by omega
  have hX : (x : Int) / 128 % 2 = ((x / 128 % 2 : Nat) : Int) := by omega
  have hY : (y : Int) / 128 % 2 = ((y / 128 % 2 : Nat) : Int) := by omega
  have hZ : (z : Int) / 128 % 2 = ((z / 128 % 2 : Nat) : Int) := by omega
  unfold ovr has
  rw [hX, hY, hZ, e1, e2]
  rcases Nat.mod_two_eq_zero_or_one (x / 128) with ha | ha <;> rcases Nat.mod_two_eq_zero_or_one (y / 128) with hb | hb <;> rcases Nat.mod_two_eq_zero_or_one (z / 128) with hc | hc <;> rw [ha, hb, hc] <;> rfl

theorem ret_int {k : IntKind} {a b : Int} (h : a = b) : Ending.returned (.int k a) = .returned (.int k b) := by rw [h]
set_option maxHeartbeats 1600000 in
theorem operand_any (a m p : Int) (w : World) (ha : By a) (hm : By m) (hp : By p) :
    Calls Tryz.prog 202 #[.int .u8 a, .int .u8 m, .int .u8 p] w fun e w' => e = .returned (.agg #[.int .i64 a, .int .i64 m, .int .i64 (p % 2)]) ∧ Below w.heap.size w w' := by
  have ho := and_one hp
  obtain ⟨hm0, hm1⟩ := hm
  obtain ⟨ha0, ha1⟩ := ha
  go_enter Tryz.func202, Tryz.ntmps202
  go_wp2
  exact bodyPost_ret (v := .agg #[.int .i64 a, .int .i64 m, .int .i64 (p % 2)]) (by simp [results, Tryz.results202, go_sem]) rfl ⟨rfl, (Below.refl _ _).alloc (Nat.le_refl _) _⟩
set_option maxHeartbeats 1600000 in
theorem binary_any (a m c : Int) (w : World) (ha : By a) (hm : By m) (hc : 0 ≤ c ∧ c < 2) :
    Calls Tryz.prog 204 #[.agg #[.int .i64 a, .int .i64 m, .int .i64 c]] w fun e w' => e = .returned (.int .i64 (sumB a m c)) ∧ Below w.heap.size w w' := by
  obtain ⟨hm0, hm1⟩ := hm
  obtain ⟨ha0, ha1⟩ := ha
  obtain ⟨hc0, hc1⟩ := hc
  go_enter Tryz.func204, Tryz.ntmps204
  go_wp2
  go_ret
  exact ⟨rfl, (Below.refl _ _).alloc (Nat.le_refl _) _⟩
set_option maxHeartbeats 1600000 in
theorem over_any (a m c s : Int) (w : World) (ha : By a) (hm : By m) (hs : 0 ≤ s ∧ s < 65536) :
    Calls Tryz.prog 215 #[.agg #[.int .i64 a, .int .i64 m, .int .i64 c], .int .i64 s] w fun e w' => e = .returned (.bool (ovr a m s)) ∧ Below w.heap.size w w' := by
  have h1 := ovr_bits ha hm hs
  go_enter Tryz.func215, Tryz.ntmps215
  go_wp2
  go_ret
  exact ⟨rfl, (Below.refl _ _).alloc (Nat.le_refl _) _⟩
set_option maxHeartbeats 3200000 in
theorem decimal_any (a m c : Int) (w : World) (ha : By a) (hm : By m) (hc : 0 ≤ c ∧ c < 2) :
    Calls Tryz.prog 206 #[.agg #[.int .i64 a, .int .i64 m, .int .i64 c]] w fun e w' => e = .returned (.int .i64 (midD a m c)) ∧ Below w.heap.size w w' := by
  have h1 := i64_low (a := a) ⟨ha.1, by have := ha.2; omega⟩
  have h2 := i64_low (a := m) ⟨hm.1, by have := hm.2; omega⟩
  have h3 := i64_high ha
  have h4 := i64_high hm
  have h5 : Go.bits .and .i64 (a % 16 + m % 16 + c + 6) 15 = (a % 16 + m % 16 + c + 6) % 16 := i64_low (by omega)
  obtain ⟨hm0, hm1⟩ := hm
  obtain ⟨ha0, ha1⟩ := ha
  obtain ⟨hc0, hc1⟩ := hc
  unfold midD lowD
  by_cases h : a % 16 + m % 16 + c ≥ 10
  · rw [if_pos h]
    have hb : decide (a % 16 + m % 16 + c ≥ 10) = true := by simpa using h
    have hb' : decide (10 ≤ a % 16 + m % 16 + c) = true := by simpa using h
    clear h
    go_enter Tryz.func206, Tryz.ntmps206
    go_wp2
    go_ret
    exact ⟨ret_int (by omega), (Below.refl _ _).alloc (Nat.le_refl _) _⟩
  · rw [if_neg h]
    have hb : decide (a % 16 + m % 16 + c ≥ 10) = false := by simpa using h
    have hb' : decide (10 ≤ a % 16 + m % 16 + c) = false := by simpa using h
    clear h
    go_enter Tryz.func206, Tryz.ntmps206
    go_wp2
    go_ret
    exact ⟨rfl, (Below.refl _ _).alloc (Nat.le_refl _) _⟩

set_option maxHeartbeats 3200000 in
theorem sums_bin (a m c p : Int) (w : World) (ha : By a) (hm : By m) (hc : 0 ≤ c ∧ c < 2) (hp : By p) :
    Calls Tryz.prog 203 #[.agg #[.int .i64 a, .int .i64 m, .int .i64 c], .int .u8 p, .func (.func 204) #[] #[]] w fun e w' => e = .returned (.tuple #[.int .i64 (sumB a m c), .int .u8 (sumsF a m c (sumB a m c) p)]) ∧ Below w.heap.size w w' := by
  have hs : 0 ≤ sumB a m c ∧ sumB a m c < 65536 := by have := sumB_rng ha hm hc; omega
  have h1 := i64_sign hs
  have hq : 0 ≤ sumB a m c ∧ sumB a m c < 65536 := by have := sumB_rng ha hm hc; omega
  have h2 := i64_byte hq
  have hob : Blk (w.alloc (.cells #[.int .i64 a, .int .i64 m, .int .i64 c] 203)) w.heap.size 203 #[.int .i64 a, .int .i64 m, .int .i64 c] := Blk.new _ _ _
  have hb0 : Below w.heap.size w (w.alloc (.cells #[.int .i64 a, .int .i64 m, .int .i64 c] 203)) := (Below.refl _ _).alloc (Nat.le_refl _) _
  have H1 := Lib.hid h1
  have H2 := Lib.hid h2
  clear h1 h2
  go_enter Tryz.func203, Tryz.ntmps203
  go_wp2_with fail
  generalize w.alloc (.cells #[.int .i64 a, .int .i64 m, .int .i64 c] 203) = w1 at *
  have hbs := hb0.size
  have hol := hob.lt
  go_at_call 204
  refine (binary_any _ _ _ _ ha hm hc).mono ?_
  rintro e w2 ⟨rfl, hb2⟩
  have hob2 := hob.below hb2 hol
  have hb02 := hb0.trans (hb2.mono hbs)
  have hbs2 := hb02.size
  have hol2 := hob2.lt
  have q0 := (hob2.cell 0).trans (show (#[Value.int .i64 a, .int .i64 m, .int .i64 c] : Array Value)[0]? = some (.int .i64 a) from rfl)
  have q1 := (hob2.cell 1).trans (show (#[Value.int .i64 a, .int .i64 m, .int .i64 c] : Array Value)[1]? = some (.int .i64 m) from rfl)
  have q2 := (hob2.cell 2).trans (show (#[Value.int .i64 a, .int .i64 m, .int .i64 c] : Array Value)[2]? = some (.int .i64 c) from rfl)
  have h1 := H1.out
  go_wp2_with fail
  clear h1
  go_at_call 205
  refine (flag_any _ _ _ _ hp (.inr (.inr (.inr (.inr rfl))))).mono ?_
  rintro e w' ⟨rfl, rfl⟩
  go_wp2_with fail
  clear q0 q1 q2
  go_at_call 215
  refine (over_any _ _ _ _ _ ha hm hs).mono ?_
  rintro e w3 ⟨rfl, hb3⟩
  have hob3 := hob2.below hb3 hol2
  have hb03 := hb02.trans (hb3.mono hbs2)
  have hbs3 := hb03.size
  have hol3 := hob3.lt
  have q0 := (hob3.cell 0).trans (show (#[Value.int .i64 a, .int .i64 m, .int .i64 c] : Array Value)[0]? = some (.int .i64 a) from rfl)
  have q1 := (hob3.cell 1).trans (show (#[Value.int .i64 a, .int .i64 m, .int .i64 c] : Array Value)[1]? = some (.int .i64 m) from rfl)
  have q2 := (hob3.cell 2).trans (show (#[Value.int .i64 a, .int .i64 m, .int .i64 c] : Array Value)[2]? = some (.int .i64 c) from rfl)
  go_wp2_with fail
  go_at_call 205
  refine (flag_any _ _ _ _ (fl_by hp (.inr (.inr (.inr (.inr rfl)))) _) (.inr (.inr (.inr (.inl rfl))))).mono ?_
  rintro e w' ⟨rfl, rfl⟩
  go_wp2_with fail
  clear q0 q1 q2
  go_at_call 204
  refine (binary_any _ _ _ _ ha hm hc).mono ?_
  rintro e w4 ⟨rfl, hb4⟩
  have hb04 := hb03.trans (hb4.mono hbs3)
  have h2 := H2.out
  go_wp2_with fail
  clear h2
  go_at_call 205
  refine (flag_any _ _ _ _ (fl_by (fl_by hp (.inr (.inr (.inr (.inr rfl)))) _) (.inr (.inr (.inr (.inl rfl)))) _) (.inr (.inl rfl))).mono ?_
  rintro e w' ⟨rfl, rfl⟩
  go_wp2
  go_ret2
  exact ⟨rfl, hb04⟩
set_option maxHeartbeats 3200000 in
theorem sums_dec (a m c p : Int) (w : World) (ha : By a) (hm : By m) (hc : 0 ≤ c ∧ c < 2) (hp : By p) :
    Calls Tryz.prog 203 #[.agg #[.int .i64 a, .int .i64 m, .int .i64 c], .int .u8 p, .func (.func 206) #[] #[]] w fun e w' => e = .returned (.tuple #[.int .i64 (midD a m c), .int .u8 (sumsF a m c (midD a m c) p)]) ∧ Below w.heap.size w w' := by
  have hs : 0 ≤ midD a m c ∧ midD a m c < 65536 := by have := midD_rng ha hm hc; omega
  have h1 := i64_sign hs
  have hq : 0 ≤ sumB a m c ∧ sumB a m c < 65536 := by have := sumB_rng ha hm hc; omega
  have h2 := i64_byte hq
  have hob : Blk (w.alloc (.cells #[.int .i64 a, .int .i64 m, .int .i64 c] 203)) w.heap.size 203 #[.int .i64 a, .int .i64 m, .int .i64 c] := Blk.new _ _ _
  have hb0 : Below w.heap.size w (w.alloc (.cells #[.int .i64 a, .int .i64 m, .int .i64 c] 203)) := (Below.refl _ _).alloc (Nat.le_refl _) _
  have H1 := Lib.hid h1
  have H2 := Lib.hid h2
  clear h1 h2
  go_enter Tryz.func203, Tryz.ntmps203
  go_wp2_with fail
  generalize w.alloc (.cells #[.int .i64 a, .int .i64 m, .int .i64 c] 203) = w1 at *
  have hbs := hb0.size
  have hol := hob.lt
  go_at_call 206
  refine (decimal_any _ _ _ _ ha hm hc).mono ?_
  rintro e w2 ⟨rfl, hb2⟩
  have hob2 := hob.below hb2 hol
  have hb02 := hb0.trans (hb2.mono hbs)
  have hbs2 := hb02.size
  have hol2 := hob2.lt
  have q0 := (hob2.cell 0).trans (show (#[Value.int .i64 a, .int .i64 m, .int .i64 c] : Array Value)[0]? = some (.int .i64 a) from rfl)
  have q1 := (hob2.cell 1).trans (show (#[Value.int .i64 a, .int .i64 m, .int .i64 c] : Array Value)[1]? = some (.int .i64 m) from rfl)
  have q2 := (hob2.cell 2).trans (show (#[Value.int .i64 a, .int .i64 m, .int .i64 c] : Array Value)[2]? = some (.int .i64 c) from rfl)
  have h1 := H1.out
  go_wp2_with fail
  clear h1
  go_at_call 205
  refine (flag_any _ _ _ _ hp (.inr (.inr (.inr (.inr rfl))))).mono ?_
  rintro e w' ⟨rfl, rfl⟩
  go_wp2_with fail
  clear q0 q1 q2
  go_at_call 215
  refine (over_any _ _ _ _ _ ha hm hs).mono ?_
  rintro e w3 ⟨rfl, hb3⟩
  have hob3 := hob2.below hb3 hol2
  have hb03 := hb02.trans (hb3.mono hbs2)
  have hbs3 := hb03.size
  have hol3 := hob3.lt
  have q0 := (hob3.cell 0).trans (show (#[Value.int .i64 a, .int .i64 m, .int .i64 c] : Array Value)[0]? = some (.int .i64 a) from rfl)
  have q1 := (hob3.cell 1).trans (show (#[Value.int .i64 a, .int .i64 m, .int .i64 c] : Array Value)[1]? = some (.int .i64 m) from rfl)
  have q2 := (hob3.cell 2).trans (show (#[Value.int .i64 a, .int .i64 m, .int .i64 c] : Array Value)[2]? = some (.int .i64 c) from rfl)
  go_wp2_with fail
  go_at_call 205
  refine (flag_any _ _ _ _ (fl_by hp (.inr (.inr (.inr (.inr rfl)))) _) (.inr (.inr (.inr (.inl rfl))))).mono ?_
  rintro e w' ⟨rfl, rfl⟩
  go_wp2_with fail
  clear q0 q1 q2
  go_at_call 204
  refine (binary_any _ _ _ _ ha hm hc).mono ?_
  rintro e w4 ⟨rfl, hb4⟩
  have hb04 := hb03.trans (hb4.mono hbs3)
  have h2 := H2.out
  go_wp2_with fail
  clear h2
  go_at_call 205
  refine (flag_any _ _ _ _ (fl_by (fl_by hp (.inr (.inr (.inr (.inr rfl)))) _) (.inr (.inr (.inr (.inl rfl)))) _) (.inr (.inl rfl))).mono ?_
  rintro e w' ⟨rfl, rfl⟩
  go_wp2
  go_ret2
  exact ⟨rfl, hb04⟩

theorem has_p {p f : Int} (hp : By p) (hf : isF f) : (Go.bits .and .u8 p f == 0) = !has p f := by
  rw [← and_has hp hf]
  cases h : (Go.bits .and .u8 p f == 0) <;> simp [bne, h]
set_option maxHeartbeats 3200000 in
theorem adc_bin (a m p : Int) (w : World) (ha : By a) (hm : By m) (hp : By p) (hd : has p 8 = false) :
    Calls Tryz.prog 189 #[.int .u8 a, .int .u8 m, .int .u8 p] w fun e w' => e = .returned (.tuple #[.int .u8 (adcV a m p), .int .u8 (adcF a m p)]) ∧ Below w.heap.size w w' := by
  have hc : 0 ≤ p % 2 ∧ p % 2 < 2 := by omega
  have eM : adcM a m p = sumB a m (p % 2) := by unfold adcM; rw [hd]; rfl
  have eE : adcE a m p = sumB a m (p % 2) := by unfold adcE; rw [if_neg (by simp [hd]), eM]
  have hq := has_p hp (.inr (.inr (.inl rfl)))
  rw [hd] at hq
  unfold adcV adcF
  rw [eE, eM]
  obtain ⟨hs0, hs1⟩ := sumB_rng ha hm hc
  clear eE eM hd
  go_enter Tryz.func189, Tryz.ntmps189
  go_wp2_with fail
  go_at_call 202
  refine (operand_any _ _ _ _ ha hm hp).mono ?_
  rintro e w1 ⟨rfl, hb1⟩
  have hob : Blk (w1.alloc (.cells #[.int .i64 a, .int .i64 m, .int .i64 (p % 2)] 203)) w1.heap.size 203 #[.int .i64 a, .int .i64 m, .int .i64 (p % 2)] := Blk.new _ _ _
  have hb2 := hb1.alloc hb1.size (.cells #[.int .i64 a, .int .i64 m, .int .i64 (p % 2)] 203)
  go_wp2_with fail
  generalize w1.alloc (.cells #[.int .i64 a, .int .i64 m, .int .i64 (p % 2)] 203) = w2 at *
  go_at_call 203
  refine (sums_bin _ _ _ _ _ ha hm hc hp).mono ?_
  rintro e w3 ⟨rfl, hb3⟩
  have hb4 := hb2.trans (hb3.mono hb2.size)
  go_wp2_with fail
  go_at_call 205
  refine (flag_any _ _ _ _ (sumsF_by hp) (.inl rfl)).mono ?_
  rintro e w' ⟨rfl, rfl⟩
  go_wp2
  go_ret2
  exact ⟨rfl, hb4⟩
set_option maxHeartbeats 3200000 in
theorem adc_dec (a m p : Int) (w : World) (ha : By a) (hm : By m) (hp : By p) (hd : has p 8 = true) :
    Calls Tryz.prog 189 #[.int .u8 a, .int .u8 m, .int .u8 p] w fun e w' => e = .returned (.tuple #[.int .u8 (adcV a m p), .int .u8 (adcF a m p)]) ∧ Below w.heap.size w w' := by
  have hc : 0 ≤ p % 2 ∧ p % 2 < 2 := by omega
  have eM : adcM a m p = midD a m (p % 2) := by unfold adcM; rw [hd]; rfl
  have hq := has_p hp (.inr (.inr (.inl rfl)))
  obtain ⟨hs0, hs1⟩ := midD_rng ha hm hc
  by_cases hbig : midD a m (p % 2) ≥ 160
  · have eE : adcE a m p = midD a m (p % 2) + 96 := by unfold adcE; rw [if_pos ⟨hd, by rw [eM]; exact hbig⟩, eM]
    rw [hd] at hq
    unfold adcV adcF
    rw [eE, eM]
    clear eE eM hd
    go_enter Tryz.func189, Tryz.ntmps189
    go_wp2_with fail
    go_at_call 202
    refine (operand_any _ _ _ _ ha hm hp).mono ?_
    rintro e w1 ⟨rfl, hb1⟩
    have hob : Blk (w1.alloc (.cells #[.int .i64 a, .int .i64 m, .int .i64 (p % 2)] 203)) w1.heap.size 203 #[.int .i64 a, .int .i64 m, .int .i64 (p % 2)] := Blk.new _ _ _
    have hb2 := hb1.alloc hb1.size (.cells #[.int .i64 a, .int .i64 m, .int .i64 (p % 2)] 203)
    go_wp2_with fail
    generalize w1.alloc (.cells #[.int .i64 a, .int .i64 m, .int .i64 (p % 2)] 203) = w2 at *
    go_at_call 203
    refine (sums_dec _ _ _ _ _ ha hm hc hp).mono ?_
    rintro e w3 ⟨rfl, hb3⟩
    have hb4 := hb2.trans (hb3.mono hb2.size)
    go_wp2_with fail
    go_at_call 205
    refine (flag_any _ _ _ _ (sumsF_by hp) (.inl rfl)).mono ?_
    rintro e w' ⟨rfl, rfl⟩
    go_wp2
    go_ret2
    exact ⟨rfl, hb4⟩
  · have eE : adcE a m p = midD a m (p % 2) := by unfold adcE; rw [if_neg (by rw [eM]; exact fun h => hbig h.2), eM]
    rw [hd] at hq
    unfold adcV adcF
    rw [eE, eM, show midD a m (p % 2) % 256 = midD a m (p % 2) from by omega]
    clear eE eM hd
    go_enter Tryz.func189, Tryz.ntmps189
    go_wp2_with fail
    go_at_call 202
    refine (operand_any _ _ _ _ ha hm hp).mono ?_
    rintro e w1 ⟨rfl, hb1⟩
    have hob : Blk (w1.alloc (.cells #[.int .i64 a, .int .i64 m, .int .i64 (p % 2)] 203)) w1.heap.size 203 #[.int .i64 a, .int .i64 m, .int .i64 (p % 2)] := Blk.new _ _ _
    have hb2 := hb1.alloc hb1.size (.cells #[.int .i64 a, .int .i64 m, .int .i64 (p % 2)] 203)
    go_wp2_with fail
    generalize w1.alloc (.cells #[.int .i64 a, .int .i64 m, .int .i64 (p % 2)] 203) = w2 at *
    go_at_call 203
    refine (sums_dec _ _ _ _ _ ha hm hc hp).mono ?_
    rintro e w3 ⟨rfl, hb3⟩
    have hb4 := hb2.trans (hb3.mono hb2.size)
    go_wp2_with fail
    go_at_call 205
    refine (flag_any _ _ _ _ (sumsF_by hp) (.inl rfl)).mono ?_
    rintro e w' ⟨rfl, rfl⟩
    go_wp2
    go_ret2
    exact ⟨rfl, hb4⟩
theorem adc_any (a m p : Int) (w : World) (ha : By a) (hm : By m) (hp : By p) :
    Calls Tryz.prog 189 #[.int .u8 a, .int .u8 m, .int .u8 p] w fun e w' => e = .returned (.tuple #[.int .u8 (adcV a m p), .int .u8 (adcF a m p)]) ∧ Below w.heap.size w w' := by
  cases hd : has p 8
  · exact adc_bin a m p w ha hm hp hd
  · exact adc_dec a m p w ha hm hp hd
end Go.Proofs.YtifajfjiloajfaaGreatDoor.Own
namespace Go.Proofs.YtifajfjiloajfaaGreatDoor.Own
open Go.RowKit

theorem not_byte {m : Int} (hm : By m) : Op.unary .xor (.int .u8 m) = pure (.int .u8 (255 - m)) := by
  have : Go.bits .xor .u8 255 m = 255 - m := byte_all (P := fun m => Go.bits .xor .u8 255 m = 255 - m) (by decide +kernel) hm
  rw [← this]
  rfl
set_option maxHeartbeats 1600000 in
theorem sbc_bin (a m p : Int) (w : World) (ha : By a) (hm : By m) (hp : By p) (hd : has p 8 = false) :
    Calls Tryz.prog 190 #[.int .u8 a, .int .u8 m, .int .u8 p] w fun e w' => e = .returned (.tuple #[.int .u8 (sbcV a m p), .int .u8 (sbcF a m p)]) ∧ Below w.heap.size w w' := by
  have hq := has_p hp (.inr (.inr (.inl rfl)))
  have h8 := flag_not hp (.inr (.inr (.inl rfl)))
  have hx := not_byte hm
  have hn : By (255 - m) := by unfold By at *; omega
  rw [hd] at hq
  unfold sbcV sbcF
  rw [hd]
  simp only [Bool.false_eq_true, if_false]
  clear hd
  go_enter Tryz.func190, Tryz.ntmps190
  go_wp2_with fail
  go_at_call 189
  refine (adc_any _ _ _ _ ha hn (fl_by hp (.inr (.inr (.inl rfl))) _)).mono ?_
  rintro e w1 ⟨rfl, hb1⟩
  go_wp2
  go_ret2
  exact ⟨rfl, hb1⟩
theorem ret_pair {k l : IntKind} {a b c : Int} (h : a = b) : Ending.returned (.tuple #[.int k a, .int l c]) = .returned (.tuple #[.int k b, .int l c]) := by rw [h]
theorem i64_low_neg {x : Int} (h : -32 < x ∧ x ≤ 0) : Go.bits .and .i64 x 15 = x % 16 := by
  have key : ∀ k : Fin 32, Go.bits .and .i64 (-((k.val : Nat) : Int)) 15 = (-((k.val : Nat) : Int)) % 16 := by decide +kernel
  obtain ⟨n, hn, hx⟩ : ∃ n : Nat, n < 32 ∧ x = -(n : Int) := ⟨(-x).toNat, by omega, by omega⟩
  rw [hx]
  exact key ⟨n, hn⟩
set_option maxHeartbeats 6400000 in
theorem sbc_dec (a m p : Int) (w : World) (ha : By a) (hm : By m) (hp : By p) (hd : has p 8 = true) :
    Calls Tryz.prog 190 #[.int .u8 a, .int .u8 m, .int .u8 p] w fun e w' => e = .returned (.tuple #[.int .u8 (sbcV a m p), .int .u8 (sbcF a m p)]) ∧ Below w.heap.size w w' := by
  have hq := has_p hp (.inr (.inr (.inl rfl)))
  have h8 := flag_not hp (.inr (.inr (.inl rfl)))
  have hx := not_byte hm
  have hn : By (255 - m) := by unfold By at *; omega
  have hF := adcF_by (a := a) (m := 255 - m) (fl_by hp (.inr (.inr (.inl rfl))) false)
  have h80 := flag_or hF (.inr (.inr (.inl rfl)))
  have h1 := i64_low (a := a) ⟨ha.1, by have := ha.2; omega⟩
  have h2 := i64_low (a := m) ⟨hm.1, by have := hm.2; omega⟩
  have h3 := i64_high ha
  have h4 := i64_high hm
  obtain ⟨c, hc⟩ : ∃ c, p % 2 = c := ⟨_, rfl⟩
  have hcb : 0 ≤ c ∧ c < 2 := by omega
  rw [hd] at hq
  unfold sbcV sbcF
  rw [hd, hc]
  simp only [if_true]
  clear hd
  unfold sbcE midS lowS
  have ha' := ha
  have hm' := hm
  obtain ⟨ha0, ha1⟩ := ha'
  obtain ⟨hm0, hm1⟩ := hm'
  obtain ⟨hc0, hc1⟩ := hcb
  have HC := Lib.hid hc
  clear hc
  by_cases k1 : a % 16 - m % 16 + c - 1 < 0
  · have h5 := i64_low_neg (x := a % 16 - m % 16 + c - 1 - 6) (by omega)
    rw [if_pos k1]
    have k1b : decide (a % 16 - m % 16 + c - 1 < 0) = true := by simpa using k1
    by_cases k2 : a - a % 16 - (m - m % 16) + ((a % 16 - m % 16 + c - 1 - 6) % 16 - 16) < 0
    · rw [if_pos k2]
      have k2b : decide (a - a % 16 - (m - m % 16) + ((a % 16 - m % 16 + c - 1 - 6) % 16 - 15 - 1) < 0) = true := by rw [show (a % 16 - m % 16 + c - 1 - 6) % 16 - 15 - 1 = (a % 16 - m % 16 + c - 1 - 6) % 16 - 16 from by omega]; simpa using k2
      clear k1 k2
      go_enter Tryz.func190, Tryz.ntmps190
      go_wp2_with fail
      clear hx h8
      go_at_call 189
      refine (adc_any _ _ _ _ ha hn (fl_by hp (.inr (.inr (.inl rfl))) _)).mono ?_
      rintro e w1 ⟨rfl, hb1⟩
      go_wp2_with fail
      go_at_call 202
      refine (operand_any _ _ _ _ ha hm hp).mono ?_
      rintro e w2 ⟨rfl, hb2⟩
      rw [HC.out]
      go_wp2
      go_ret2
      have hbb := hb1.trans (hb2.mono hb1.size)
      exact ⟨ret_pair (by omega), hbb.alloc hbb.size _⟩
    · rw [if_neg k2]
      have k2b : decide (a - a % 16 - (m - m % 16) + ((a % 16 - m % 16 + c - 1 - 6) % 16 - 15 - 1) < 0) = false := by rw [show (a % 16 - m % 16 + c - 1 - 6) % 16 - 15 - 1 = (a % 16 - m % 16 + c - 1 - 6) % 16 - 16 from by omega]; simpa using k2
      have HK := Lib.hid k2
      clear k1 k2
      go_enter Tryz.func190, Tryz.ntmps190
      go_wp2_with fail
      clear hx h8
      go_at_call 189
      refine (adc_any _ _ _ _ ha hn (fl_by hp (.inr (.inr (.inl rfl))) _)).mono ?_
      rintro e w1 ⟨rfl, hb1⟩
      go_wp2_with fail
      go_at_call 202
      refine (operand_any _ _ _ _ ha hm hp).mono ?_
      rintro e w2 ⟨rfl, hb2⟩
      rw [HC.out]
      go_wp2
      go_ret2
      have hbb := hb1.trans (hb2.mono hb1.size)
      have hk := HK.out
      exact ⟨ret_pair (by omega), hbb.alloc hbb.size _⟩
  · rw [if_neg k1]
    have k1b : decide (a % 16 - m % 16 + c - 1 < 0) = false := by simpa using k1
    by_cases k2 : a - a % 16 - (m - m % 16) + (a % 16 - m % 16 + c - 1) < 0
    · rw [if_pos k2]
      have k2b : decide (a - a % 16 - (m - m % 16) + (a % 16 - m % 16 + c - 1) < 0) = true := by simpa using k2
      clear k1 k2
      go_enter Tryz.func190, Tryz.ntmps190
      go_wp2_with fail
      clear hx h8
      go_at_call 189
      refine (adc_any _ _ _ _ ha hn (fl_by hp (.inr (.inr (.inl rfl))) _)).mono ?_
      rintro e w1 ⟨rfl, hb1⟩
      go_wp2_with fail
      go_at_call 202
      refine (operand_any _ _ _ _ ha hm hp).mono ?_
      rintro e w2 ⟨rfl, hb2⟩
      rw [HC.out]
      go_wp2
      go_ret2
      have hbb := hb1.trans (hb2.mono hb1.size)
      exact ⟨ret_pair (by omega), hbb.alloc hbb.size _⟩
    · rw [if_neg k2]
      have k2b : decide (a - a % 16 - (m - m % 16) + (a % 16 - m % 16 + c - 1) < 0) = false := by simpa using k2
      have HK := Lib.hid k2
      clear k1 k2
      go_enter Tryz.func190, Tryz.ntmps190
      go_wp2_with fail
      clear hx h8
      go_at_call 189
      refine (adc_any _ _ _ _ ha hn (fl_by hp (.inr (.inr (.inl rfl))) _)).mono ?_
      rintro e w1 ⟨rfl, hb1⟩
      go_wp2_with fail
      go_at_call 202
      refine (operand_any _ _ _ _ ha hm hp).mono ?_
      rintro e w2 ⟨rfl, hb2⟩
      rw [HC.out]
      go_wp2
      go_ret2
      have hbb := hb1.trans (hb2.mono hb1.size)
      have hk := HK.out
      exact ⟨ret_pair (by omega), hbb.alloc hbb.size _⟩
theorem sbc_any (a m p : Int) (w : World) (ha : By a) (hm : By m) (hp : By p) :
    Calls Tryz.prog 190 #[.int .u8 a, .int .u8 m, .int .u8 p] w fun e w' => e = .returned (.tuple #[.int .u8 (sbcV a m p), .int .u8 (sbcF a m p)]) ∧ Below w.heap.size w w' := by
  cases hd : has p 8
  · exact sbc_bin a m p w ha hm hp hd
  · exact sbc_dec a m p w ha hm hp hd

theorem xor_bit6 (a b : Nat) : (a ^^^ b) / 64 % 2 = (a / 64 + b / 64) % 2 := by
  have h := Nat.testBit_xor a b 6
  rw [Nat.testBit_eq_decide_div_mod_eq, Nat.testBit_eq_decide_div_mod_eq, Nat.testBit_eq_decide_div_mod_eq] at h
  rw [show 2 ^ 6 = 64 from rfl] at h
  rcases Nat.mod_two_eq_zero_or_one (a / 64) with ha | ha <;> rcases Nat.mod_two_eq_zero_or_one (b / 64) with hb | hb <;> simp [ha, hb] at h <;> omega
theorem xor_v {t n : Int} (ht : By t) (hn : By n) : (Go.bits .and .u8 (Go.bits .xor .u8 t n) 64 != 0) = (has t 64 != has n 64) := by
  obtain ⟨x, rfl, hx⟩ := nat_of (n := 256) ht
  obtain ⟨y, rfl, hy⟩ := nat_of (n := 256) hn
  have h1 : x ^^^ y < 2 ^ 8 := Nat.xor_lt_two_pow (by omega) (by omega)
  rw [u8_xor_nat x y hx hy, show (64 : Int) = ((64 : Nat) : Int) from rfl, u8_and_nat _ 64 (by omega) (by omega), show (64 : Nat) = 2 ^ 6 from rfl, nat_bit, show 2 ^ 6 = 64 from rfl, xor_bit6]
  have e1 : (x / 64 + y / 64) % 2 = (x / 64 % 2 + y / 64 % 2) % 2 := by omega
  have hX : (x : Int) / ((64 : Nat) : Int) % 2 = ((x / 64 % 2 : Nat) : Int) := by omega
  have hY : (y : Int) / ((64 : Nat) : Int) % 2 = ((y / 64 % 2 : Nat) : Int) := by omega
  unfold has
  rw [hX, hY, e1]
  rcases Nat.mod_two_eq_zero_or_one (x / 64) with ha | ha <;> rcases Nat.mod_two_eq_zero_or_one (y / 64) with hb | hb <;> rw [ha, hb] <;> rfl
theorem has_xor {n : Int} (hn : By n) : (Go.bits .and .u8 (Go.bits .xor .u8 n (n * 2 % 256)) 64 != 0) = (has n 64 != has n 32) :=
  byte_all (P := fun n => (Go.bits .and .u8 (Go.bits .xor .u8 n (n * 2 % 256)) 64 != 0) = (has n 64 != has n 32)) (by decide +kernel) hn
theorem u8_low {n : Int} (hn : By n) : Go.bits .and .u8 n 15 = n % 16 := byte_all (P := fun n => Go.bits .and .u8 n 15 = n % 16) (by decide +kernel) hn
theorem u8_high {n : Int} (hn : By n) : Go.bits .and .u8 n 240 = n - n % 16 := byte_all (P := fun n => Go.bits .and .u8 n 240 = n - n % 16) (by decide +kernel) hn
theorem u8_16 {n : Int} (hn : By n) : Go.bits .and .u8 n 16 = 16 * (n / 16 % 2) := byte_all (P := fun n => Go.bits .and .u8 n 16 = 16 * (n / 16 % 2)) (by decide +kernel) hn
theorem u8_six {n : Int} (hn : By n) : Go.bits .and .u8 ((n + 6) % 256) 15 = (n + 6) % 16 := byte_all (P := fun n => Go.bits .and .u8 ((n + 6) % 256) 15 = (n + 6) % 16) (by decide +kernel) hn
theorem u8_fix {n : Int} (hn : By n) : Go.bits .or .u8 (n - n % 16) ((n + 6) % 16) = n - n % 16 + (n + 6) % 16 :=
  byte_all (P := fun n => Go.bits .or .u8 (n - n % 16) ((n + 6) % 16) = n - n % 16 + (n + 6) % 16) (by decide +kernel) hn

set_option maxHeartbeats 3200000 in
theorem arr_bin (a m p : Int) (w : World) (ha : By a) (hm : By m) (hp : By p) (hd : has p 8 = false) :
    Calls Tryz.prog 210 #[.int .u8 a, .int .u8 m, .int .u8 p] w fun e w' => e = .returned (.tuple #[.int .u8 (arrV a m p), .int .u8 (arrF a m p)]) ∧ w = w' := by
  have h1 : Go.bits .and .u8 a m = land a m := u8_and a m ha.1 ha.2 hm.1 hm.2
  have hq := has_p hp (.inr (.inr (.inl rfl)))
  rw [hd] at hq
  unfold arrV arrF arrR
  rw [hd]
  simp only [Bool.false_eq_true, if_false]
  clear hd
  have ht : By (land a m) := land_by ha
  have hn : By (rorV (land a m) p) := rorV_by ht p
  have HR := Lib.hid (show ∀ w, Calls Tryz.prog 200 #[.int .u8 (land a m), .int .u8 p] w fun e w' => e = .returned (.tuple #[.int .u8 (rorV (land a m) p), .int .u8 (rorF (land a m) p)]) ∧ w = w' from fun w => ror_any _ _ w ht hp)
  have h2 := and_has hn (.inr (.inr (.inr (.inl rfl))))
  have h3 := has_xor hn
  generalize rorV (land a m) p = n at *
  generalize rorF (land a m) p = nf at *
  generalize land a m = t at *
  obtain ⟨hn0, hn1⟩ := hn
  go_enter Tryz.func210, Tryz.ntmps210
  go_wp2_with fail
  go_at_call 200
  refine (HR.out _).mono ?_
  rintro e w' ⟨rfl, rfl⟩
  go_wp2_with fail
  go_at_call 201
  refine (nz_any _ _ _ hp).mono ?_
  rintro e w' ⟨rfl, rfl⟩
  go_wp2_with fail
  go_at_call 205
  refine (flag_any _ _ _ _ (nz_by hp _) (.inl rfl)).mono ?_
  rintro e w' ⟨rfl, rfl⟩
  go_wp2_with fail
  go_at_call 205
  refine (flag_any _ _ _ _ (fl_by (nz_by hp _) (.inl rfl) _) (.inr (.inr (.inr (.inl rfl))))).mono ?_
  rintro e w' ⟨rfl, rfl⟩
  go_wp2
  go_ret2
  exact ⟨rfl, rfl⟩
theorem ret_pair2 {k l : IntKind} {a b c d : Int} (h : a = b) (g : c = d) : Ending.returned (.tuple #[.int k a, .int l c]) = .returned (.tuple #[.int k b, .int l d]) := by rw [h, g]
set_option maxHeartbeats 6400000 in
theorem arr_dec (a m p : Int) (w : World) (ha : By a) (hm : By m) (hp : By p) (hd : has p 8 = true) :
    Calls Tryz.prog 210 #[.int .u8 a, .int .u8 m, .int .u8 p] w fun e w' => e = .returned (.tuple #[.int .u8 (arrV a m p), .int .u8 (arrF a m p)]) ∧ w = w' := by
  have h1 : Go.bits .and .u8 a m = land a m := u8_and a m ha.1 ha.2 hm.1 hm.2
  have hq := has_p hp (.inr (.inr (.inl rfl)))
  rw [hd] at hq
  unfold arrV arrF arrN arrH arrR
  rw [hd]
  simp only [if_true]
  clear hd
  have ht : By (land a m) := land_by ha
  have hn : By (rorV (land a m) p) := rorV_by ht p
  have HR := Lib.hid (show ∀ w, Calls Tryz.prog 200 #[.int .u8 (land a m), .int .u8 p] w fun e w' => e = .returned (.tuple #[.int .u8 (rorV (land a m) p), .int .u8 (rorF (land a m) p)]) ∧ w = w' from fun w => ror_any _ _ w ht hp)
  have h2 := xor_v ht hn
  have h3 := u8_low ht
  have h4 := and_one ht
  have h5 := u8_high hn
  have h6 := u8_six hn
  have h7 := u8_fix hn
  have h8 := u8_high ht
  have h9 := u8_16 ht
  generalize rorV (land a m) p = n at *
  generalize rorF (land a m) p = nf at *
  generalize land a m = t at *
  have g1 := flag_or (fl_by (nz_by hp n) (.inr (.inr (.inr (.inl rfl)))) (has t 64 != has n 64)) (.inl rfl)
  have g2 := flag_not (fl_by (nz_by hp n) (.inr (.inr (.inr (.inl rfl)))) (has t 64 != has n 64)) (.inl rfl)
  obtain ⟨hn0, hn1⟩ := hn
  obtain ⟨ht0, ht1⟩ := ht
  by_cases k1 : t % 16 + t % 2 > 5
  · rw [if_pos k1]
    have k1b : decide (5 < t % 16 + t % 2) = true := by simpa using k1
    by_cases k2 : 80 < t - t % 16 + 16 * (t / 16 % 2)
    · have k2b : decide (80 < t - t % 16 + 16 * (t / 16 % 2)) = true := by simpa using k2
      rw [k2b]
      simp only [if_true]
      clear k1 k2
      go_enter Tryz.func210, Tryz.ntmps210
      go_wp2_with fail
      go_at_call 200
      refine (HR.out _).mono ?_
      rintro e w' ⟨rfl, rfl⟩
      go_wp2_with fail
      go_at_call 201
      refine (nz_any _ _ _ hp).mono ?_
      rintro e w' ⟨rfl, rfl⟩
      go_wp2_with fail
      go_at_call 205
      refine (flag_any _ _ _ _ (nz_by hp _) (.inr (.inr (.inr (.inl rfl))))).mono ?_
      rintro e w' ⟨rfl, rfl⟩
      go_wp2
      go_ret2
      exact ⟨ret_pair2 (by omega) rfl, rfl⟩
    · have k2b : decide (80 < t - t % 16 + 16 * (t / 16 % 2)) = false := by simpa using k2
      rw [k2b]
      simp only [Bool.false_eq_true, if_false]
      clear k1 k2
      go_enter Tryz.func210, Tryz.ntmps210
      go_wp2_with fail
      go_at_call 200
      refine (HR.out _).mono ?_
      rintro e w' ⟨rfl, rfl⟩
      go_wp2_with fail
      go_at_call 201
      refine (nz_any _ _ _ hp).mono ?_
      rintro e w' ⟨rfl, rfl⟩
      go_wp2_with fail
      go_at_call 205
      refine (flag_any _ _ _ _ (nz_by hp _) (.inr (.inr (.inr (.inl rfl))))).mono ?_
      rintro e w' ⟨rfl, rfl⟩
      go_wp2
      go_ret2
      exact ⟨ret_pair2 (by omega) rfl, rfl⟩
  · rw [if_neg k1]
    have k1b : decide (5 < t % 16 + t % 2) = false := by simpa using k1
    by_cases k2 : 80 < t - t % 16 + 16 * (t / 16 % 2)
    · have k2b : decide (80 < t - t % 16 + 16 * (t / 16 % 2)) = true := by simpa using k2
      rw [k2b]
      simp only [if_true]
      clear k1 k2
      go_enter Tryz.func210, Tryz.ntmps210
      go_wp2_with fail
      go_at_call 200
      refine (HR.out _).mono ?_
      rintro e w' ⟨rfl, rfl⟩
      go_wp2_with fail
      go_at_call 201
      refine (nz_any _ _ _ hp).mono ?_
      rintro e w' ⟨rfl, rfl⟩
      go_wp2_with fail
      go_at_call 205
      refine (flag_any _ _ _ _ (nz_by hp _) (.inr (.inr (.inr (.inl rfl))))).mono ?_
      rintro e w' ⟨rfl, rfl⟩
      go_wp2
      go_ret2
      exact ⟨rfl, rfl⟩
    · have k2b : decide (80 < t - t % 16 + 16 * (t / 16 % 2)) = false := by simpa using k2
      rw [k2b]
      simp only [Bool.false_eq_true, if_false]
      clear k1 k2
      go_enter Tryz.func210, Tryz.ntmps210
      go_wp2_with fail
      go_at_call 200
      refine (HR.out _).mono ?_
      rintro e w' ⟨rfl, rfl⟩
      go_wp2_with fail
      go_at_call 201
      refine (nz_any _ _ _ hp).mono ?_
      rintro e w' ⟨rfl, rfl⟩
      go_wp2_with fail
      go_at_call 205
      refine (flag_any _ _ _ _ (nz_by hp _) (.inr (.inr (.inr (.inl rfl))))).mono ?_
      rintro e w' ⟨rfl, rfl⟩
      go_wp2
      go_ret2
      exact ⟨rfl, rfl⟩
theorem arr_any (a m p : Int) (w : World) (ha : By a) (hm : By m) (hp : By p) :
    Calls Tryz.prog 210 #[.int .u8 a, .int .u8 m, .int .u8 p] w fun e w' => e = .returned (.tuple #[.int .u8 (arrV a m p), .int .u8 (arrF a m p)]) ∧ w = w' := by
  cases hd : has p 8
  · exact arr_bin a m p w ha hm hp hd
  · exact arr_dec a m p w ha hm hp hd
end Go.Proofs.YtifajfjiloajfaaGreatDoor.Own

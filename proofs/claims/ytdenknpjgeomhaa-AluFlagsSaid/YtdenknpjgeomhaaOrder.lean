/- C is 1 just if the first isn't below the second, Z if they are alike: the walk. Conditions: bytes are bytes. -/
import Derived.Test.YtdenknpjgeomhaaCarries
namespace Go.Proofs.Ytdenknpjgeomhaa.Own
open Go.RowKit

def num (b : Bool) (n : Int) : Int := if b then n else 0
theorem nzc_131 {p : Int} (hp : By p) (c z n : Bool) : Go.bits .and .u8 (fl (fl (fl p 1 c) 2 z) 128 n) 131 = num c 1 + num z 2 + num n 128 := by
  have key : ∀ (m : Fin 256) (c z n : Bool), Go.bits .and .u8 (fl (fl (fl ((m.val : Nat) : Int) 1 c) 2 z) 128 n) 131 = num c 1 + num z 2 + num n 128 := by decide +kernel
  exact byte_all (P := fun p => Go.bits .and .u8 (fl (fl (fl p 1 c) 2 z) 128 n) 131 = num c 1 + num z 2 + num n 128) (fun m => key m c z n) hp
theorem nvzc_131 {p : Int} (hp : By p) (c z v n : Bool) : Go.bits .and .u8 (fl (fl (fl (fl p 128 n) 64 v) 2 z) 1 c) 131 = num c 1 + num z 2 + num n 128 := by
  have key : ∀ (m : Fin 256) (c z v n : Bool), Go.bits .and .u8 (fl (fl (fl (fl ((m.val : Nat) : Int) 128 n) 64 v) 2 z) 1 c) 131 = num c 1 + num z 2 + num n 128 := by decide +kernel
  exact byte_all (P := fun p => Go.bits .and .u8 (fl (fl (fl (fl p 128 n) 64 v) 2 z) 1 c) 131 = num c 1 + num z 2 + num n 128) (fun m => key m c z v n) hp
theorem nzc_124 {p : Int} (hp : By p) (c z n : Bool) : Go.bits .and .u8 (fl (fl (fl p 1 c) 2 z) 128 n) 124 = Go.bits .and .u8 p 124 := by
  have key : ∀ (m : Fin 256) (c z n : Bool), Go.bits .and .u8 (fl (fl (fl ((m.val : Nat) : Int) 1 c) 2 z) 128 n) 124 = Go.bits .and .u8 ((m.val : Nat) : Int) 124 := by decide +kernel
  exact byte_all (P := fun p => Go.bits .and .u8 (fl (fl (fl p 1 c) 2 z) 128 n) 124 = Go.bits .and .u8 p 124) (fun m => key m c z n) hp
theorem nzc_1 {p : Int} (hp : By p) (c z n : Bool) : Go.bits .and .u8 (fl (fl (fl p 1 c) 2 z) 128 n) 1 = num c 1 := by
  have key : ∀ (m : Fin 256) (c z n : Bool), Go.bits .and .u8 (fl (fl (fl ((m.val : Nat) : Int) 1 c) 2 z) 128 n) 1 = num c 1 := by decide +kernel
  exact byte_all (P := fun p => Go.bits .and .u8 (fl (fl (fl p 1 c) 2 z) 128 n) 1 = num c 1) (fun m => key m c z n) hp
theorem nzc_2 {p : Int} (hp : By p) (c z n : Bool) : Go.bits .and .u8 (fl (fl (fl p 1 c) 2 z) 128 n) 2 = num z 2 := by
  have key : ∀ (m : Fin 256) (c z n : Bool), Go.bits .and .u8 (fl (fl (fl ((m.val : Nat) : Int) 1 c) 2 z) 128 n) 2 = num z 2 := by decide +kernel
  exact byte_all (P := fun p => Go.bits .and .u8 (fl (fl (fl p 1 c) 2 z) 128 n) 2 = num z 2) (fun m => key m c z n) hp
theorem num_1 (b : Bool) : (num b 1 == 1) = b := by cases b <;> rfl
theorem num_2 (b : Bool) : (num b 2 == 2) = b := by cases b <;> rfl
theorem up8 {p : Int} (hp : By p) : has (fl (fl p 8 false) 1 true) 8 = false := byte_all (P := fun p => has (fl (fl p 8 false) 1 true) 8 = false) (by decide +kernel) hp

set_option maxHeartbeats 3200000 in
theorem order_walk (a m p : Int) (w : World) (ha : By a) (hm : By m) (hp : By p) :
    Calls Try.prog 8 #[.int .u8 a, .int .u8 m, .int .u8 p] w fun e w' => e = .returned (.bool true) ∧ Below w.heap.size w w' := by
  have hp8 : By (fl p 8 false) := fl_by hp (.inr (.inr (.inl rfl))) false
  have hq : By (fl (fl p 8 false) 1 true) := fl_by hp8 (.inl rfl) true
  have h8 := flag_not hp (.inr (.inr (.inl rfl)))
  have h81 := flag_or hp8 (.inl rfl)
  have hd := up8 hp
  have ho : fl (fl p 8 false) 1 true % 2 = 1 := fl_one _ true
  generalize fl (fl p 8 false) 1 true = q at *
  generalize fl p 8 false = p8 at *
  have hG : sbcF a m q = adcF a (255 - m) q := by unfold sbcF; rw [hd]; simp only [Bool.false_eq_true, if_false]; rw [no8_no8 hd]
  have hM : adcM a (255 - m) q = a - m + 256 := by unfold adcM; rw [hd, ho]; show a + (255 - m) + 1 = _; omega
  have hE : adcE a (255 - m) q = a - m + 256 := by unfold adcE; rw [if_neg (by simp [hd]), hM]
  have hb : sumB a (255 - m) 1 = a - m + 256 := by unfold sumB; omega
  have c1 : decide (255 < a - m + 256) = decide (m ≤ a) := by rw [decide_eq_decide]; omega
  have c2 : ((a - m + 256) % 256 == 0) = ((a - m) % 256 == 0) := by rw [Bool.eq_iff_iff]; simp
  have c3 : has (a - m + 256) 128 = decide (128 ≤ (a - m) % 256) := by unfold has; unfold By at *; rw [Bool.eq_iff_iff]; simp; omega
  have hg131 : Go.bits .and .u8 (sbcF a m q) 131 = num (decide (m ≤ a)) 1 + num ((a - m) % 256 == 0) 2 + num (decide (128 ≤ (a - m) % 256)) 128 := by
    rw [hG]
    unfold adcF sumsF
    rw [ho, hM, hE, hb, nvzc_131 hq, c1, c2, c3]
  have hf131 : Go.bits .and .u8 (cmpF a m p) 131 = num (decide (m ≤ a)) 1 + num ((a - m) % 256 == 0) 2 + num (decide (128 ≤ (a - m) % 256)) 128 := nzc_131 hp _ _ _
  have hf124 : Go.bits .and .u8 (cmpF a m p) 124 = Go.bits .and .u8 p 124 := nzc_124 hp _ _ _
  have hf1 : (Go.bits .and .u8 (cmpF a m p) 1 == 1) = decide (m ≤ a) := by rw [show Go.bits .and .u8 (cmpF a m p) 1 = num (decide (m ≤ a)) 1 from nzc_1 hp _ _ _, num_1]
  have hf2 : (Go.bits .and .u8 (cmpF a m p) 2 == 2) = (a == m) := by
    rw [show Go.bits .and .u8 (cmpF a m p) 2 = num ((a - m) % 256 == 0) 2 from nzc_2 hp _ _ _, num_2]
    unfold By at *
    rw [Bool.eq_iff_iff]
    simp
    omega
  have HC := Lib.hid (show ∀ w, Calls Try.prog 24 #[.int .u8 a, .int .u8 m, .int .u8 p] w fun e w' => e = .returned (.int .u8 (cmpF a m p)) ∧ w = w' from fun w => cmp_any a m p w ha hm hp)
  have HX := Lib.hid (show ∀ w, Calls Try.prog 25 #[.int .u8 a, .int .u8 m, .int .u8 p] w fun e w' => e = .returned (.tuple #[.int .u8 ((a - m) % 256), .int .u8 (cmpF a m p)]) ∧ w = w' from fun w => sbx_any a m p w ha hm hp)
  have HS := Lib.hid (show ∀ w, Calls Try.prog 22 #[.int .u8 a, .int .u8 m, .int .u8 q] w fun e w' => e = .returned (.tuple #[.int .u8 (sbcV a m q), .int .u8 (sbcF a m q)]) ∧ Below w.heap.size w w' from fun w => sbc_any a m q w ha hm hq)
  generalize num (decide (m ≤ a)) 1 + num ((a - m) % 256 == 0) 2 + num (decide (128 ≤ (a - m) % 256)) 128 = k at *
  generalize cmpF a m p = f at *
  generalize sbcV a m q = sv at *
  generalize sbcF a m q = g at *
  clear hG hM hE hb c1 c2 c3 hd ho
  obtain ⟨ha0, ha1⟩ := ha
  obtain ⟨hm0, hm1⟩ := hm
  go_enter Try.func8, Try.ntmps8
  go_wp2_with fail
  go_at_call 11
  refine (awake_any _).mono ?_
  rintro e w1 ⟨rfl, hb1⟩
  go_wp2_with fail
  go_at_call 24
  refine (HC.out _).mono ?_
  rintro e w' ⟨rfl, rfl⟩
  go_wp2_with fail
  go_at_call 22
  refine (HS.out _).mono ?_
  rintro e w2 ⟨rfl, hb2⟩
  have hb12 := hb1.trans (hb2.mono hb1.size)
  go_wp2_with fail
  go_at_call 25
  refine (HX.out _).mono ?_
  rintro e w' ⟨rfl, rfl⟩
  go_wp2
  go_ret
  exact ⟨rfl, hb12⟩
end Go.Proofs.Ytdenknpjgeomhaa.Own

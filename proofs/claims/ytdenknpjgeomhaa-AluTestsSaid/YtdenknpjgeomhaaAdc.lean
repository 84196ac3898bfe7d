/- Contracts of Adc and of what it calls, and of the example that each statement asks first. Conditions: bytes are bytes. -/
import Derived.Test.YtdenknpjgeomhaaLeaf
namespace Go.Proofs.Ytdenknpjgeomhaa.Own
open Go.RowKit

def Blk (w : World) (g : Nat) (t : TypeId) (cs : Array Value) : Prop := w.heap[g]? = some (.cells cs t (0, 0))

section
variable {w w' : World} {g : Nat} {t : TypeId} {cs : Array Value}
theorem Blk.lt (h : Blk w g t cs) : g < w.heap.size := by
  rcases Nat.lt_or_ge g w.heap.size with hlt | hge
  · exact hlt
  · unfold Blk at h; rw [Array.getElem?_eq_none hge] at h; cases h
theorem Blk.cell (h : Blk w g t cs) (i : Nat) : w.cell? ⟨g, i, none⟩ = cs[i]? := cell_of_row w g i cs t (0, 0) h
theorem Blk.frozen (h : Blk w g t cs) (i : Nat) : w.frozen? ⟨g, i, none⟩ = false := by
  unfold Blk at h
  simp [World.frozen?, h]
theorem Blk.new (w : World) (t : TypeId) (cs : Array Value) : Blk (w.alloc (.cells cs t)) w.heap.size t cs := heap_alloc_new w _
theorem Blk.drew (h : Blk w g t cs) : Blk w.drew g t cs := h
theorem Blk.drewN (h : Blk w g t cs) (n : Nat) : Blk (w.drewN n) g t cs := h
theorem Blk.alloc (h : Blk w g t cs) (o : Obj) : Blk (w.alloc o) g t cs := (Below.heap_alloc w o g h.lt).trans h
theorem Blk.set_ (h : Blk w g t cs) (i : Nat) (u : Value) : Blk (w.setCell ⟨g, i, none⟩ u) g t (cs.setIfInBounds i u) := by
  unfold Blk at h ⊢
  simp [World.setCell, Array.getElem?_modify, h]
theorem Blk.far (h : Blk w g t cs) {p : Addr} (hp : g ≠ p.block) (u : Value) : Blk (w.setCell p u) g t cs := (Below.heap_setCell w p u g hp).trans h
theorem Blk.below {B : Nat} (h : Blk w g t cs) (hb : Below B w w') (hg : g < B) : Blk w' g t cs := (hb.block g hg).trans h
theorem Blk.grown {row : Option Nat} (h : Blk w g t cs) (hb : w.grownBy w' row) (hg : some g ≠ row) : Blk w' g t cs := (hb.block g h.lt hg).trans h
end

theorem ofInt_i64 (a : Nat) (ha : a < 9223372036854775808) : (BitVec.ofInt 64 (a : Int)).toNat = a := by
  rw [BitVec.ofInt_natCast, BitVec.toNat_ofNat]; exact Nat.mod_eq_of_lt (by omega)
theorem i64_and_nat (a b : Nat) (ha : a < 9223372036854775808) (hb : b < 9223372036854775808) : Go.bits .and .i64 (a : Int) (b : Int) = ((a &&& b : Nat) : Int) := by
  have hx : a &&& b < 2 ^ 63 := Nat.and_lt_two_pow _ (by omega)
  show IntKind.i64.wrap ((BitVec.ofInt 64 (a : Int) &&& BitVec.ofInt 64 (b : Int)).toNat : Int) = _
  rw [BitVec.toNat_and, ofInt_i64 a ha, ofInt_i64 b hb, IntKind.wrap_i64]
  omega
theorem i64_xor_nat (a b : Nat) (ha : a < 9223372036854775808) (hb : b < 9223372036854775808) : Go.bits .xor .i64 (a : Int) (b : Int) = ((a ^^^ b : Nat) : Int) := by
  have hx : a ^^^ b < 2 ^ 63 := Nat.xor_lt_two_pow (by omega) (by omega)
  show IntKind.i64.wrap ((BitVec.ofInt 64 (a : Int) ^^^ BitVec.ofInt 64 (b : Int)).toNat : Int) = _
  rw [BitVec.toNat_xor, ofInt_i64 a ha, ofInt_i64 b hb, IntKind.wrap_i64]
  omega
theorem nat_of {v : Int} {n : Nat} (h : 0 ≤ v ∧ v < (n : Int)) : ∃ k : Nat, v = (k : Int) ∧ k < n := ⟨v.toNat, by omega, by omega⟩
theorem i64_low {a : Int} (h : 0 ≤ a ∧ a < 65536) : Go.bits .and .i64 a 15 = a % 16 := by
  obtain ⟨n, rfl, hn⟩ := nat_of (n := 65536) h
  rw [show (15 : Int) = ((15 : Nat) : Int) from rfl, i64_and_nat n 15 (by omega) (by omega), nat_mask4]
  omega
theorem i64_byte {a : Int} (h : 0 ≤ a ∧ a < 65536) : Go.bits .and .i64 a 255 = a % 256 := by
  obtain ⟨n, rfl, hn⟩ := nat_of (n := 65536) h
  rw [show (255 : Int) = ((255 : Nat) : Int) from rfl, i64_and_nat n 255 (by omega) (by omega), nat_mask8]
  omega
theorem i64_top {a : Int} (h : 0 ≤ a ∧ a < 65536) : Go.bits .and .i64 a 128 = a / 128 % 2 * 128 := by
  obtain ⟨n, rfl, hn⟩ := nat_of (n := 65536) h
  rw [show (128 : Int) = ((128 : Nat) : Int) from rfl, i64_and_nat n 128 (by omega) (by omega), show (128 : Nat) = 2 ^ 7 from rfl, nat_bit]
  omega
theorem i64_sign {a : Int} (h : 0 ≤ a ∧ a < 65536) : (Go.bits .and .i64 a 128 != 0) = has a 128 := by
  rw [i64_top h]
  unfold has
  rw [Bool.eq_iff_iff]
  simp
  omega
theorem i64_high {a : Int} (h : By a) : Go.bits .and .i64 a 240 = a - a % 16 := byte_all (P := fun a => Go.bits .and .i64 a 240 = a - a % 16) (by decide +kernel) h
theorem xor_bit (a b : Nat) : (a ^^^ b) / 128 % 2 = (a / 128 + b / 128) % 2 := by
  have h := Nat.testBit_xor a b 7
  rw [Nat.testBit_eq_decide_div_mod_eq, Nat.testBit_eq_decide_div_mod_eq, Nat.testBit_eq_decide_div_mod_eq] at h
  rw [show 2 ^ 7 = 128 from rfl] at h
  rcases Nat.mod_two_eq_zero_or_one (a / 128) with ha | ha <;> rcases Nat.mod_two_eq_zero_or_one (b / 128) with hb | hb <;> simp [ha, hb] at h <;> omega
theorem and_bit (a b : Nat) : (a &&& b) / 128 % 2 = a / 128 % 2 * (b / 128 % 2) := by
  have h := Nat.testBit_and a b 7
  rw [Nat.testBit_eq_decide_div_mod_eq, Nat.testBit_eq_decide_div_mod_eq, Nat.testBit_eq_decide_div_mod_eq] at h
  rw [show 2 ^ 7 = 128 from rfl] at h
  rcases Nat.mod_two_eq_zero_or_one (a / 128) with ha | ha <;> rcases Nat.mod_two_eq_zero_or_one (b / 128) with hb | hb <;> simp [ha, hb] at h <;> simp [ha, hb] <;> omega
theorem ovr_bits {a m s : Int} (ha : By a) (hm : By m) (hs : 0 ≤ s ∧ s < 65536) :
    (Go.bits .and .i64 (Go.bits .and .i64 (Go.bits .xor .i64 a s) (Go.bits .xor .i64 m s)) 128 != 0) = ovr a m s := by
  obtain ⟨x, rfl, hx⟩ := nat_of (n := 256) ha
  obtain ⟨y, rfl, hy⟩ := nat_of (n := 256) hm
  obtain ⟨z, rfl, hz⟩ := nat_of (n := 65536) hs
  rw [i64_xor_nat x z (by omega) (by omega), i64_xor_nat y z (by omega) (by omega)]
  have h1 : x ^^^ z < 2 ^ 16 := Nat.xor_lt_two_pow (by omega) (by omega)
  have h2 : y ^^^ z < 2 ^ 16 := Nat.xor_lt_two_pow (by omega) (by omega)
  rw [i64_and_nat _ _ (by omega) (by omega)]
  have h3 : (x ^^^ z) &&& (y ^^^ z) < 2 ^ 16 := Nat.and_lt_two_pow _ h2
  rw [show (128 : Int) = ((128 : Nat) : Int) from rfl, i64_and_nat _ 128 (by omega) (by omega), show (128 : Nat) = 2 ^ 7 from rfl, nat_bit, show 2 ^ 7 = 128 from rfl, and_bit, xor_bit, xor_bit]
  have e1 : (x / 128 + z / 128) % 2 = (x / 128 % 2 + z / 128 % 2) % 2 := by omega
  have e2 : (y / 128 + z / 128) % 2 = (y / 128 % 2 + z / 128 % 2) % 2 := by omega
  have hX : (x : Int) / 128 % 2 = ((x / 128 % 2 : Nat) : Int) := by omega
  have hY : (y : Int) / 128 % 2 = ((y / 128 % 2 : Nat) : Int) := by omega
  have hZ : (z : Int) / 128 % 2 = ((z / 128 % 2 : Nat) : Int) := by omega
  unfold ovr has
  rw [hX, hY, hZ, e1, e2]
  rcases Nat.mod_two_eq_zero_or_one (x / 128) with ha | ha <;> rcases Nat.mod_two_eq_zero_or_one (y / 128) with hb | hb <;> rcases Nat.mod_two_eq_zero_or_one (z / 128) with hc | hc <;> rw [ha, hb, hc] <;> rfl

theorem ret_int {k : IntKind} {a b : Int} (h : a = b) : Ending.returned (.int k a) = .returned (.int k b) := by rw [h]
set_option maxHeartbeats 1600000 in
theorem operand_any (a m p : Int) (w : World) (ha : By a) (hm : By m) (hp : By p) :
    Calls Try.prog 37 #[.int .u8 a, .int .u8 m, .int .u8 p] w fun e w' => e = .returned (.agg #[.int .i64 a, .int .i64 m, .int .i64 (p % 2)]) ∧ Below w.heap.size w w' := by
  have ho := and_one hp
  obtain ⟨hm0, hm1⟩ := hm
  obtain ⟨ha0, ha1⟩ := ha
  go_enter Try.func37, Try.ntmps37
  go_wp2
  exact bodyPost_ret (v := .agg #[.int .i64 a, .int .i64 m, .int .i64 (p % 2)]) (by simp [results, Try.results37, go_sem]) rfl ⟨rfl, (Below.refl _ _).alloc (Nat.le_refl _) _⟩
set_option maxHeartbeats 1600000 in
theorem binary_any (a m c : Int) (w : World) (ha : By a) (hm : By m) (hc : 0 ≤ c ∧ c < 2) :
    Calls Try.prog 39 #[.agg #[.int .i64 a, .int .i64 m, .int .i64 c]] w fun e w' => e = .returned (.int .i64 (sumB a m c)) ∧ Below w.heap.size w w' := by
  obtain ⟨hm0, hm1⟩ := hm
  obtain ⟨ha0, ha1⟩ := ha
  obtain ⟨hc0, hc1⟩ := hc
  go_enter Try.func39, Try.ntmps39
  go_wp2
  go_ret
  exact ⟨rfl, (Below.refl _ _).alloc (Nat.le_refl _) _⟩
set_option maxHeartbeats 1600000 in
theorem over_any (a m c s : Int) (w : World) (ha : By a) (hm : By m) (hs : 0 ≤ s ∧ s < 65536) :
    Calls Try.prog 43 #[.agg #[.int .i64 a, .int .i64 m, .int .i64 c], .int .i64 s] w fun e w' => e = .returned (.bool (ovr a m s)) ∧ Below w.heap.size w w' := by
  have h1 := ovr_bits ha hm hs
  go_enter Try.func43, Try.ntmps43
  go_wp2
  go_ret
  exact ⟨rfl, (Below.refl _ _).alloc (Nat.le_refl _) _⟩
set_option maxHeartbeats 3200000 in
theorem decimal_any (a m c : Int) (w : World) (ha : By a) (hm : By m) (hc : 0 ≤ c ∧ c < 2) :
    Calls Try.prog 41 #[.agg #[.int .i64 a, .int .i64 m, .int .i64 c]] w fun e w' => e = .returned (.int .i64 (midD a m c)) ∧ Below w.heap.size w w' := by
  have h1 := i64_low (a := a) ⟨ha.1, by have := ha.2; omega⟩
  have h2 := i64_low (a := m) ⟨hm.1, by have := hm.2; omega⟩
  have h3 := i64_high ha
  have h4 := i64_high hm
  have h5 : Go.bits .and .i64 (a % 16 + m % 16 + c + 6) 15 = (a % 16 + m % 16 + c + 6) % 16 := i64_low (by omega)
  obtain ⟨hm0, hm1⟩ := hm
  obtain ⟨ha0, ha1⟩ := ha
  obtain ⟨hc0, hc1⟩ := hc
  unfold midD lowD
  by_cases h : a % 16 + m % 16 + c ≥ 10
  · rw [if_pos h]
    have hb : decide (a % 16 + m % 16 + c ≥ 10) = true := by simpa using h
    have hb' : decide (10 ≤ a % 16 + m % 16 + c) = true := by simpa using h
    clear h
    go_enter Try.func41, Try.ntmps41
    go_wp2
    go_ret
    exact ⟨ret_int (by omega), (Below.refl _ _).alloc (Nat.le_refl _) _⟩
  · rw [if_neg h]
    have hb : decide (a % 16 + m % 16 + c ≥ 10) = false := by simpa using h
    have hb' : decide (10 ≤ a % 16 + m % 16 + c) = false := by simpa using h
    clear h
    go_enter Try.func41, Try.ntmps41
    go_wp2
    go_ret
    exact ⟨rfl, (Below.refl _ _).alloc (Nat.le_refl _) _⟩

set_option maxHeartbeats 3200000 in
theorem sums_bin (a m c p : Int) (w : World) (ha : By a) (hm : By m) (hc : 0 ≤ c ∧ c < 2) (hp : By p) :
    Calls Try.prog 38 #[.agg #[.int .i64 a, .int .i64 m, .int .i64 c], .int .u8 p, .func (.func 39) #[] #[]] w fun e w' => e = .returned (.tuple #[.int .i64 (sumB a m c), .int .u8 (sumsF a m c (sumB a m c) p)]) ∧ Below w.heap.size w w' := by
  have hs : 0 ≤ sumB a m c ∧ sumB a m c < 65536 := by have := sumB_rng ha hm hc; omega
  have h1 := i64_sign hs
  have hq : 0 ≤ sumB a m c ∧ sumB a m c < 65536 := by have := sumB_rng ha hm hc; omega
  have h2 := i64_byte hq
  have hob : Blk (w.alloc (.cells #[.int .i64 a, .int .i64 m, .int .i64 c] 35)) w.heap.size 35 #[.int .i64 a, .int .i64 m, .int .i64 c] := Blk.new _ _ _
  have hb0 : Below w.heap.size w (w.alloc (.cells #[.int .i64 a, .int .i64 m, .int .i64 c] 35)) := (Below.refl _ _).alloc (Nat.le_refl _) _
  have H1 := Lib.hid h1
  have H2 := Lib.hid h2
  clear h1 h2
  go_enter Try.func38, Try.ntmps38
  go_wp2_with fail
  generalize w.alloc (.cells #[.int .i64 a, .int .i64 m, .int .i64 c] 35) = w1 at *
  have hbs := hb0.size
  have hol := hob.lt
  go_at_call 39
  refine (binary_any _ _ _ _ ha hm hc).mono ?_
  rintro e w2 ⟨rfl, hb2⟩
  have hob2 := hob.below hb2 hol
  have hb02 := hb0.trans (hb2.mono hbs)
  have hbs2 := hb02.size
  have hol2 := hob2.lt
  have q0 := (hob2.cell 0).trans (show (#[Value.int .i64 a, .int .i64 m, .int .i64 c] : Array Value)[0]? = some (.int .i64 a) from rfl)
  have q1 := (hob2.cell 1).trans (show (#[Value.int .i64 a, .int .i64 m, .int .i64 c] : Array Value)[1]? = some (.int .i64 m) from rfl)
  have q2 := (hob2.cell 2).trans (show (#[Value.int .i64 a, .int .i64 m, .int .i64 c] : Array Value)[2]? = some (.int .i64 c) from rfl)
  have h1 := H1.out
  go_wp2_with fail
  clear h1
  go_at_call 40
  refine (flag_any _ _ _ _ hp (.inr (.inr (.inr (.inr rfl))))).mono ?_
  rintro e w' ⟨rfl, rfl⟩
  go_wp2_with fail
  clear q0 q1 q2
  go_at_call 43
  refine (over_any _ _ _ _ _ ha hm hs).mono ?_
  rintro e w3 ⟨rfl, hb3⟩
  have hob3 := hob2.below hb3 hol2
  have hb03 := hb02.trans (hb3.mono hbs2)
  have hbs3 := hb03.size
  have hol3 := hob3.lt
  have q0 := (hob3.cell 0).trans (show (#[Value.int .i64 a, .int .i64 m, .int .i64 c] : Array Value)[0]? = some (.int .i64 a) from rfl)
  have q1 := (hob3.cell 1).trans (show (#[Value.int .i64 a, .int .i64 m, .int .i64 c] : Array Value)[1]? = some (.int .i64 m) from rfl)
  have q2 := (hob3.cell 2).trans (show (#[Value.int .i64 a, .int .i64 m, .int .i64 c] : Array Value)[2]? = some (.int .i64 c) from rfl)
  go_wp2_with fail
  go_at_call 40
  refine (flag_any _ _ _ _ (fl_by hp (.inr (.inr (.inr (.inr rfl)))) _) (.inr (.inr (.inr (.inl rfl))))).mono ?_
  rintro e w' ⟨rfl, rfl⟩
  go_wp2_with fail
  clear q0 q1 q2
  go_at_call 39
  refine (binary_any _ _ _ _ ha hm hc).mono ?_
  rintro e w4 ⟨rfl, hb4⟩
  have hb04 := hb03.trans (hb4.mono hbs3)
  have h2 := H2.out
  go_wp2_with fail
  clear h2
  go_at_call 40
  refine (flag_any _ _ _ _ (fl_by (fl_by hp (.inr (.inr (.inr (.inr rfl)))) _) (.inr (.inr (.inr (.inl rfl)))) _) (.inr (.inl rfl))).mono ?_
  rintro e w' ⟨rfl, rfl⟩
  go_wp2
  go_ret2
  exact ⟨rfl, hb04⟩
set_option maxHeartbeats 3200000 in
theorem sums_dec (a m c p : Int) (w : World) (ha : By a) (hm : By m) (hc : 0 ≤ c ∧ c < 2) (hp : By p) :
    Calls Try.prog 38 #[.agg #[.int .i64 a, .int .i64 m, .int .i64 c], .int .u8 p, .func (.func 41) #[] #[]] w fun e w' => e = .returned (.tuple #[.int .i64 (midD a m c), .int .u8 (sumsF a m c (midD a m c) p)]) ∧ Below w.heap.size w w' := by
  have hs : 0 ≤ midD a m c ∧ midD a m c < 65536 := by have := midD_rng ha hm hc; omega
  have h1 := i64_sign hs
  have hq : 0 ≤ sumB a m c ∧ sumB a m c < 65536 := by have := sumB_rng ha hm hc; omega
  have h2 := i64_byte hq
  have hob : Blk (w.alloc (.cells #[.int .i64 a, .int .i64 m, .int .i64 c] 35)) w.heap.size 35 #[.int .i64 a, .int .i64 m, .int .i64 c] := Blk.new _ _ _
  have hb0 : Below w.heap.size w (w.alloc (.cells #[.int .i64 a, .int .i64 m, .int .i64 c] 35)) := (Below.refl _ _).alloc (Nat.le_refl _) _
  have H1 := Lib.hid h1
  have H2 := Lib.hid h2
  clear h1 h2
  go_enter Try.func38, Try.ntmps38
  go_wp2_with fail
  generalize w.alloc (.cells #[.int .i64 a, .int .i64 m, .int .i64 c] 35) = w1 at *
  have hbs := hb0.size
  have hol := hob.lt
  go_at_call 41
  refine (decimal_any _ _ _ _ ha hm hc).mono ?_
  rintro e w2 ⟨rfl, hb2⟩
  have hob2 := hob.below hb2 hol
  have hb02 := hb0.trans (hb2.mono hbs)
  have hbs2 := hb02.size
  have hol2 := hob2.lt
  have q0 := (hob2.cell 0).trans (show (#[Value.int .i64 a, .int .i64 m, .int .i64 c] : Array Value)[0]? = some (.int .i64 a) from rfl)
  have q1 := (hob2.cell 1).trans (show (#[Value.int .i64 a, .int .i64 m, .int .i64 c] : Array Value)[1]? = some (.int .i64 m) from rfl)
  have q2 := (hob2.cell 2).trans (show (#[Value.int .i64 a, .int .i64 m, .int .i64 c] : Array Value)[2]? = some (.int .i64 c) from rfl)
  have h1 := H1.out
  go_wp2_with fail
  clear h1
  go_at_call 40
  refine (flag_any _ _ _ _ hp (.inr (.inr (.inr (.inr rfl))))).mono ?_
  rintro e w' ⟨rfl, rfl⟩
  go_wp2_with fail
  clear q0 q1 q2
  go_at_call 43
  refine (over_any _ _ _ _ _ ha hm hs).mono ?_
  rintro e w3 ⟨rfl, hb3⟩
  have hob3 := hob2.below hb3 hol2
  have hb03 := hb02.trans (hb3.mono hbs2)
  have hbs3 := hb03.size
  have hol3 := hob3.lt
  have q0 := (hob3.cell 0).trans (show (#[Value.int .i64 a, .int .i64 m, .int .i64 c] : Array Value)[0]? = some (.int .i64 a) from rfl)
  have q1 := (hob3.cell 1).trans (show (#[Value.int .i64 a, .int .i64 m, .int .i64 c] : Array Value)[1]? = some (.int .i64 m) from rfl)
  have q2 := (hob3.cell 2).trans (show (#[Value.int .i64 a, .int .i64 m, .int .i64 c] : Array Value)[2]? = some (.int .i64 c) from rfl)
  go_wp2_with fail
  go_at_call 40
  refine (flag_any _ _ _ _ (fl_by hp (.inr (.inr (.inr (.inr rfl)))) _) (.inr (.inr (.inr (.inl rfl))))).mono ?_
  rintro e w' ⟨rfl, rfl⟩
  go_wp2_with fail
  clear q0 q1 q2
  go_at_call 39
  refine (binary_any _ _ _ _ ha hm hc).mono ?_
  rintro e w4 ⟨rfl, hb4⟩
  have hb04 := hb03.trans (hb4.mono hbs3)
  have h2 := H2.out
  go_wp2_with fail
  clear h2
  go_at_call 40
  refine (flag_any _ _ _ _ (fl_by (fl_by hp (.inr (.inr (.inr (.inr rfl)))) _) (.inr (.inr (.inr (.inl rfl)))) _) (.inr (.inl rfl))).mono ?_
  rintro e w' ⟨rfl, rfl⟩
  go_wp2
  go_ret2
  exact ⟨rfl, hb04⟩

theorem has_p {p f : Int} (hp : By p) (hf : isF f) : (Go.bits .and .u8 p f == 0) = !has p f := by
  rw [← and_has hp hf]
  cases h : (Go.bits .and .u8 p f == 0) <;> simp [bne, h]
set_option maxHeartbeats 3200000 in
theorem adc_bin (a m p : Int) (w : World) (ha : By a) (hm : By m) (hp : By p) (hd : has p 8 = false) :
    Calls Try.prog 20 #[.int .u8 a, .int .u8 m, .int .u8 p] w fun e w' => e = .returned (.tuple #[.int .u8 (adcV a m p), .int .u8 (adcF a m p)]) ∧ Below w.heap.size w w' := by
  have hc : 0 ≤ p % 2 ∧ p % 2 < 2 := by omega
  have eM : adcM a m p = sumB a m (p % 2) := by unfold adcM; rw [hd]; rfl
  have eE : adcE a m p = sumB a m (p % 2) := by unfold adcE; rw [if_neg (by simp [hd]), eM]
  have hq := has_p hp (.inr (.inr (.inl rfl)))
  rw [hd] at hq
  unfold adcV adcF
  rw [eE, eM]
  obtain ⟨hs0, hs1⟩ := sumB_rng ha hm hc
  clear eE eM hd
  go_enter Try.func20, Try.ntmps20
  go_wp2_with fail
  go_at_call 37
  refine (operand_any _ _ _ _ ha hm hp).mono ?_
  rintro e w1 ⟨rfl, hb1⟩
  have hob : Blk (w1.alloc (.cells #[.int .i64 a, .int .i64 m, .int .i64 (p % 2)] 35)) w1.heap.size 35 #[.int .i64 a, .int .i64 m, .int .i64 (p % 2)] := Blk.new _ _ _
  have hb2 := hb1.alloc hb1.size (.cells #[.int .i64 a, .int .i64 m, .int .i64 (p % 2)] 35)
  go_wp2_with fail
  generalize w1.alloc (.cells #[.int .i64 a, .int .i64 m, .int .i64 (p % 2)] 35) = w2 at *
  go_at_call 38
  refine (sums_bin _ _ _ _ _ ha hm hc hp).mono ?_
  rintro e w3 ⟨rfl, hb3⟩
  have hb4 := hb2.trans (hb3.mono hb2.size)
  go_wp2_with fail
  go_at_call 40
  refine (flag_any _ _ _ _ (sumsF_by hp) (.inl rfl)).mono ?_
  rintro e w' ⟨rfl, rfl⟩
  go_wp2
  go_ret2
  exact ⟨rfl, hb4⟩
set_option maxHeartbeats 3200000 in
theorem adc_dec (a m p : Int) (w : World) (ha : By a) (hm : By m) (hp : By p) (hd : has p 8 = true) :
    Calls Try.prog 20 #[.int .u8 a, .int .u8 m, .int .u8 p] w fun e w' => e = .returned (.tuple #[.int .u8 (adcV a m p), .int .u8 (adcF a m p)]) ∧ Below w.heap.size w w' := by
  have hc : 0 ≤ p % 2 ∧ p % 2 < 2 := by omega
  have eM : adcM a m p = midD a m (p % 2) := by unfold adcM; rw [hd]; rfl
  have hq := has_p hp (.inr (.inr (.inl rfl)))
  obtain ⟨hs0, hs1⟩ := midD_rng ha hm hc
  by_cases hbig : midD a m (p % 2) ≥ 160
  · have eE : adcE a m p = midD a m (p % 2) + 96 := by unfold adcE; rw [if_pos ⟨hd, by rw [eM]; exact hbig⟩, eM]
    rw [hd] at hq
    unfold adcV adcF
    rw [eE, eM]
    clear eE eM hd
    go_enter Try.func20, Try.ntmps20
    go_wp2_with fail
    go_at_call 37
    refine (operand_any _ _ _ _ ha hm hp).mono ?_
    rintro e w1 ⟨rfl, hb1⟩
    have hob : Blk (w1.alloc (.cells #[.int .i64 a, .int .i64 m, .int .i64 (p % 2)] 35)) w1.heap.size 35 #[.int .i64 a, .int .i64 m, .int .i64 (p % 2)] := Blk.new _ _ _
    have hb2 := hb1.alloc hb1.size (.cells #[.int .i64 a, .int .i64 m, .int .i64 (p % 2)] 35)
    go_wp2_with fail
    generalize w1.alloc (.cells #[.int .i64 a, .int .i64 m, .int .i64 (p % 2)] 35) = w2 at *
    go_at_call 38
    refine (sums_dec _ _ _ _ _ ha hm hc hp).mono ?_
    rintro e w3 ⟨rfl, hb3⟩
    have hb4 := hb2.trans (hb3.mono hb2.size)
    go_wp2_with fail
    go_at_call 40
    refine (flag_any _ _ _ _ (sumsF_by hp) (.inl rfl)).mono ?_
    rintro e w' ⟨rfl, rfl⟩
    go_wp2
    go_ret2
    exact ⟨rfl, hb4⟩
  · have eE : adcE a m p = midD a m (p % 2) := by unfold adcE; rw [if_neg (by rw [eM]; exact fun h => hbig h.2), eM]
    rw [hd] at hq
    unfold adcV adcF
    rw [eE, eM, show midD a m (p % 2) % 256 = midD a m (p % 2) from by omega]
    clear eE eM hd
    go_enter Try.func20, Try.ntmps20
    go_wp2_with fail
    go_at_call 37
    refine (operand_any _ _ _ _ ha hm hp).mono ?_
    rintro e w1 ⟨rfl, hb1⟩
    have hob : Blk (w1.alloc (.cells #[.int .i64 a, .int .i64 m, .int .i64 (p % 2)] 35)) w1.heap.size 35 #[.int .i64 a, .int .i64 m, .int .i64 (p % 2)] := Blk.new _ _ _
    have hb2 := hb1.alloc hb1.size (.cells #[.int .i64 a, .int .i64 m, .int .i64 (p % 2)] 35)
    go_wp2_with fail
    generalize w1.alloc (.cells #[.int .i64 a, .int .i64 m, .int .i64 (p % 2)] 35) = w2 at *
    go_at_call 38
    refine (sums_dec _ _ _ _ _ ha hm hc hp).mono ?_
    rintro e w3 ⟨rfl, hb3⟩
    have hb4 := hb2.trans (hb3.mono hb2.size)
    go_wp2_with fail
    go_at_call 40
    refine (flag_any _ _ _ _ (sumsF_by hp) (.inl rfl)).mono ?_
    rintro e w' ⟨rfl, rfl⟩
    go_wp2
    go_ret2
    exact ⟨rfl, hb4⟩
theorem adc_any (a m p : Int) (w : World) (ha : By a) (hm : By m) (hp : By p) :
    Calls Try.prog 20 #[.int .u8 a, .int .u8 m, .int .u8 p] w fun e w' => e = .returned (.tuple #[.int .u8 (adcV a m p), .int .u8 (adcF a m p)]) ∧ Below w.heap.size w w' := by
  cases hd : has p 8
  · exact adc_bin a m p w ha hm hp hd
  · exact adc_dec a m p w ha hm hp hd

set_option maxHeartbeats 1600000 in
theorem awake_any (w : World) : Calls Try.prog 11 #[] w fun e w' => e = .returned (.bool true) ∧ Below w.heap.size w w' := by
  have e1 : adcV 88 70 8 = 4 := by decide +kernel
  have e2 : adcF 88 70 8 = 201 := by decide +kernel
  have e3 : Go.bits .and .u8 201 1 = 1 := by decide +kernel
  go_enter Try.func11, Try.ntmps11
  go_wp2_with fail
  go_at_call 20
  refine (adc_any _ _ _ _ ⟨by omega, by omega⟩ ⟨by omega, by omega⟩ ⟨by omega, by omega⟩).mono ?_
  rintro e w1 ⟨rfl, hb1⟩
  rw [e1, e2]
  go_wp2
  go_ret
  exact ⟨rfl, hb1⟩
end Go.Proofs.Ytdenknpjgeomhaa.Own

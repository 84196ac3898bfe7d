/- What isn't named stays: of all of these I, D, B and U are as they were: the walk. Conditions: bytes are bytes. -/
import Derived.Test.YtdenknpjgeomhaaOrder
namespace Go.Proofs.Ytdenknpjgeomhaa.Own
open Go.RowKit

theorem fl8_60 {p : Int} (hp : By p) : Go.bits .and .u8 (fl p 8 true) 60 = fl (Go.bits .and .u8 p 60) 8 true := byte_all (P := fun p => Go.bits .and .u8 (fl p 8 true) 60 = fl (Go.bits .and .u8 p 60) 8 true) (by decide +kernel) hp
theorem sbc60 {a m p : Int} (hp : By p) : Go.bits .and .u8 (sbcF a m p) 60 = Go.bits .and .u8 p 60 := by
  have h0 : By (fl p 8 false) := fl_by hp (.inr (.inr (.inl rfl))) false
  unfold sbcF
  cases hd : has p 8
  · simp only [Bool.false_eq_true, if_false]
    rw [adc60 h0, no8_no8 hd]
  · simp only [if_true]
    rw [fl8_60 (adcF_by h0), adc60 h0, ← fl8_60 h0]
    exact byte_all (P := fun p => has p 8 = true → Go.bits .and .u8 (fl (fl p 8 false) 8 true) 60 = Go.bits .and .u8 p 60) (by decide +kernel) hp hd
theorem nz60 {p v : Int} (hp : By p) : Go.bits .and .u8 (nz p v) 60 = Go.bits .and .u8 p 60 := by
  unfold nz
  rw [keep60 (fl_by hp (.inr (.inl rfl)) _) (.inr (.inr (.inr rfl))), keep60 hp (.inr (.inl rfl))]
theorem arr60 {a m p : Int} (hp : By p) : Go.bits .and .u8 (arrF a m p) 60 = Go.bits .and .u8 p 60 := by
  unfold arrF
  have h := nz_by hp (arrR a m p)
  split
  · rw [keep60 (fl_by h (.inr (.inr (.inr (.inl rfl)))) _) (.inl rfl), keep60 h (.inr (.inr (.inl rfl))), nz60 hp]
  · rw [keep60 (fl_by h (.inl rfl) _) (.inr (.inr (.inl rfl))), keep60 h (.inl rfl), nz60 hp]
theorem cmp60 {a m p : Int} (hp : By p) : Go.bits .and .u8 (cmpF a m p) 60 = Go.bits .and .u8 p 60 := by
  unfold cmpF
  rw [nz60 (fl_by hp (.inl rfl) _), keep60 hp (.inl rfl)]
theorem sh60 {v p : Int} {o : Bool} (hp : By p) : Go.bits .and .u8 (shF v p o) 60 = Go.bits .and .u8 p 60 := by
  unfold shF
  rw [nz60 (fl_by hp (.inl rfl) _), keep60 hp (.inl rfl)]
theorem bit60 {a m p : Int} (hp : By p) : Go.bits .and .u8 (bitF a m p) 60 = Go.bits .and .u8 p 60 := by
  unfold bitF
  rw [keep60 (fl_by (fl_by hp (.inr (.inl rfl)) _) (.inr (.inr (.inr (.inl rfl)))) _) (.inr (.inr (.inr rfl))), keep60 (fl_by hp (.inr (.inl rfl)) _) (.inr (.inr (.inl rfl))), keep60 hp (.inr (.inl rfl))]
theorem bit_1 {p : Int} (hp : By p) (x y z : Bool) : Go.bits .and .u8 (fl (fl (fl p 2 x) 64 y) 128 z) 1 = Go.bits .and .u8 p 1 := by
  have key : ∀ (m : Fin 256) (x y z : Bool), Go.bits .and .u8 (fl (fl (fl ((m.val : Nat) : Int) 2 x) 64 y) 128 z) 1 = Go.bits .and .u8 ((m.val : Nat) : Int) 1 := by decide +kernel
  exact byte_all (P := fun p => Go.bits .and .u8 (fl (fl (fl p 2 x) 64 y) 128 z) 1 = Go.bits .and .u8 p 1) (fun m => key m x y z) hp
theorem nz_65 {p : Int} (hp : By p) (x y : Bool) : Go.bits .and .u8 (fl (fl p 2 x) 128 y) 65 = Go.bits .and .u8 p 65 := by
  have key : ∀ (m : Fin 256) (x y : Bool), Go.bits .and .u8 (fl (fl ((m.val : Nat) : Int) 2 x) 128 y) 65 = Go.bits .and .u8 ((m.val : Nat) : Int) 65 := by decide +kernel
  exact byte_all (P := fun p => Go.bits .and .u8 (fl (fl p 2 x) 128 y) 65 = Go.bits .and .u8 p 65) (fun m => key m x y) hp
theorem sh_64 {p : Int} (hp : By p) (x y z : Bool) : Go.bits .and .u8 (fl (fl (fl p 1 x) 2 y) 128 z) 64 = Go.bits .and .u8 p 64 := by
  have key : ∀ (m : Fin 256) (x y z : Bool), Go.bits .and .u8 (fl (fl (fl ((m.val : Nat) : Int) 1 x) 2 y) 128 z) 64 = Go.bits .and .u8 ((m.val : Nat) : Int) 64 := by decide +kernel
  exact byte_all (P := fun p => Go.bits .and .u8 (fl (fl (fl p 1 x) 2 y) 128 z) 64 = Go.bits .and .u8 p 64) (fun m => key m x y z) hp

theorem sbcF_by {a m p : Int} (hp : By p) : By (sbcF a m p) := by
  have h0 : By (fl p 8 false) := fl_by hp (.inr (.inr (.inl rfl))) false
  unfold sbcF
  split
  · exact fl_by (adcF_by h0) (.inr (.inr (.inl rfl))) _
  · exact adcF_by h0
theorem arrF_by {a m p : Int} (hp : By p) : By (arrF a m p) := by
  unfold arrF
  have h := nz_by hp (arrR a m p)
  split
  · exact fl_by (fl_by h (.inr (.inr (.inr (.inl rfl)))) _) (.inl rfl) _
  · exact fl_by (fl_by h (.inl rfl) _) (.inr (.inr (.inr (.inl rfl)))) _
theorem cmpF_by {a m p : Int} (hp : By p) : By (cmpF a m p) := nz_by (fl_by hp (.inl rfl) _) _
theorem bitF_by {a m p : Int} (hp : By p) : By (bitF a m p) := fl_by (fl_by (fl_by hp (.inr (.inl rfl)) _) (.inr (.inr (.inr (.inl rfl)))) _) (.inr (.inr (.inr (.inr rfl)))) _

theorem xor_by {x p : Int} (hx : By x) (hp : By p) : By (Go.bits .xor .u8 x p) := by
  obtain ⟨a, rfl, ha⟩ := nat_of (n := 256) hx
  obtain ⟨b, rfl, hb⟩ := nat_of (n := 256) hp
  rw [u8_xor_nat a b ha hb]
  have : a ^^^ b < 2 ^ 8 := Nat.xor_lt_two_pow (by omega) (by omega)
  unfold By
  omega
theorem or_by {x p : Int} (hx : By x) (hp : By p) : By (Go.bits .or .u8 x p) := by
  obtain ⟨a, rfl, ha⟩ := nat_of (n := 256) hx
  obtain ⟨b, rfl, hb⟩ := nat_of (n := 256) hp
  rw [u8_or_nat a b ha hb]
  have : a ||| b < 2 ^ 8 := Nat.or_lt_two_pow (by omega) (by omega)
  unfold By
  omega
theorem xor_and {x p k : Int} (hx : By x) (hp : By p) (hk : By k) (h : Go.bits .and .u8 x k = Go.bits .and .u8 p k) : Go.bits .and .u8 (Go.bits .xor .u8 x p) k = 0 := by
  obtain ⟨a, rfl, ha⟩ := nat_of (n := 256) hx
  obtain ⟨b, rfl, hb⟩ := nat_of (n := 256) hp
  obtain ⟨c, rfl, hc⟩ := nat_of (n := 256) hk
  rw [u8_and_nat a c ha hc, u8_and_nat b c hb hc] at h
  have h' : a &&& c = b &&& c := by omega
  have hl : a ^^^ b < 2 ^ 8 := Nat.xor_lt_two_pow (by omega) (by omega)
  rw [u8_xor_nat a b ha hb, u8_and_nat _ c (by omega) hc]
  have : (a ^^^ b) &&& c = 0 := by
    apply Nat.eq_of_testBit_eq
    intro i
    have := congrArg (fun n => Nat.testBit n i) h'
    simp only [Nat.testBit_and] at this
    simp only [Nat.testBit_and, Nat.testBit_xor, Nat.zero_testBit]
    cases hA : a.testBit i <;> cases hB : b.testBit i <;> cases hC : c.testBit i <;> simp [hA, hB, hC] at this ⊢
  rw [this]
  rfl
theorem or_and {x y k : Int} (hx : By x) (hy : By y) (hk : By k) (h : Go.bits .and .u8 x k = 0) (g : Go.bits .and .u8 y k = 0) : Go.bits .and .u8 (Go.bits .or .u8 x y) k = 0 := by
  obtain ⟨a, rfl, ha⟩ := nat_of (n := 256) hx
  obtain ⟨b, rfl, hb⟩ := nat_of (n := 256) hy
  obtain ⟨c, rfl, hc⟩ := nat_of (n := 256) hk
  rw [u8_and_nat a c ha hc] at h
  rw [u8_and_nat b c hb hc] at g
  have h' : a &&& c = 0 := by omega
  have g' : b &&& c = 0 := by omega
  have hl : a ||| b < 2 ^ 8 := Nat.or_lt_two_pow (by omega) (by omega)
  rw [u8_or_nat a b ha hb, u8_and_nat _ c (by omega) hc, Nat.and_or_distrib_right, h', g']
  rfl

set_option maxHeartbeats 3200000 in
theorem flags_walk (a m p : Int) (w : World) (ha : By a) (hm : By m) (hp : By p) :
    Calls Try.prog 10 #[.int .u8 a, .int .u8 m, .int .u8 p] w fun e w' => e = .returned (.bool true) ∧ Below w.heap.size w w' := by
  have k60 : By 60 := by unfold By; omega
  have bB := adcF_by (a := a) (m := m) hp
  have bC := sbcF_by (a := a) (m := m) hp
  have bD := arrF_by (a := a) (m := m) hp
  have bE := cmpF_by (a := a) (m := m) hp
  have bF := shF_by (v := rorV m p) hp (m % 2 == 1)
  have bG := bitF_by (a := a) (m := m) hp
  have bH := nz_by hp a
  have xB := xor_and bB hp k60 (adc60 hp)
  have xC := xor_and bC hp k60 (sbc60 hp)
  have xD := xor_and bD hp k60 (arr60 hp)
  have xE := xor_and bE hp k60 (cmp60 hp)
  have xF := xor_and bF hp k60 (sh60 hp)
  have xG := xor_and bG hp k60 (bit60 hp)
  have xH := xor_and bH hp k60 (nz60 hp)
  have g1 := xor_and bG hp (k := 1) (by unfold By; omega) (bit_1 hp _ _ _)
  have h65 := xor_and bH hp (k := 65) (by unfold By; omega) (nz_65 hp _ _)
  have f64 := xor_and bF hp (k := 64) (by unfold By; omega) (sh_64 hp _ _ _)
  have HB := Lib.hid (show ∀ w, Calls Try.prog 20 #[.int .u8 a, .int .u8 m, .int .u8 p] w fun e w' => e = .returned (.tuple #[.int .u8 (adcV a m p), .int .u8 (adcF a m p)]) ∧ Below w.heap.size w w' from fun w => adc_any a m p w ha hm hp)
  have HC := Lib.hid (show ∀ w, Calls Try.prog 22 #[.int .u8 a, .int .u8 m, .int .u8 p] w fun e w' => e = .returned (.tuple #[.int .u8 (sbcV a m p), .int .u8 (sbcF a m p)]) ∧ Below w.heap.size w w' from fun w => sbc_any a m p w ha hm hp)
  have HD := Lib.hid (show ∀ w, Calls Try.prog 26 #[.int .u8 a, .int .u8 m, .int .u8 p] w fun e w' => e = .returned (.tuple #[.int .u8 (arrV a m p), .int .u8 (arrF a m p)]) ∧ w = w' from fun w => arr_any a m p w ha hm hp)
  have HE := Lib.hid (show ∀ w, Calls Try.prog 25 #[.int .u8 a, .int .u8 m, .int .u8 p] w fun e w' => e = .returned (.tuple #[.int .u8 (sbxV a m), .int .u8 (cmpF a m p)]) ∧ w = w' from fun w => sbx_any a m p w ha hm hp)
  have HF := Lib.hid (show ∀ w, Calls Try.prog 18 #[.int .u8 m, .int .u8 p] w fun e w' => e = .returned (.tuple #[.int .u8 (rorV m p), .int .u8 (shF (rorV m p) p (m % 2 == 1))]) ∧ w = w' from fun w => ror_any m p w hm hp)
  have HG := Lib.hid (show ∀ w, Calls Try.prog 32 #[.int .u8 a, .int .u8 m, .int .u8 p] w fun e w' => e = .returned (.int .u8 (bitF a m p)) ∧ w = w' from fun w => bit_any a m p w ha hm hp)
  have HH := Lib.hid (show ∀ w, Calls Try.prog 29 #[.int .u8 p, .int .u8 a] w fun e w' => e = .returned (.int .u8 (nz p a)) ∧ w = w' from fun w => nz_any p a w hp)
  generalize adcV a m p = v1 at *
  generalize adcF a m p = f1 at *
  generalize sbcV a m p = v2 at *
  generalize sbcF a m p = f2 at *
  generalize arrV a m p = v3 at *
  generalize arrF a m p = f3 at *
  generalize sbxV a m = v4 at *
  generalize cmpF a m p = f4 at *
  generalize shF (rorV m p) p (m % 2 == 1) = f5 at *
  generalize rorV m p = v5 at *
  generalize bitF a m p = f6 at *
  generalize nz p a = f7 at *
  have o2 := or_and (xor_by bB hp) (xor_by bC hp) k60 xB xC
  have o2b := or_by (xor_by bB hp) (xor_by bC hp)
  have o3 := or_and o2b (xor_by bD hp) k60 o2 xD
  have o3b := or_by o2b (xor_by bD hp)
  have o4 := or_and o3b (xor_by bE hp) k60 o3 xE
  have o4b := or_by o3b (xor_by bE hp)
  have o5 := or_and o4b (xor_by bF hp) k60 o4 xF
  have o5b := or_by o4b (xor_by bF hp)
  have o6 := or_and o5b (xor_by bG hp) k60 o5 xG
  have o6b := or_by o5b (xor_by bG hp)
  have o7 := or_and o6b (xor_by bH hp) k60 o6 xH
  clear o2 o2b o3 o3b o4 o4b o5 o5b o6 o6b xB xC xD xE xF xG xH
  go_enter Try.func10, Try.ntmps10
  go_wp2_with fail
  go_at_call 11
  refine (awake_any _).mono ?_
  rintro e w1 ⟨rfl, hb1⟩
  go_wp2_with fail
  go_at_call 20
  refine (HB.out _).mono ?_
  rintro e w2 ⟨rfl, hb2⟩
  have hb12 := hb1.trans (hb2.mono hb1.size)
  go_wp2_with fail
  go_at_call 22
  refine (HC.out _).mono ?_
  rintro e w3 ⟨rfl, hb3⟩
  have hb13 := hb12.trans (hb3.mono hb12.size)
  go_wp2_with fail
  go_at_call 26
  refine (HD.out _).mono ?_
  rintro e w' ⟨rfl, rfl⟩
  go_wp2_with fail
  go_at_call 25
  refine (HE.out _).mono ?_
  rintro e w' ⟨rfl, rfl⟩
  go_wp2_with fail
  go_at_call 18
  refine (HF.out _).mono ?_
  rintro e w' ⟨rfl, rfl⟩
  go_wp2_with fail
  go_at_call 32
  refine (HG.out _).mono ?_
  rintro e w' ⟨rfl, rfl⟩
  go_wp2_with fail
  go_at_call 29
  refine (HH.out _).mono ?_
  rintro e w' ⟨rfl, rfl⟩
  go_wp2
  go_ret
  exact ⟨rfl, hb13⟩
end Go.Proofs.Ytdenknpjgeomhaa.Own

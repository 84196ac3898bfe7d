/- Contracts of the document's Bit and Arr: each comes to what the program's comes to; and what any bytes compared, and tested, tell the flags: the walk. Conditions: bytes are bytes. -/
import Derived.Test.YtdenknpjgeomhaaRef
namespace Go.Proofs.Ytdenknpjgeomhaa.Own
open Go.RowKit

theorem land_bit (x y j : Nat) : (x &&& y) / 2 ^ j % 2 = x / 2 ^ j % 2 * (y / 2 ^ j % 2) := by
  have h := Nat.testBit_and x y j
  rw [Nat.testBit_eq_decide_div_mod_eq, Nat.testBit_eq_decide_div_mod_eq, Nat.testBit_eq_decide_div_mod_eq] at h
  rcases Nat.mod_two_eq_zero_or_one (x / 2 ^ j) with ha | ha <;> rcases Nat.mod_two_eq_zero_or_one (y / 2 ^ j) with hb | hb <;> rw [ha, hb] at h <;> rw [ha, hb] <;> simp at h ⊢ <;> omega
theorem land_mod (x y j : Nat) : (x &&& y) % 2 ^ (j + 1) = (x &&& y) % 2 ^ j + 2 ^ j * (x / 2 ^ j % 2 * (y / 2 ^ j % 2)) := by
  rw [← land_bit, Nat.pow_succ, Nat.mod_mul]

set_option maxHeartbeats 12800000 in
set_option maxRecDepth 100000 in
theorem rbit_any (a m p : Int) (w : World) (ha : By a) (hm : By m) (hp : By p) :
    Calls Try.prog 33 #[.int .u8 a, .int .u8 m, .int .u8 p] w fun e w' => e = .returned (.int .u8 (bitF a m p)) ∧ w = w' := by
  have e1 : bitF a m p = fl (fl (fl p 128 (decide (127 < m))) 64 (m / 64 % 2 == 1)) 2 (land a m == 0) := by
    unfold bitF
    have h1 : has m 128 = decide (127 < m) := by unfold has By at *; rw [Bool.eq_iff_iff]; simp; omega
    rw [h1]
    show fl (fl (fl p 2 (land a m == 0)) 64 (m / 64 % 2 == 1)) 128 (decide (127 < m)) = _
    generalize decide (127 < m) = n
    generalize (m / 64 % 2 == 1) = v
    generalize (land a m == 0) = z
    unfold fl
    cases n <;> cases v <;> cases z <;> simp <;> omega
  rw [e1]
  clear e1
  have hq1 := fl_by hp (.inr (.inr (.inr (.inr rfl)))) (decide (127 < m))
  have hq2 := fl_by hq1 (.inr (.inr (.inr (.inl rfl)))) (m / 64 % 2 == 1)
  obtain ⟨x, rfl, hx⟩ := nat_of (n := 256) ha
  obtain ⟨y, rfl, hy⟩ := nat_of (n := 256) hm
  have hN : (land (x : Int) (y : Int) == 0) = ((x &&& y) == 0) := by
    show (((x &&& y : Nat) : Int) == 0) = _
    rw [Bool.eq_iff_iff]
    simp
  have hN2 : x &&& y < 2 ^ 8 := Nat.and_lt_two_pow _ (by omega)
  rw [hN]
  clear hN ha hm
  go_enter Try.func33, Try.ntmps33
  go_wp2_with fail
  go_at_call 35
  refine (rset_any _ _ _ _ hp (.inr (.inr (.inr (.inr rfl))))).mono ?_
  rintro e w' ⟨rfl, rfl⟩
  go_wp2_with fail
  go_at_call 35
  refine (rset_any _ _ _ _ hq1 (.inr (.inr (.inr (.inl rfl))))).mono ?_
  rintro e w' ⟨rfl, rfl⟩
  go_wp2_with fail
  go_loopw [7, 8] (fun zv fv wr => ∃ (j : Nat) (z : Bool), j ≤ 8 ∧ fv = .int .i64 ((2 ^ j : Nat) : Int) ∧ zv = .bool z ∧ Hid (z = ((x &&& y) % 2 ^ j == 0)) ∧ wr = w) (fun _ fv _ => 256 - (intOf fv).toNat)
  case atStart => exact ⟨0, true, by omega, rfl, rfl, Lib.hid (by simp [Nat.mod_one]), rfl⟩
  case round =>
    obtain ⟨j, z, hj, rfl, rfl, hz, rfl⟩ := hrel
    by_cases h8 : j = 8
    · subst h8
      have hf : z = (x &&& y == 0) := by rw [hz, Nat.mod_eq_of_lt hN2]
      have HF := Lib.hid hf
      clear hf hN2 hz
      go_wp2_with fail
      go_at_call 35
      refine (rset_any _ _ _ _ hq2 (.inr (.inl rfl))).mono ?_
      rintro e w' ⟨rfl, rfl⟩
      go_wp2
      go_ret
      exact ⟨by rw [← HF.out]; rfl, rfl⟩
    · have hj8 : j = 0 ∨ j = 1 ∨ j = 2 ∨ j = 3 ∨ j = 4 ∨ j = 5 ∨ j = 6 ∨ j = 7 := by omega
      clear hj h8
      rcases hj8 with rfl | rfl | rfl | rfl | rfl | rfl | rfl | rfl
      · have hstep : (x &&& y) % 2 = (x &&& y) % 1 + 1 * (x / 1 % 2 * (y / 1 % 2)) := land_mod x y 0
        have hz' : z = ((x &&& y) % 1 == 0) := hz
        clear hz hN2
        have HZ := Lib.hid hz'
        have HST := Lib.hid hstep
        clear hz' hstep
        by_cases k1 : x / 1 % 2 = 1
        · by_cases k2 : y / 1 % 2 = 1
          · have hfin : false = ((x &&& y) % 2 ^ (0 + 1) == 0) := by
              have := HST.out
              rw [k1, k2] at this
              show false = ((x &&& y) % 2 == 0)
              rw [this]
              symm
              rw [beq_eq_false_iff_ne]
              omega
            have HFIN := Lib.hid hfin
            clear hfin
            have h1b : ((x : Int) / 1 % 2 == 1) = true := by simp; omega
            have h1c : ((x : Int) % 2 == 1) = true := by simp; omega
            have h2b : ((y : Int) / 1 % 2 == 1) = true := by simp; omega
            have h2c : ((y : Int) % 2 == 1) = true := by simp; omega
            clear k1 k2
            go_wp2
            exact ⟨⟨1, false, by omega, by first | rfl | simp, rfl, Lib.hid HFIN.out, trivial⟩, by simp [intOf]⟩
          · have k3 : y / 1 % 2 = 0 := by omega
            have hfin : z = ((x &&& y) % 2 ^ (0 + 1) == 0) := by
              have := HST.out
              rw [k3] at this
              show z = ((x &&& y) % 2 == 0)
              rw [this, HZ.out]
              simp
            have HFIN := Lib.hid hfin
            clear hfin
            have h1b : ((x : Int) / 1 % 2 == 1) = true := by simp; omega
            have h1c : ((x : Int) % 2 == 1) = true := by simp; omega
            have h2b : ((y : Int) / 1 % 2 == 1) = false := by simp; omega
            have h2c : ((y : Int) % 2 == 1) = false := by simp; omega
            clear k1 k2 k3
            go_wp2
            exact ⟨⟨1, z, by omega, by first | rfl | simp, rfl, Lib.hid HFIN.out, trivial⟩, by simp [intOf]⟩
        · have k3 : x / 1 % 2 = 0 := by omega
          have hfin : z = ((x &&& y) % 2 ^ (0 + 1) == 0) := by
            have := HST.out
            rw [k3] at this
            show z = ((x &&& y) % 2 == 0)
            rw [this, HZ.out]
            simp
          have HFIN := Lib.hid hfin
          clear hfin
          have h1b : ((x : Int) / 1 % 2 == 1) = false := by simp; omega
          have h1c : ((x : Int) % 2 == 1) = false := by simp; omega
          clear k1 k3
          go_wp2
          exact ⟨⟨1, z, by omega, by first | rfl | simp, rfl, Lib.hid HFIN.out, trivial⟩, by simp [intOf]⟩
      · have hstep : (x &&& y) % 4 = (x &&& y) % 2 + 2 * (x / 2 % 2 * (y / 2 % 2)) := land_mod x y 1
        have hz' : z = ((x &&& y) % 2 == 0) := hz
        clear hz hN2
        have HZ := Lib.hid hz'
        have HST := Lib.hid hstep
        clear hz' hstep
        by_cases k1 : x / 2 % 2 = 1
        · by_cases k2 : y / 2 % 2 = 1
          · have hfin : false = ((x &&& y) % 2 ^ (1 + 1) == 0) := by
              have := HST.out
              rw [k1, k2] at this
              show false = ((x &&& y) % 4 == 0)
              rw [this]
              symm
              rw [beq_eq_false_iff_ne]
              omega
            have HFIN := Lib.hid hfin
            clear hfin
            have h1b : ((x : Int) / 2 % 2 == 1) = true := by simp; omega
            have h2b : ((y : Int) / 2 % 2 == 1) = true := by simp; omega
            clear k1 k2
            go_wp2
            exact ⟨⟨2, false, by omega, by first | rfl | simp, rfl, Lib.hid HFIN.out, trivial⟩, by simp [intOf]⟩
          · have k3 : y / 2 % 2 = 0 := by omega
            have hfin : z = ((x &&& y) % 2 ^ (1 + 1) == 0) := by
              have := HST.out
              rw [k3] at this
              show z = ((x &&& y) % 4 == 0)
              rw [this, HZ.out]
              simp
            have HFIN := Lib.hid hfin
            clear hfin
            have h1b : ((x : Int) / 2 % 2 == 1) = true := by simp; omega
            have h2b : ((y : Int) / 2 % 2 == 1) = false := by simp; omega
            clear k1 k2 k3
            go_wp2
            exact ⟨⟨2, z, by omega, by first | rfl | simp, rfl, Lib.hid HFIN.out, trivial⟩, by simp [intOf]⟩
        · have k3 : x / 2 % 2 = 0 := by omega
          have hfin : z = ((x &&& y) % 2 ^ (1 + 1) == 0) := by
            have := HST.out
            rw [k3] at this
            show z = ((x &&& y) % 4 == 0)
            rw [this, HZ.out]
            simp
          have HFIN := Lib.hid hfin
          clear hfin
          have h1b : ((x : Int) / 2 % 2 == 1) = false := by simp; omega
          clear k1 k3
          go_wp2
          exact ⟨⟨2, z, by omega, by first | rfl | simp, rfl, Lib.hid HFIN.out, trivial⟩, by simp [intOf]⟩
      · have hstep : (x &&& y) % 8 = (x &&& y) % 4 + 4 * (x / 4 % 2 * (y / 4 % 2)) := land_mod x y 2
        have hz' : z = ((x &&& y) % 4 == 0) := hz
        clear hz hN2
        have HZ := Lib.hid hz'
        have HST := Lib.hid hstep
        clear hz' hstep
        by_cases k1 : x / 4 % 2 = 1
        · by_cases k2 : y / 4 % 2 = 1
          · have hfin : false = ((x &&& y) % 2 ^ (2 + 1) == 0) := by
              have := HST.out
              rw [k1, k2] at this
              show false = ((x &&& y) % 8 == 0)
              rw [this]
              symm
              rw [beq_eq_false_iff_ne]
              omega
            have HFIN := Lib.hid hfin
            clear hfin
            have h1b : ((x : Int) / 4 % 2 == 1) = true := by simp; omega
            have h2b : ((y : Int) / 4 % 2 == 1) = true := by simp; omega
            clear k1 k2
            go_wp2
            exact ⟨⟨3, false, by omega, by first | rfl | simp, rfl, Lib.hid HFIN.out, trivial⟩, by simp [intOf]⟩
          · have k3 : y / 4 % 2 = 0 := by omega
            have hfin : z = ((x &&& y) % 2 ^ (2 + 1) == 0) := by
              have := HST.out
              rw [k3] at this
              show z = ((x &&& y) % 8 == 0)
              rw [this, HZ.out]
              simp
            have HFIN := Lib.hid hfin
            clear hfin
            have h1b : ((x : Int) / 4 % 2 == 1) = true := by simp; omega
            have h2b : ((y : Int) / 4 % 2 == 1) = false := by simp; omega
            clear k1 k2 k3
            go_wp2
            exact ⟨⟨3, z, by omega, by first | rfl | simp, rfl, Lib.hid HFIN.out, trivial⟩, by simp [intOf]⟩
        · have k3 : x / 4 % 2 = 0 := by omega
          have hfin : z = ((x &&& y) % 2 ^ (2 + 1) == 0) := by
            have := HST.out
            rw [k3] at this
            show z = ((x &&& y) % 8 == 0)
            rw [this, HZ.out]
            simp
          have HFIN := Lib.hid hfin
          clear hfin
          have h1b : ((x : Int) / 4 % 2 == 1) = false := by simp; omega
          clear k1 k3
          go_wp2
          exact ⟨⟨3, z, by omega, by first | rfl | simp, rfl, Lib.hid HFIN.out, trivial⟩, by simp [intOf]⟩
      · have hstep : (x &&& y) % 16 = (x &&& y) % 8 + 8 * (x / 8 % 2 * (y / 8 % 2)) := land_mod x y 3
        have hz' : z = ((x &&& y) % 8 == 0) := hz
        clear hz hN2
        have HZ := Lib.hid hz'
        have HST := Lib.hid hstep
        clear hz' hstep
        by_cases k1 : x / 8 % 2 = 1
        · by_cases k2 : y / 8 % 2 = 1
          · have hfin : false = ((x &&& y) % 2 ^ (3 + 1) == 0) := by
              have := HST.out
              rw [k1, k2] at this
              show false = ((x &&& y) % 16 == 0)
              rw [this]
              symm
              rw [beq_eq_false_iff_ne]
              omega
            have HFIN := Lib.hid hfin
            clear hfin
            have h1b : ((x : Int) / 8 % 2 == 1) = true := by simp; omega
            have h2b : ((y : Int) / 8 % 2 == 1) = true := by simp; omega
            clear k1 k2
            go_wp2
            exact ⟨⟨4, false, by omega, by first | rfl | simp, rfl, Lib.hid HFIN.out, trivial⟩, by simp [intOf]⟩
          · have k3 : y / 8 % 2 = 0 := by omega
            have hfin : z = ((x &&& y) % 2 ^ (3 + 1) == 0) := by
              have := HST.out
              rw [k3] at this
              show z = ((x &&& y) % 16 == 0)
              rw [this, HZ.out]
              simp
            have HFIN := Lib.hid hfin
            clear hfin
            have h1b : ((x : Int) / 8 % 2 == 1) = true := by simp; omega
            have h2b : ((y : Int) / 8 % 2 == 1) = false := by simp; omega
            clear k1 k2 k3
            go_wp2
            exact ⟨⟨4, z, by omega, by first | rfl | simp, rfl, Lib.hid HFIN.out, trivial⟩, by simp [intOf]⟩
        · have k3 : x / 8 % 2 = 0 := by omega
          have hfin : z = ((x &&& y) % 2 ^ (3 + 1) == 0) := by
            have := HST.out
            rw [k3] at this
            show z = ((x &&& y) % 16 == 0)
            rw [this, HZ.out]
            simp
          have HFIN := Lib.hid hfin
          clear hfin
          have h1b : ((x : Int) / 8 % 2 == 1) = false := by simp; omega
          clear k1 k3
          go_wp2
          exact ⟨⟨4, z, by omega, by first | rfl | simp, rfl, Lib.hid HFIN.out, trivial⟩, by simp [intOf]⟩
      · have hstep : (x &&& y) % 32 = (x &&& y) % 16 + 16 * (x / 16 % 2 * (y / 16 % 2)) := land_mod x y 4
        have hz' : z = ((x &&& y) % 16 == 0) := hz
        clear hz hN2
        have HZ := Lib.hid hz'
        have HST := Lib.hid hstep
        clear hz' hstep
        by_cases k1 : x / 16 % 2 = 1
        · by_cases k2 : y / 16 % 2 = 1
          · have hfin : false = ((x &&& y) % 2 ^ (4 + 1) == 0) := by
              have := HST.out
              rw [k1, k2] at this
              show false = ((x &&& y) % 32 == 0)
              rw [this]
              symm
              rw [beq_eq_false_iff_ne]
              omega
            have HFIN := Lib.hid hfin
            clear hfin
            have h1b : ((x : Int) / 16 % 2 == 1) = true := by simp; omega
            have h2b : ((y : Int) / 16 % 2 == 1) = true := by simp; omega
            clear k1 k2
            go_wp2
            exact ⟨⟨5, false, by omega, by first | rfl | simp, rfl, Lib.hid HFIN.out, trivial⟩, by simp [intOf]⟩
          · have k3 : y / 16 % 2 = 0 := by omega
            have hfin : z = ((x &&& y) % 2 ^ (4 + 1) == 0) := by
              have := HST.out
              rw [k3] at this
              show z = ((x &&& y) % 32 == 0)
              rw [this, HZ.out]
              simp
            have HFIN := Lib.hid hfin
            clear hfin
            have h1b : ((x : Int) / 16 % 2 == 1) = true := by simp; omega
            have h2b : ((y : Int) / 16 % 2 == 1) = false := by simp; omega
            clear k1 k2 k3
            go_wp2
            exact ⟨⟨5, z, by omega, by first | rfl | simp, rfl, Lib.hid HFIN.out, trivial⟩, by simp [intOf]⟩
        · have k3 : x / 16 % 2 = 0 := by omega
          have hfin : z = ((x &&& y) % 2 ^ (4 + 1) == 0) := by
            have := HST.out
            rw [k3] at this
            show z = ((x &&& y) % 32 == 0)
            rw [this, HZ.out]
            simp
          have HFIN := Lib.hid hfin
          clear hfin
          have h1b : ((x : Int) / 16 % 2 == 1) = false := by simp; omega
          clear k1 k3
          go_wp2
          exact ⟨⟨5, z, by omega, by first | rfl | simp, rfl, Lib.hid HFIN.out, trivial⟩, by simp [intOf]⟩
      · have hstep : (x &&& y) % 64 = (x &&& y) % 32 + 32 * (x / 32 % 2 * (y / 32 % 2)) := land_mod x y 5
        have hz' : z = ((x &&& y) % 32 == 0) := hz
        clear hz hN2
        have HZ := Lib.hid hz'
        have HST := Lib.hid hstep
        clear hz' hstep
        by_cases k1 : x / 32 % 2 = 1
        · by_cases k2 : y / 32 % 2 = 1
          · have hfin : false = ((x &&& y) % 2 ^ (5 + 1) == 0) := by
              have := HST.out
              rw [k1, k2] at this
              show false = ((x &&& y) % 64 == 0)
              rw [this]
              symm
              rw [beq_eq_false_iff_ne]
              omega
            have HFIN := Lib.hid hfin
            clear hfin
            have h1b : ((x : Int) / 32 % 2 == 1) = true := by simp; omega
            have h2b : ((y : Int) / 32 % 2 == 1) = true := by simp; omega
            clear k1 k2
            go_wp2
            exact ⟨⟨6, false, by omega, by first | rfl | simp, rfl, Lib.hid HFIN.out, trivial⟩, by simp [intOf]⟩
          · have k3 : y / 32 % 2 = 0 := by omega
            have hfin : z = ((x &&& y) % 2 ^ (5 + 1) == 0) := by
              have := HST.out
              rw [k3] at this
              show z = ((x &&& y) % 64 == 0)
              rw [this, HZ.out]
              simp
            have HFIN := Lib.hid hfin
            clear hfin
            have h1b : ((x : Int) / 32 % 2 == 1) = true := by simp; omega
            have h2b : ((y : Int) / 32 % 2 == 1) = false := by simp; omega
            clear k1 k2 k3
            go_wp2
            exact ⟨⟨6, z, by omega, by first | rfl | simp, rfl, Lib.hid HFIN.out, trivial⟩, by simp [intOf]⟩
        · have k3 : x / 32 % 2 = 0 := by omega
          have hfin : z = ((x &&& y) % 2 ^ (5 + 1) == 0) := by
            have := HST.out
            rw [k3] at this
            show z = ((x &&& y) % 64 == 0)
            rw [this, HZ.out]
            simp
          have HFIN := Lib.hid hfin
          clear hfin
          have h1b : ((x : Int) / 32 % 2 == 1) = false := by simp; omega
          clear k1 k3
          go_wp2
          exact ⟨⟨6, z, by omega, by first | rfl | simp, rfl, Lib.hid HFIN.out, trivial⟩, by simp [intOf]⟩
      · have hstep : (x &&& y) % 128 = (x &&& y) % 64 + 64 * (x / 64 % 2 * (y / 64 % 2)) := land_mod x y 6
        have hz' : z = ((x &&& y) % 64 == 0) := hz
        clear hz hN2
        have HZ := Lib.hid hz'
        have HST := Lib.hid hstep
        clear hz' hstep
        by_cases k1 : x / 64 % 2 = 1
        · by_cases k2 : y / 64 % 2 = 1
          · have hfin : false = ((x &&& y) % 2 ^ (6 + 1) == 0) := by
              have := HST.out
              rw [k1, k2] at this
              show false = ((x &&& y) % 128 == 0)
              rw [this]
              symm
              rw [beq_eq_false_iff_ne]
              omega
            have HFIN := Lib.hid hfin
            clear hfin
            have h1b : ((x : Int) / 64 % 2 == 1) = true := by simp; omega
            have h2b : ((y : Int) / 64 % 2 == 1) = true := by simp; omega
            clear k1 k2
            go_wp2
            exact ⟨⟨7, false, by omega, by first | rfl | simp, rfl, Lib.hid HFIN.out, trivial⟩, by simp [intOf]⟩
          · have k3 : y / 64 % 2 = 0 := by omega
            have hfin : z = ((x &&& y) % 2 ^ (6 + 1) == 0) := by
              have := HST.out
              rw [k3] at this
              show z = ((x &&& y) % 128 == 0)
              rw [this, HZ.out]
              simp
            have HFIN := Lib.hid hfin
            clear hfin
            have h1b : ((x : Int) / 64 % 2 == 1) = true := by simp; omega
            have h2b : ((y : Int) / 64 % 2 == 1) = false := by simp; omega
            clear k1 k2 k3
            go_wp2
            exact ⟨⟨7, z, by omega, by first | rfl | simp, rfl, Lib.hid HFIN.out, trivial⟩, by simp [intOf]⟩
        · have k3 : x / 64 % 2 = 0 := by omega
          have hfin : z = ((x &&& y) % 2 ^ (6 + 1) == 0) := by
            have := HST.out
            rw [k3] at this
            show z = ((x &&& y) % 128 == 0)
            rw [this, HZ.out]
            simp
          have HFIN := Lib.hid hfin
          clear hfin
          have h1b : ((x : Int) / 64 % 2 == 1) = false := by simp; omega
          clear k1 k3
          go_wp2
          exact ⟨⟨7, z, by omega, by first | rfl | simp, rfl, Lib.hid HFIN.out, trivial⟩, by simp [intOf]⟩
      · have hstep : (x &&& y) % 256 = (x &&& y) % 128 + 128 * (x / 128 % 2 * (y / 128 % 2)) := land_mod x y 7
        have hz' : z = ((x &&& y) % 128 == 0) := hz
        clear hz hN2
        have HZ := Lib.hid hz'
        have HST := Lib.hid hstep
        clear hz' hstep
        by_cases k1 : x / 128 % 2 = 1
        · by_cases k2 : y / 128 % 2 = 1
          · have hfin : false = ((x &&& y) % 2 ^ (7 + 1) == 0) := by
              have := HST.out
              rw [k1, k2] at this
              show false = ((x &&& y) % 256 == 0)
              rw [this]
              symm
              rw [beq_eq_false_iff_ne]
              omega
            have HFIN := Lib.hid hfin
            clear hfin
            have h1b : ((x : Int) / 128 % 2 == 1) = true := by simp; omega
            have h2b : ((y : Int) / 128 % 2 == 1) = true := by simp; omega
            clear k1 k2
            go_wp2
            exact ⟨⟨8, false, by omega, by first | rfl | simp, rfl, Lib.hid HFIN.out, trivial⟩, by simp [intOf]⟩
          · have k3 : y / 128 % 2 = 0 := by omega
            have hfin : z = ((x &&& y) % 2 ^ (7 + 1) == 0) := by
              have := HST.out
              rw [k3] at this
              show z = ((x &&& y) % 256 == 0)
              rw [this, HZ.out]
              simp
            have HFIN := Lib.hid hfin
            clear hfin
            have h1b : ((x : Int) / 128 % 2 == 1) = true := by simp; omega
            have h2b : ((y : Int) / 128 % 2 == 1) = false := by simp; omega
            clear k1 k2 k3
            go_wp2
            exact ⟨⟨8, z, by omega, by first | rfl | simp, rfl, Lib.hid HFIN.out, trivial⟩, by simp [intOf]⟩
        · have k3 : x / 128 % 2 = 0 := by omega
          have hfin : z = ((x &&& y) % 2 ^ (7 + 1) == 0) := by
            have := HST.out
            rw [k3] at this
            show z = ((x &&& y) % 256 == 0)
            rw [this, HZ.out]
            simp
          have HFIN := Lib.hid hfin
          clear hfin
          have h1b : ((x : Int) / 128 % 2 == 1) = false := by simp; omega
          clear k1 k3
          go_wp2
          exact ⟨⟨8, z, by omega, by first | rfl | simp, rfl, Lib.hid HFIN.out, trivial⟩, by simp [intOf]⟩

theorem has_ne (s f t g : Int) : (has s f != has t g) = (s / f % 2 != t / g % 2) := by
  unfold has
  rcases (show s / f % 2 = 0 ∨ s / f % 2 = 1 by omega) with h | h <;> rcases (show t / g % 2 = 0 ∨ t / g % 2 = 1 by omega) with k | k <;> rw [h, k] <;> rfl
theorem arr_spec {a m p T rv : Int} (hd : has p 8 = true) (hT : land a m = T) (hrv : rorV T p = rv) :
    arrV a m p = (if decide (80 < T - T % 16 + 16 * (T / 16 % 2)) then ((if T % 16 + T % 2 > 5 then rv - rv % 16 + (rv % 16 + 6) % 16 else rv) + 96) % 256 else (if T % 16 + T % 2 > 5 then rv - rv % 16 + (rv % 16 + 6) % 16 else rv)) ∧
    arrF a m p = fl (fl (nz p rv) 64 (T / 64 % 2 != rv / 64 % 2)) 1 (decide (80 < T - T % 16 + 16 * (T / 16 % 2))) := by
  subst hT
  subst hrv
  unfold arrV arrF arrN arrH arrR
  rw [hd, has_ne]
  exact ⟨rfl, rfl⟩

set_option maxHeartbeats 25600000 in
set_option maxRecDepth 100000 in
theorem rarr_bin (a m p : Int) (w : World) (ha : By a) (hm : By m) (hp : By p) (hd : has p 8 = false) :
    Calls Try.prog 27 #[.int .u8 a, .int .u8 m, .int .u8 p] w fun e w' => e = .returned (.tuple #[.int .u8 (arrV a m p), .int .u8 (arrF a m p)]) ∧ w = w' := by
  have HH := Lib.hid (show ∀ w, Calls Try.prog 42 #[.int .u8 p, .int .i64 8] w fun e w' => e = .returned (.bool false) ∧ w = w' from fun w => by have := rhas_any p 8 w hp (.inr (.inr (.inl rfl))); rw [hd] at this; exact this)
  have hT : By (land a m) := land_by ha
  have hn : By (rorV (land a m) p) := rorV_by hT p
  unfold arrV arrF arrN arrH arrR
  rw [hd]
  simp only [Bool.false_eq_true, if_false]
  clear hd
  have hbin : (has (rorV (land a m) p) 64 != has (rorV (land a m) p) 32) = (rorV (land a m) p / 64 % 2 != rorV (land a m) p / 32 % 2) := has_ne _ _ _ _
  have hdec : (has (land a m) 64 != has (rorV (land a m) p) 64) = (land a m / 64 % 2 != rorV (land a m) p / 64 % 2) := has_ne _ _ _ _
  rw [hbin]
  clear hbin hdec
  obtain ⟨x, rfl, hx⟩ := nat_of (n := 256) ha
  obtain ⟨y, rfl, hy⟩ := nat_of (n := 256) hm
  have hN2 : x &&& y < 2 ^ 8 := Nat.and_lt_two_pow _ (by omega)
  have hNe : land (x : Int) (y : Int) = ((x &&& y : Nat) : Int) := rfl
  obtain ⟨rv, hrv⟩ : ∃ rv, rorV (land (x : Int) (y : Int)) p = rv := ⟨_, rfl⟩
  rw [hrv] at hn ⊢
  rw [hNe] at hT hrv
  clear hNe ha hm
  have HRV := Lib.hid hrv
  clear hrv
  obtain ⟨hn0, hn1⟩ := hn
  go_enter Try.func27, Try.ntmps27
  go_wp2_with fail
  go_loopw [8, 9] (fun tv fv wr => ∃ (j z : Nat), j ≤ 8 ∧ fv = .int .i64 ((2 ^ j : Nat) : Int) ∧ tv = .int .i64 (z : Int) ∧ Hid (z = (x &&& y) % 2 ^ j) ∧ wr = w) (fun _ fv _ => 256 - (intOf fv).toNat)
  case atStart => exact ⟨0, 0, by omega, rfl, rfl, Lib.hid (by simp [Nat.mod_one]), rfl⟩
  case round =>
    obtain ⟨j, z, hj, rfl, rfl, hz, rfl⟩ := hrel
    by_cases h8 : j = 8
    · subst h8
      have hf : z = x &&& y := by rw [hz, Nat.mod_eq_of_lt hN2]
      clear hz
      subst hf
      clear hN2
      obtain ⟨T, hne⟩ : ∃ T : Int, ((x &&& y : Nat) : Int) = T := ⟨_, rfl⟩
      rw [hne] at hT ⊢
      have hrv := HRV.out
      rw [hne] at hrv
      clear HRV
      have HRV := Lib.hid hrv
      clear hrv
      have hTT := hT
      obtain ⟨hT0, hT1⟩ := hTT
      go_wp2_with fail
      go_at_call 19
      refine (rror_any _ _ _ hT hp).mono ?_
      rintro e w' ⟨rfl, rfl⟩
      rw [HRV.out]
      go_wp2_with fail
      go_at_call 42
      refine (HH.out _).mono ?_
      rintro e w' ⟨rfl, rfl⟩
      go_wp2_with fail
      go_at_call 30
      refine (rnz_any _ _ _ hp).mono ?_
      rintro e w' ⟨rfl, rfl⟩
      go_wp2_with fail
      go_at_call 35
      refine (rset_any _ _ _ _ (nz_by hp _) (.inl rfl)).mono ?_
      rintro e w' ⟨rfl, rfl⟩
      go_wp2_with fail
      go_at_call 35
      refine (rset_any _ _ _ _ (fl_by (nz_by hp _) (.inl rfl) _) (.inr (.inr (.inr (.inl rfl))))).mono ?_
      rintro e w' ⟨rfl, rfl⟩
      go_wp2
      go_ret2
      exact ⟨rfl, rfl⟩
    · have hj8 : j = 0 ∨ j = 1 ∨ j = 2 ∨ j = 3 ∨ j = 4 ∨ j = 5 ∨ j = 6 ∨ j = 7 := by omega
      clear hj h8
      rcases hj8 with rfl | rfl | rfl | rfl | rfl | rfl | rfl | rfl
      · have hstep : (x &&& y) % 2 = (x &&& y) % 1 + 1 * (x / 1 % 2 * (y / 1 % 2)) := land_mod x y 0
        have hz' : z = (x &&& y) % 1 := hz
        have hzb : z < 256 := by rw [hz']; omega
        clear hz hN2
        have HZ := Lib.hid hz'
        have HST := Lib.hid hstep
        clear hz' hstep
        by_cases k1 : x / 1 % 2 = 1
        · by_cases k2 : y / 1 % 2 = 1
          · have hfin : z + 1 = (x &&& y) % 2 ^ (0 + 1) := by
              have := HST.out
              rw [k1, k2] at this
              show z + 1 = (x &&& y) % 2
              rw [this, HZ.out]
            have HFIN := Lib.hid hfin
            clear hfin
            have h1b : ((x : Int) / 1 % 2 == 1) = true := by simp; omega
            have h1c : ((x : Int) % 2 == 1) = true := by simp; omega
            have h2b : ((y : Int) / 1 % 2 == 1) = true := by simp; omega
            have h2c : ((y : Int) % 2 == 1) = true := by simp; omega
            clear k1 k2
            go_wp2
            exact ⟨⟨1, z + 1, by omega, by first | rfl | simp, by first | rfl | go_num, Lib.hid HFIN.out, trivial⟩, by simp [intOf]⟩
          · have k3 : y / 1 % 2 = 0 := by omega
            have hfin : z = (x &&& y) % 2 ^ (0 + 1) := by
              have := HST.out
              rw [k3] at this
              show z = (x &&& y) % 2
              rw [this, HZ.out]
              simp
            have HFIN := Lib.hid hfin
            clear hfin
            have h1b : ((x : Int) / 1 % 2 == 1) = true := by simp; omega
            have h1c : ((x : Int) % 2 == 1) = true := by simp; omega
            have h2b : ((y : Int) / 1 % 2 == 1) = false := by simp; omega
            have h2c : ((y : Int) % 2 == 1) = false := by simp; omega
            clear k1 k2 k3
            go_wp2
            exact ⟨⟨1, z, by omega, by first | rfl | simp, by first | rfl | go_num, Lib.hid HFIN.out, trivial⟩, by simp [intOf]⟩
        · have k3 : x / 1 % 2 = 0 := by omega
          have hfin : z = (x &&& y) % 2 ^ (0 + 1) := by
            have := HST.out
            rw [k3] at this
            show z = (x &&& y) % 2
            rw [this, HZ.out]
            simp
          have HFIN := Lib.hid hfin
          clear hfin
          have h1b : ((x : Int) / 1 % 2 == 1) = false := by simp; omega
          have h1c : ((x : Int) % 2 == 1) = false := by simp; omega
          clear k1 k3
          go_wp2
          exact ⟨⟨1, z, by omega, by first | rfl | simp, by first | rfl | go_num, Lib.hid HFIN.out, trivial⟩, by simp [intOf]⟩
      · have hstep : (x &&& y) % 4 = (x &&& y) % 2 + 2 * (x / 2 % 2 * (y / 2 % 2)) := land_mod x y 1
        have hz' : z = (x &&& y) % 2 := hz
        have hzb : z < 256 := by rw [hz']; omega
        clear hz hN2
        have HZ := Lib.hid hz'
        have HST := Lib.hid hstep
        clear hz' hstep
        by_cases k1 : x / 2 % 2 = 1
        · by_cases k2 : y / 2 % 2 = 1
          · have hfin : z + 2 = (x &&& y) % 2 ^ (1 + 1) := by
              have := HST.out
              rw [k1, k2] at this
              show z + 2 = (x &&& y) % 4
              rw [this, HZ.out]
            have HFIN := Lib.hid hfin
            clear hfin
            have h1b : ((x : Int) / 2 % 2 == 1) = true := by simp; omega
            have h2b : ((y : Int) / 2 % 2 == 1) = true := by simp; omega
            clear k1 k2
            go_wp2
            exact ⟨⟨2, z + 2, by omega, by first | rfl | simp, by first | rfl | go_num, Lib.hid HFIN.out, trivial⟩, by simp [intOf]⟩
          · have k3 : y / 2 % 2 = 0 := by omega
            have hfin : z = (x &&& y) % 2 ^ (1 + 1) := by
              have := HST.out
              rw [k3] at this
              show z = (x &&& y) % 4
              rw [this, HZ.out]
              simp
            have HFIN := Lib.hid hfin
            clear hfin
            have h1b : ((x : Int) / 2 % 2 == 1) = true := by simp; omega
            have h2b : ((y : Int) / 2 % 2 == 1) = false := by simp; omega
            clear k1 k2 k3
            go_wp2
            exact ⟨⟨2, z, by omega, by first | rfl | simp, by first | rfl | go_num, Lib.hid HFIN.out, trivial⟩, by simp [intOf]⟩
        · have k3 : x / 2 % 2 = 0 := by omega
          have hfin : z = (x &&& y) % 2 ^ (1 + 1) := by
            have := HST.out
            rw [k3] at this
            show z = (x &&& y) % 4
            rw [this, HZ.out]
            simp
          have HFIN := Lib.hid hfin
          clear hfin
          have h1b : ((x : Int) / 2 % 2 == 1) = false := by simp; omega
          clear k1 k3
          go_wp2
          exact ⟨⟨2, z, by omega, by first | rfl | simp, by first | rfl | go_num, Lib.hid HFIN.out, trivial⟩, by simp [intOf]⟩
      · have hstep : (x &&& y) % 8 = (x &&& y) % 4 + 4 * (x / 4 % 2 * (y / 4 % 2)) := land_mod x y 2
        have hz' : z = (x &&& y) % 4 := hz
        have hzb : z < 256 := by rw [hz']; omega
        clear hz hN2
        have HZ := Lib.hid hz'
        have HST := Lib.hid hstep
        clear hz' hstep
        by_cases k1 : x / 4 % 2 = 1
        · by_cases k2 : y / 4 % 2 = 1
          · have hfin : z + 4 = (x &&& y) % 2 ^ (2 + 1) := by
              have := HST.out
              rw [k1, k2] at this
              show z + 4 = (x &&& y) % 8
              rw [this, HZ.out]
            have HFIN := Lib.hid hfin
            clear hfin
            have h1b : ((x : Int) / 4 % 2 == 1) = true := by simp; omega
            have h2b : ((y : Int) / 4 % 2 == 1) = true := by simp; omega
            clear k1 k2
            go_wp2
            exact ⟨⟨3, z + 4, by omega, by first | rfl | simp, by first | rfl | go_num, Lib.hid HFIN.out, trivial⟩, by simp [intOf]⟩
          · have k3 : y / 4 % 2 = 0 := by omega
            have hfin : z = (x &&& y) % 2 ^ (2 + 1) := by
              have := HST.out
              rw [k3] at this
              show z = (x &&& y) % 8
              rw [this, HZ.out]
              simp
            have HFIN := Lib.hid hfin
            clear hfin
            have h1b : ((x : Int) / 4 % 2 == 1) = true := by simp; omega
            have h2b : ((y : Int) / 4 % 2 == 1) = false := by simp; omega
            clear k1 k2 k3
            go_wp2
            exact ⟨⟨3, z, by omega, by first | rfl | simp, by first | rfl | go_num, Lib.hid HFIN.out, trivial⟩, by simp [intOf]⟩
        · have k3 : x / 4 % 2 = 0 := by omega
          have hfin : z = (x &&& y) % 2 ^ (2 + 1) := by
            have := HST.out
            rw [k3] at this
            show z = (x &&& y) % 8
            rw [this, HZ.out]
            simp
          have HFIN := Lib.hid hfin
          clear hfin
          have h1b : ((x : Int) / 4 % 2 == 1) = false := by simp; omega
          clear k1 k3
          go_wp2
          exact ⟨⟨3, z, by omega, by first | rfl | simp, by first | rfl | go_num, Lib.hid HFIN.out, trivial⟩, by simp [intOf]⟩
      · have hstep : (x &&& y) % 16 = (x &&& y) % 8 + 8 * (x / 8 % 2 * (y / 8 % 2)) := land_mod x y 3
        have hz' : z = (x &&& y) % 8 := hz
        have hzb : z < 256 := by rw [hz']; omega
        clear hz hN2
        have HZ := Lib.hid hz'
        have HST := Lib.hid hstep
        clear hz' hstep
        by_cases k1 : x / 8 % 2 = 1
        · by_cases k2 : y / 8 % 2 = 1
          · have hfin : z + 8 = (x &&& y) % 2 ^ (3 + 1) := by
              have := HST.out
              rw [k1, k2] at this
              show z + 8 = (x &&& y) % 16
              rw [this, HZ.out]
            have HFIN := Lib.hid hfin
            clear hfin
            have h1b : ((x : Int) / 8 % 2 == 1) = true := by simp; omega
            have h2b : ((y : Int) / 8 % 2 == 1) = true := by simp; omega
            clear k1 k2
            go_wp2
            exact ⟨⟨4, z + 8, by omega, by first | rfl | simp, by first | rfl | go_num, Lib.hid HFIN.out, trivial⟩, by simp [intOf]⟩
          · have k3 : y / 8 % 2 = 0 := by omega
            have hfin : z = (x &&& y) % 2 ^ (3 + 1) := by
              have := HST.out
              rw [k3] at this
              show z = (x &&& y) % 16
              rw [this, HZ.out]
              simp
            have HFIN := Lib.hid hfin
            clear hfin
            have h1b : ((x : Int) / 8 % 2 == 1) = true := by simp; omega
            have h2b : ((y : Int) / 8 % 2 == 1) = false := by simp; omega
            clear k1 k2 k3
            go_wp2
            exact ⟨⟨4, z, by omega, by first | rfl | simp, by first | rfl | go_num, Lib.hid HFIN.out, trivial⟩, by simp [intOf]⟩
        · have k3 : x / 8 % 2 = 0 := by omega
          have hfin : z = (x &&& y) % 2 ^ (3 + 1) := by
            have := HST.out
            rw [k3] at this
            show z = (x &&& y) % 16
            rw [this, HZ.out]
            simp
          have HFIN := Lib.hid hfin
          clear hfin
          have h1b : ((x : Int) / 8 % 2 == 1) = false := by simp; omega
          clear k1 k3
          go_wp2
          exact ⟨⟨4, z, by omega, by first | rfl | simp, by first | rfl | go_num, Lib.hid HFIN.out, trivial⟩, by simp [intOf]⟩
      · have hstep : (x &&& y) % 32 = (x &&& y) % 16 + 16 * (x / 16 % 2 * (y / 16 % 2)) := land_mod x y 4
        have hz' : z = (x &&& y) % 16 := hz
        have hzb : z < 256 := by rw [hz']; omega
        clear hz hN2
        have HZ := Lib.hid hz'
        have HST := Lib.hid hstep
        clear hz' hstep
        by_cases k1 : x / 16 % 2 = 1
        · by_cases k2 : y / 16 % 2 = 1
          · have hfin : z + 16 = (x &&& y) % 2 ^ (4 + 1) := by
              have := HST.out
              rw [k1, k2] at this
              show z + 16 = (x &&& y) % 32
              rw [this, HZ.out]
            have HFIN := Lib.hid hfin
            clear hfin
            have h1b : ((x : Int) / 16 % 2 == 1) = true := by simp; omega
            have h2b : ((y : Int) / 16 % 2 == 1) = true := by simp; omega
            clear k1 k2
            go_wp2
            exact ⟨⟨5, z + 16, by omega, by first | rfl | simp, by first | rfl | go_num, Lib.hid HFIN.out, trivial⟩, by simp [intOf]⟩
          · have k3 : y / 16 % 2 = 0 := by omega
            have hfin : z = (x &&& y) % 2 ^ (4 + 1) := by
              have := HST.out
              rw [k3] at this
              show z = (x &&& y) % 32
              rw [this, HZ.out]
              simp
            have HFIN := Lib.hid hfin
            clear hfin
            have h1b : ((x : Int) / 16 % 2 == 1) = true := by simp; omega
            have h2b : ((y : Int) / 16 % 2 == 1) = false := by simp; omega
            clear k1 k2 k3
            go_wp2
            exact ⟨⟨5, z, by omega, by first | rfl | simp, by first | rfl | go_num, Lib.hid HFIN.out, trivial⟩, by simp [intOf]⟩
        · have k3 : x / 16 % 2 = 0 := by omega
          have hfin : z = (x &&& y) % 2 ^ (4 + 1) := by
            have := HST.out
            rw [k3] at this
            show z = (x &&& y) % 32
            rw [this, HZ.out]
            simp
          have HFIN := Lib.hid hfin
          clear hfin
          have h1b : ((x : Int) / 16 % 2 == 1) = false := by simp; omega
          clear k1 k3
          go_wp2
          exact ⟨⟨5, z, by omega, by first | rfl | simp, by first | rfl | go_num, Lib.hid HFIN.out, trivial⟩, by simp [intOf]⟩
      · have hstep : (x &&& y) % 64 = (x &&& y) % 32 + 32 * (x / 32 % 2 * (y / 32 % 2)) := land_mod x y 5
        have hz' : z = (x &&& y) % 32 := hz
        have hzb : z < 256 := by rw [hz']; omega
        clear hz hN2
        have HZ := Lib.hid hz'
        have HST := Lib.hid hstep
        clear hz' hstep
        by_cases k1 : x / 32 % 2 = 1
        · by_cases k2 : y / 32 % 2 = 1
          · have hfin : z + 32 = (x &&& y) % 2 ^ (5 + 1) := by
              have := HST.out
              rw [k1, k2] at this
              show z + 32 = (x &&& y) % 64
              rw [this, HZ.out]
            have HFIN := Lib.hid hfin
            clear hfin
            have h1b : ((x : Int) / 32 % 2 == 1) = true := by simp; omega
            have h2b : ((y : Int) / 32 % 2 == 1) = true := by simp; omega
            clear k1 k2
            go_wp2
            exact ⟨⟨6, z + 32, by omega, by first | rfl | simp, by first | rfl | go_num, Lib.hid HFIN.out, trivial⟩, by simp [intOf]⟩
          · have k3 : y / 32 % 2 = 0 := by omega
            have hfin : z = (x &&& y) % 2 ^ (5 + 1) := by
              have := HST.out
              rw [k3] at this
              show z = (x &&& y) % 64
              rw [this, HZ.out]
              simp
            have HFIN := Lib.hid hfin
            clear hfin
            have h1b : ((x : Int) / 32 % 2 == 1) = true := by simp; omega
            have h2b : ((y : Int) / 32 % 2 == 1) = false := by simp; omega
            clear k1 k2 k3
            go_wp2
            exact ⟨⟨6, z, by omega, by first | rfl | simp, by first | rfl | go_num, Lib.hid HFIN.out, trivial⟩, by simp [intOf]⟩
        · have k3 : x / 32 % 2 = 0 := by omega
          have hfin : z = (x &&& y) % 2 ^ (5 + 1) := by
            have := HST.out
            rw [k3] at this
            show z = (x &&& y) % 64
            rw [this, HZ.out]
            simp
          have HFIN := Lib.hid hfin
          clear hfin
          have h1b : ((x : Int) / 32 % 2 == 1) = false := by simp; omega
          clear k1 k3
          go_wp2
          exact ⟨⟨6, z, by omega, by first | rfl | simp, by first | rfl | go_num, Lib.hid HFIN.out, trivial⟩, by simp [intOf]⟩
      · have hstep : (x &&& y) % 128 = (x &&& y) % 64 + 64 * (x / 64 % 2 * (y / 64 % 2)) := land_mod x y 6
        have hz' : z = (x &&& y) % 64 := hz
        have hzb : z < 256 := by rw [hz']; omega
        clear hz hN2
        have HZ := Lib.hid hz'
        have HST := Lib.hid hstep
        clear hz' hstep
        by_cases k1 : x / 64 % 2 = 1
        · by_cases k2 : y / 64 % 2 = 1
          · have hfin : z + 64 = (x &&& y) % 2 ^ (6 + 1) := by
              have := HST.out
              rw [k1, k2] at this
              show z + 64 = (x &&& y) % 128
              rw [this, HZ.out]
            have HFIN := Lib.hid hfin
            clear hfin
            have h1b : ((x : Int) / 64 % 2 == 1) = true := by simp; omega
            have h2b : ((y : Int) / 64 % 2 == 1) = true := by simp; omega
            clear k1 k2
            go_wp2
            exact ⟨⟨7, z + 64, by omega, by first | rfl | simp, by first | rfl | go_num, Lib.hid HFIN.out, trivial⟩, by simp [intOf]⟩
          · have k3 : y / 64 % 2 = 0 := by omega
            have hfin : z = (x &&& y) % 2 ^ (6 + 1) := by
              have := HST.out
              rw [k3] at this
              show z = (x &&& y) % 128
              rw [this, HZ.out]
              simp
            have HFIN := Lib.hid hfin
            clear hfin
            have h1b : ((x : Int) / 64 % 2 == 1) = true := by simp; omega
            have h2b : ((y : Int) / 64 % 2 == 1) = false := by simp; omega
            clear k1 k2 k3
            go_wp2
            exact ⟨⟨7, z, by omega, by first | rfl | simp, by first | rfl | go_num, Lib.hid HFIN.out, trivial⟩, by simp [intOf]⟩
        · have k3 : x / 64 % 2 = 0 := by omega
          have hfin : z = (x &&& y) % 2 ^ (6 + 1) := by
            have := HST.out
            rw [k3] at this
            show z = (x &&& y) % 128
            rw [this, HZ.out]
            simp
          have HFIN := Lib.hid hfin
          clear hfin
          have h1b : ((x : Int) / 64 % 2 == 1) = false := by simp; omega
          clear k1 k3
          go_wp2
          exact ⟨⟨7, z, by omega, by first | rfl | simp, by first | rfl | go_num, Lib.hid HFIN.out, trivial⟩, by simp [intOf]⟩
      · have hstep : (x &&& y) % 256 = (x &&& y) % 128 + 128 * (x / 128 % 2 * (y / 128 % 2)) := land_mod x y 7
        have hz' : z = (x &&& y) % 128 := hz
        have hzb : z < 256 := by rw [hz']; omega
        clear hz hN2
        have HZ := Lib.hid hz'
        have HST := Lib.hid hstep
        clear hz' hstep
        by_cases k1 : x / 128 % 2 = 1
        · by_cases k2 : y / 128 % 2 = 1
          · have hfin : z + 128 = (x &&& y) % 2 ^ (7 + 1) := by
              have := HST.out
              rw [k1, k2] at this
              show z + 128 = (x &&& y) % 256
              rw [this, HZ.out]
            have HFIN := Lib.hid hfin
            clear hfin
            have h1b : ((x : Int) / 128 % 2 == 1) = true := by simp; omega
            have h2b : ((y : Int) / 128 % 2 == 1) = true := by simp; omega
            clear k1 k2
            go_wp2
            exact ⟨⟨8, z + 128, by omega, by first | rfl | simp, by first | rfl | go_num, Lib.hid HFIN.out, trivial⟩, by simp [intOf]⟩
          · have k3 : y / 128 % 2 = 0 := by omega
            have hfin : z = (x &&& y) % 2 ^ (7 + 1) := by
              have := HST.out
              rw [k3] at this
              show z = (x &&& y) % 256
              rw [this, HZ.out]
              simp
            have HFIN := Lib.hid hfin
            clear hfin
            have h1b : ((x : Int) / 128 % 2 == 1) = true := by simp; omega
            have h2b : ((y : Int) / 128 % 2 == 1) = false := by simp; omega
            clear k1 k2 k3
            go_wp2
            exact ⟨⟨8, z, by omega, by first | rfl | simp, by first | rfl | go_num, Lib.hid HFIN.out, trivial⟩, by simp [intOf]⟩
        · have k3 : x / 128 % 2 = 0 := by omega
          have hfin : z = (x &&& y) % 2 ^ (7 + 1) := by
            have := HST.out
            rw [k3] at this
            show z = (x &&& y) % 256
            rw [this, HZ.out]
            simp
          have HFIN := Lib.hid hfin
          clear hfin
          have h1b : ((x : Int) / 128 % 2 == 1) = false := by simp; omega
          clear k1 k3
          go_wp2
          exact ⟨⟨8, z, by omega, by first | rfl | simp, by first | rfl | go_num, Lib.hid HFIN.out, trivial⟩, by simp [intOf]⟩

set_option maxHeartbeats 25600000 in
set_option maxRecDepth 100000 in
theorem rarr_dec (a m p : Int) (w : World) (ha : By a) (hm : By m) (hp : By p) (hd : has p 8 = true) :
    Calls Try.prog 27 #[.int .u8 a, .int .u8 m, .int .u8 p] w fun e w' => e = .returned (.tuple #[.int .u8 (arrV a m p), .int .u8 (arrF a m p)]) ∧ w = w' := by
  have HH := Lib.hid (show ∀ w, Calls Try.prog 42 #[.int .u8 p, .int .i64 8] w fun e w' => e = .returned (.bool true) ∧ w = w' from fun w => by have := rhas_any p 8 w hp (.inr (.inr (.inl rfl))); rw [hd] at this; exact this)
  have hT : By (land a m) := land_by ha
  have hn : By (rorV (land a m) p) := rorV_by hT p
  have hbin : (has (rorV (land a m) p) 64 != has (rorV (land a m) p) 32) = (rorV (land a m) p / 64 % 2 != rorV (land a m) p / 32 % 2) := has_ne _ _ _ _
  have hdec : (has (land a m) 64 != has (rorV (land a m) p) 64) = (land a m / 64 % 2 != rorV (land a m) p / 64 % 2) := has_ne _ _ _ _
  clear hbin hdec
  obtain ⟨x, rfl, hx⟩ := nat_of (n := 256) ha
  obtain ⟨y, rfl, hy⟩ := nat_of (n := 256) hm
  have hN2 : x &&& y < 2 ^ 8 := Nat.and_lt_two_pow _ (by omega)
  have hNe : land (x : Int) (y : Int) = ((x &&& y : Nat) : Int) := rfl
  obtain ⟨rv, hrv⟩ : ∃ rv, rorV (land (x : Int) (y : Int)) p = rv := ⟨_, rfl⟩
  rw [hrv] at hn 
  rw [hNe] at hT hrv
  have HSP := Lib.hid (arr_spec (a := (x : Int)) (m := (y : Int)) hd hNe hrv)
  clear hd
  clear hNe ha hm
  have HRV := Lib.hid hrv
  clear hrv
  obtain ⟨hn0, hn1⟩ := hn
  go_enter Try.func27, Try.ntmps27
  go_wp2_with fail
  go_loopw [8, 9] (fun tv fv wr => ∃ (j z : Nat), j ≤ 8 ∧ fv = .int .i64 ((2 ^ j : Nat) : Int) ∧ tv = .int .i64 (z : Int) ∧ Hid (z = (x &&& y) % 2 ^ j) ∧ wr = w) (fun _ fv _ => 256 - (intOf fv).toNat)
  case atStart => exact ⟨0, 0, by omega, rfl, rfl, Lib.hid (by simp [Nat.mod_one]), rfl⟩
  case round =>
    obtain ⟨j, z, hj, rfl, rfl, hz, rfl⟩ := hrel
    by_cases h8 : j = 8
    · subst h8
      have hf : z = x &&& y := by rw [hz, Nat.mod_eq_of_lt hN2]
      clear hz
      subst hf
      clear hN2
      obtain ⟨T, hne⟩ : ∃ T : Int, ((x &&& y : Nat) : Int) = T := ⟨_, rfl⟩
      rw [hne] at hT ⊢
      have hrv := HRV.out
      rw [hne] at hrv
      clear HRV
      have HRV := Lib.hid hrv
      clear hrv
      have hTT := hT
      obtain ⟨hT0, hT1⟩ := hTT
      by_cases k1 : T % 16 + T % 2 > 5
      · have k1b : decide (5 < T % 16 + T % 2) = true := by simpa using k1
        by_cases k2 : 80 < T - T % 16 + 16 * (T / 16 % 2)
        · have k2b : decide (80 < T - T % 16 + 16 * (T / 16 % 2)) = true := by simpa using k2
          obtain ⟨eV, eF⟩ := HSP.out
          rw [hne] at eV eF
          rw [k2b, if_pos k1] at eV
          rw [k2b] at eF
          simp only [if_true] at eV
          have HV := Lib.hid eV
          have HF := Lib.hid eF
          clear eV eF
          clear k1 k2
          go_wp2_with fail
          go_at_call 19
          refine (rror_any _ _ _ hT hp).mono ?_
          rintro e w' ⟨rfl, rfl⟩
          rw [HRV.out]
          go_wp2_with fail
          go_at_call 42
          refine (HH.out _).mono ?_
          rintro e w' ⟨rfl, rfl⟩
          go_wp2_with fail
          go_at_call 30
          refine (rnz_any _ _ _ hp).mono ?_
          rintro e w' ⟨rfl, rfl⟩
          go_wp2_with fail
          go_at_call 35
          refine (rset_any _ _ _ _ (nz_by hp _) (.inr (.inr (.inr (.inl rfl))))).mono ?_
          rintro e w' ⟨rfl, rfl⟩
          go_wp2_with fail
          go_at_call 35
          refine (rset_any _ _ _ _ (fl_by (nz_by hp _) (.inr (.inr (.inr (.inl rfl)))) _) (.inl rfl)).mono ?_
          rintro e w' ⟨rfl, rfl⟩
          go_wp2
          go_ret2
          exact ⟨ret_pair2 (by rw [HV.out] <;> omega) (by rw [HF.out]), rfl⟩
        · have k2b : decide (80 < T - T % 16 + 16 * (T / 16 % 2)) = false := by simpa using k2
          obtain ⟨eV, eF⟩ := HSP.out
          rw [hne] at eV eF
          rw [k2b, if_pos k1] at eV
          rw [k2b] at eF
          simp only [Bool.false_eq_true, if_false] at eV
          have HV := Lib.hid eV
          have HF := Lib.hid eF
          clear eV eF
          clear k1 k2
          go_wp2_with fail
          go_at_call 19
          refine (rror_any _ _ _ hT hp).mono ?_
          rintro e w' ⟨rfl, rfl⟩
          rw [HRV.out]
          go_wp2_with fail
          go_at_call 42
          refine (HH.out _).mono ?_
          rintro e w' ⟨rfl, rfl⟩
          go_wp2_with fail
          go_at_call 30
          refine (rnz_any _ _ _ hp).mono ?_
          rintro e w' ⟨rfl, rfl⟩
          go_wp2_with fail
          go_at_call 35
          refine (rset_any _ _ _ _ (nz_by hp _) (.inr (.inr (.inr (.inl rfl))))).mono ?_
          rintro e w' ⟨rfl, rfl⟩
          go_wp2_with fail
          go_at_call 35
          refine (rset_any _ _ _ _ (fl_by (nz_by hp _) (.inr (.inr (.inr (.inl rfl)))) _) (.inl rfl)).mono ?_
          rintro e w' ⟨rfl, rfl⟩
          go_wp2
          go_ret2
          exact ⟨ret_pair2 (by rw [HV.out] <;> omega) (by rw [HF.out]), rfl⟩
      · have k1b : decide (5 < T % 16 + T % 2) = false := by simpa using k1
        by_cases k2 : 80 < T - T % 16 + 16 * (T / 16 % 2)
        · have k2b : decide (80 < T - T % 16 + 16 * (T / 16 % 2)) = true := by simpa using k2
          obtain ⟨eV, eF⟩ := HSP.out
          rw [hne] at eV eF
          rw [k2b, if_neg k1] at eV
          rw [k2b] at eF
          simp only [if_true] at eV
          have HV := Lib.hid eV
          have HF := Lib.hid eF
          clear eV eF
          clear k1 k2
          go_wp2_with fail
          go_at_call 19
          refine (rror_any _ _ _ hT hp).mono ?_
          rintro e w' ⟨rfl, rfl⟩
          rw [HRV.out]
          go_wp2_with fail
          go_at_call 42
          refine (HH.out _).mono ?_
          rintro e w' ⟨rfl, rfl⟩
          go_wp2_with fail
          go_at_call 30
          refine (rnz_any _ _ _ hp).mono ?_
          rintro e w' ⟨rfl, rfl⟩
          go_wp2_with fail
          go_at_call 35
          refine (rset_any _ _ _ _ (nz_by hp _) (.inr (.inr (.inr (.inl rfl))))).mono ?_
          rintro e w' ⟨rfl, rfl⟩
          go_wp2_with fail
          go_at_call 35
          refine (rset_any _ _ _ _ (fl_by (nz_by hp _) (.inr (.inr (.inr (.inl rfl)))) _) (.inl rfl)).mono ?_
          rintro e w' ⟨rfl, rfl⟩
          go_wp2
          go_ret2
          exact ⟨ret_pair2 (by rw [HV.out] <;> omega) (by rw [HF.out]), rfl⟩
        · have k2b : decide (80 < T - T % 16 + 16 * (T / 16 % 2)) = false := by simpa using k2
          obtain ⟨eV, eF⟩ := HSP.out
          rw [hne] at eV eF
          rw [k2b, if_neg k1] at eV
          rw [k2b] at eF
          simp only [Bool.false_eq_true, if_false] at eV
          have HV := Lib.hid eV
          have HF := Lib.hid eF
          clear eV eF
          clear k1 k2
          go_wp2_with fail
          go_at_call 19
          refine (rror_any _ _ _ hT hp).mono ?_
          rintro e w' ⟨rfl, rfl⟩
          rw [HRV.out]
          go_wp2_with fail
          go_at_call 42
          refine (HH.out _).mono ?_
          rintro e w' ⟨rfl, rfl⟩
          go_wp2_with fail
          go_at_call 30
          refine (rnz_any _ _ _ hp).mono ?_
          rintro e w' ⟨rfl, rfl⟩
          go_wp2_with fail
          go_at_call 35
          refine (rset_any _ _ _ _ (nz_by hp _) (.inr (.inr (.inr (.inl rfl))))).mono ?_
          rintro e w' ⟨rfl, rfl⟩
          go_wp2_with fail
          go_at_call 35
          refine (rset_any _ _ _ _ (fl_by (nz_by hp _) (.inr (.inr (.inr (.inl rfl)))) _) (.inl rfl)).mono ?_
          rintro e w' ⟨rfl, rfl⟩
          go_wp2
          go_ret2
          exact ⟨ret_pair2 (by rw [HV.out] <;> omega) (by rw [HF.out]), rfl⟩
    · have hj8 : j = 0 ∨ j = 1 ∨ j = 2 ∨ j = 3 ∨ j = 4 ∨ j = 5 ∨ j = 6 ∨ j = 7 := by omega
      clear hj h8
      rcases hj8 with rfl | rfl | rfl | rfl | rfl | rfl | rfl | rfl
      · have hstep : (x &&& y) % 2 = (x &&& y) % 1 + 1 * (x / 1 % 2 * (y / 1 % 2)) := land_mod x y 0
        have hz' : z = (x &&& y) % 1 := hz
        have hzb : z < 256 := by rw [hz']; omega
        clear hz hN2
        have HZ := Lib.hid hz'
        have HST := Lib.hid hstep
        clear hz' hstep
        by_cases k1 : x / 1 % 2 = 1
        · by_cases k2 : y / 1 % 2 = 1
          · have hfin : z + 1 = (x &&& y) % 2 ^ (0 + 1) := by
              have := HST.out
              rw [k1, k2] at this
              show z + 1 = (x &&& y) % 2
              rw [this, HZ.out]
            have HFIN := Lib.hid hfin
            clear hfin
            have h1b : ((x : Int) / 1 % 2 == 1) = true := by simp; omega
            have h1c : ((x : Int) % 2 == 1) = true := by simp; omega
            have h2b : ((y : Int) / 1 % 2 == 1) = true := by simp; omega
            have h2c : ((y : Int) % 2 == 1) = true := by simp; omega
            clear k1 k2
            go_wp2
            exact ⟨⟨1, z + 1, by omega, by first | rfl | simp, by first | rfl | go_num, Lib.hid HFIN.out, trivial⟩, by simp [intOf]⟩
          · have k3 : y / 1 % 2 = 0 := by omega
            have hfin : z = (x &&& y) % 2 ^ (0 + 1) := by
              have := HST.out
              rw [k3] at this
              show z = (x &&& y) % 2
              rw [this, HZ.out]
              simp
            have HFIN := Lib.hid hfin
            clear hfin
            have h1b : ((x : Int) / 1 % 2 == 1) = true := by simp; omega
            have h1c : ((x : Int) % 2 == 1) = true := by simp; omega
            have h2b : ((y : Int) / 1 % 2 == 1) = false := by simp; omega
            have h2c : ((y : Int) % 2 == 1) = false := by simp; omega
            clear k1 k2 k3
            go_wp2
            exact ⟨⟨1, z, by omega, by first | rfl | simp, by first | rfl | go_num, Lib.hid HFIN.out, trivial⟩, by simp [intOf]⟩
        · have k3 : x / 1 % 2 = 0 := by omega
          have hfin : z = (x &&& y) % 2 ^ (0 + 1) := by
            have := HST.out
            rw [k3] at this
            show z = (x &&& y) % 2
            rw [this, HZ.out]
            simp
          have HFIN := Lib.hid hfin
          clear hfin
          have h1b : ((x : Int) / 1 % 2 == 1) = false := by simp; omega
          have h1c : ((x : Int) % 2 == 1) = false := by simp; omega
          clear k1 k3
          go_wp2
          exact ⟨⟨1, z, by omega, by first | rfl | simp, by first | rfl | go_num, Lib.hid HFIN.out, trivial⟩, by simp [intOf]⟩
      · have hstep : (x &&& y) % 4 = (x &&& y) % 2 + 2 * (x / 2 % 2 * (y / 2 % 2)) := land_mod x y 1
        have hz' : z = (x &&& y) % 2 := hz
        have hzb : z < 256 := by rw [hz']; omega
        clear hz hN2
        have HZ := Lib.hid hz'
        have HST := Lib.hid hstep
        clear hz' hstep
        by_cases k1 : x / 2 % 2 = 1
        · by_cases k2 : y / 2 % 2 = 1
          · have hfin : z + 2 = (x &&& y) % 2 ^ (1 + 1) := by
              have := HST.out
              rw [k1, k2] at this
              show z + 2 = (x &&& y) % 4
              rw [this, HZ.out]
            have HFIN := Lib.hid hfin
            clear hfin
            have h1b : ((x : Int) / 2 % 2 == 1) = true := by simp; omega
            have h2b : ((y : Int) / 2 % 2 == 1) = true := by simp; omega
            clear k1 k2
            go_wp2
            exact ⟨⟨2, z + 2, by omega, by first | rfl | simp, by first | rfl | go_num, Lib.hid HFIN.out, trivial⟩, by simp [intOf]⟩
          · have k3 : y / 2 % 2 = 0 := by omega
            have hfin : z = (x &&& y) % 2 ^ (1 + 1) := by
              have := HST.out
              rw [k3] at this
              show z = (x &&& y) % 4
              rw [this, HZ.out]
              simp
            have HFIN := Lib.hid hfin
            clear hfin
            have h1b : ((x : Int) / 2 % 2 == 1) = true := by simp; omega
            have h2b : ((y : Int) / 2 % 2 == 1) = false := by simp; omega
            clear k1 k2 k3
            go_wp2
            exact ⟨⟨2, z, by omega, by first | rfl | simp, by first | rfl | go_num, Lib.hid HFIN.out, trivial⟩, by simp [intOf]⟩
        · have k3 : x / 2 % 2 = 0 := by omega
          have hfin : z = (x &&& y) % 2 ^ (1 + 1) := by
            have := HST.out
            rw [k3] at this
            show z = (x &&& y) % 4
            rw [this, HZ.out]
            simp
          have HFIN := Lib.hid hfin
          clear hfin
          have h1b : ((x : Int) / 2 % 2 == 1) = false := by simp; omega
          clear k1 k3
          go_wp2
          exact ⟨⟨2, z, by omega, by first | rfl | simp, by first | rfl | go_num, Lib.hid HFIN.out, trivial⟩, by simp [intOf]⟩
      · have hstep : (x &&& y) % 8 = (x &&& y) % 4 + 4 * (x / 4 % 2 * (y / 4 % 2)) := land_mod x y 2
        have hz' : z = (x &&& y) % 4 := hz
        have hzb : z < 256 := by rw [hz']; omega
        clear hz hN2
        have HZ := Lib.hid hz'
        have HST := Lib.hid hstep
        clear hz' hstep
        by_cases k1 : x / 4 % 2 = 1
        · by_cases k2 : y / 4 % 2 = 1
          · have hfin : z + 4 = (x &&& y) % 2 ^ (2 + 1) := by
              have := HST.out
              rw [k1, k2] at this
              show z + 4 = (x &&& y) % 8
              rw [this, HZ.out]
            have HFIN := Lib.hid hfin
            clear hfin
            have h1b : ((x : Int) / 4 % 2 == 1) = true := by simp; omega
            have h2b : ((y : Int) / 4 % 2 == 1) = true := by simp; omega
            clear k1 k2
            go_wp2
            exact ⟨⟨3, z + 4, by omega, by first | rfl | simp, by first | rfl | go_num, Lib.hid HFIN.out, trivial⟩, by simp [intOf]⟩
          · have k3 : y / 4 % 2 = 0 := by omega
            have hfin : z = (x &&& y) % 2 ^ (2 + 1) := by
              have := HST.out
              rw [k3] at this
              show z = (x &&& y) % 8
              rw [this, HZ.out]
              simp
            have HFIN := Lib.hid hfin
            clear hfin
            have h1b : ((x : Int) / 4 % 2 == 1) = true := by simp; omega
            have h2b : ((y : Int) / 4 % 2 == 1) = false := by simp; omega
            clear k1 k2 k3
            go_wp2
            exact ⟨⟨3, z, by omega, by first | rfl | simp, by first | rfl | go_num, Lib.hid HFIN.out, trivial⟩, by simp [intOf]⟩
        · have k3 : x / 4 % 2 = 0 := by omega
          have hfin : z = (x &&& y) % 2 ^ (2 + 1) := by
            have := HST.out
            rw [k3] at this
            show z = (x &&& y) % 8
            rw [this, HZ.out]
            simp
          have HFIN := Lib.hid hfin
          clear hfin
          have h1b : ((x : Int) / 4 % 2 == 1) = false := by simp; omega
          clear k1 k3
          go_wp2
          exact ⟨⟨3, z, by omega, by first | rfl | simp, by first | rfl | go_num, Lib.hid HFIN.out, trivial⟩, by simp [intOf]⟩
      · have hstep : (x &&& y) % 16 = (x &&& y) % 8 + 8 * (x / 8 % 2 * (y / 8 % 2)) := land_mod x y 3
        have hz' : z = (x &&& y) % 8 := hz
        have hzb : z < 256 := by rw [hz']; omega
        clear hz hN2
        have HZ := Lib.hid hz'
        have HST := Lib.hid hstep
        clear hz' hstep
        by_cases k1 : x / 8 % 2 = 1
        · by_cases k2 : y / 8 % 2 = 1
          · have hfin : z + 8 = (x &&& y) % 2 ^ (3 + 1) := by
              have := HST.out
              rw [k1, k2] at this
              show z + 8 = (x &&& y) % 16
              rw [this, HZ.out]
            have HFIN := Lib.hid hfin
            clear hfin
            have h1b : ((x : Int) / 8 % 2 == 1) = true := by simp; omega
            have h2b : ((y : Int) / 8 % 2 == 1) = true := by simp; omega
            clear k1 k2
            go_wp2
            exact ⟨⟨4, z + 8, by omega, by first | rfl | simp, by first | rfl | go_num, Lib.hid HFIN.out, trivial⟩, by simp [intOf]⟩
          · have k3 : y / 8 % 2 = 0 := by omega
            have hfin : z = (x &&& y) % 2 ^ (3 + 1) := by
              have := HST.out
              rw [k3] at this
              show z = (x &&& y) % 16
              rw [this, HZ.out]
              simp
            have HFIN := Lib.hid hfin
            clear hfin
            have h1b : ((x : Int) / 8 % 2 == 1) = true := by simp; omega
            have h2b : ((y : Int) / 8 % 2 == 1) = false := by simp; omega
            clear k1 k2 k3
            go_wp2
            exact ⟨⟨4, z, by omega, by first | rfl | simp, by first | rfl | go_num, Lib.hid HFIN.out, trivial⟩, by simp [intOf]⟩
        · have k3 : x / 8 % 2 = 0 := by omega
          have hfin : z = (x &&& y) % 2 ^ (3 + 1) := by
            have := HST.out
            rw [k3] at this
            show z = (x &&& y) % 16
            rw [this, HZ.out]
            simp
          have HFIN := Lib.hid hfin
          clear hfin
          have h1b : ((x : Int) / 8 % 2 == 1) = false := by simp; omega
          clear k1 k3
          go_wp2
          exact ⟨⟨4, z, by omega, by first | rfl | simp, by first | rfl | go_num, Lib.hid HFIN.out, trivial⟩, by simp [intOf]⟩
      · have hstep : (x &&& y) % 32 = (x &&& y) % 16 + 16 * (x / 16 % 2 * (y / 16 % 2)) := land_mod x y 4
        have hz' : z = (x &&& y) % 16 := hz
        have hzb : z < 256 := by rw [hz']; omega
        clear hz hN2
        have HZ := Lib.hid hz'
        have HST := Lib.hid hstep
        clear hz' hstep
        by_cases k1 : x / 16 % 2 = 1
        · by_cases k2 : y / 16 % 2 = 1
          · have hfin : z + 16 = (x &&& y) % 2 ^ (4 + 1) := by
              have := HST.out
              rw [k1, k2] at this
              show z + 16 = (x &&& y) % 32
              rw [this, HZ.out]
            have HFIN := Lib.hid hfin
            clear hfin
            have h1b : ((x : Int) / 16 % 2 == 1) = true := by simp; omega
            have h2b : ((y : Int) / 16 % 2 == 1) = true := by simp; omega
            clear k1 k2
            go_wp2
            exact ⟨⟨5, z + 16, by omega, by first | rfl | simp, by first | rfl | go_num, Lib.hid HFIN.out, trivial⟩, by simp [intOf]⟩
          · have k3 : y / 16 % 2 = 0 := by omega
            have hfin : z = (x &&& y) % 2 ^ (4 + 1) := by
              have := HST.out
              rw [k3] at this
              show z = (x &&& y) % 32
              rw [this, HZ.out]
              simp
            have HFIN := Lib.hid hfin
            clear hfin
            have h1b : ((x : Int) / 16 % 2 == 1) = true := by simp; omega
            have h2b : ((y : Int) / 16 % 2 == 1) = false := by simp; omega
            clear k1 k2 k3
            go_wp2
            exact ⟨⟨5, z, by omega, by first | rfl | simp, by first | rfl | go_num, Lib.hid HFIN.out, trivial⟩, by simp [intOf]⟩
        · have k3 : x / 16 % 2 = 0 := by omega
          have hfin : z = (x &&& y) % 2 ^ (4 + 1) := by
            have := HST.out
            rw [k3] at this
            show z = (x &&& y) % 32
            rw [this, HZ.out]
            simp
          have HFIN := Lib.hid hfin
          clear hfin
          have h1b : ((x : Int) / 16 % 2 == 1) = false := by simp; omega
          clear k1 k3
          go_wp2
          exact ⟨⟨5, z, by omega, by first | rfl | simp, by first | rfl | go_num, Lib.hid HFIN.out, trivial⟩, by simp [intOf]⟩
      · have hstep : (x &&& y) % 64 = (x &&& y) % 32 + 32 * (x / 32 % 2 * (y / 32 % 2)) := land_mod x y 5
        have hz' : z = (x &&& y) % 32 := hz
        have hzb : z < 256 := by rw [hz']; omega
        clear hz hN2
        have HZ := Lib.hid hz'
        have HST := Lib.hid hstep
        clear hz' hstep
        by_cases k1 : x / 32 % 2 = 1
        · by_cases k2 : y / 32 % 2 = 1
          · have hfin : z + 32 = (x &&& y) % 2 ^ (5 + 1) := by
              have := HST.out
              rw [k1, k2] at this
              show z + 32 = (x &&& y) % 64
              rw [this, HZ.out]
            have HFIN := Lib.hid hfin
            clear hfin
            have h1b : ((x : Int) / 32 % 2 == 1) = true := by simp; omega
            have h2b : ((y : Int) / 32 % 2 == 1) = true := by simp; omega
            clear k1 k2
            go_wp2
            exact ⟨⟨6, z + 32, by omega, by first | rfl | simp, by first | rfl | go_num, Lib.hid HFIN.out, trivial⟩, by simp [intOf]⟩
          · have k3 : y / 32 % 2 = 0 := by omega
            have hfin : z = (x &&& y) % 2 ^ (5 + 1) := by
              have := HST.out
              rw [k3] at this
              show z = (x &&& y) % 64
              rw [this, HZ.out]
              simp
            have HFIN := Lib.hid hfin
            clear hfin
            have h1b : ((x : Int) / 32 % 2 == 1) = true := by simp; omega
            have h2b : ((y : Int) / 32 % 2 == 1) = false := by simp; omega
            clear k1 k2 k3
            go_wp2
            exact ⟨⟨6, z, by omega, by first | rfl | simp, by first | rfl | go_num, Lib.hid HFIN.out, trivial⟩, by simp [intOf]⟩
        · have k3 : x / 32 % 2 = 0 := by omega
          have hfin : z = (x &&& y) % 2 ^ (5 + 1) := by
            have := HST.out
            rw [k3] at this
            show z = (x &&& y) % 64
            rw [this, HZ.out]
            simp
          have HFIN := Lib.hid hfin
          clear hfin
          have h1b : ((x : Int) / 32 % 2 == 1) = false := by simp; omega
          clear k1 k3
          go_wp2
          exact ⟨⟨6, z, by omega, by first | rfl | simp, by first | rfl | go_num, Lib.hid HFIN.out, trivial⟩, by simp [intOf]⟩
      · have hstep : (x &&& y) % 128 = (x &&& y) % 64 + 64 * (x / 64 % 2 * (y / 64 % 2)) := land_mod x y 6
        have hz' : z = (x &&& y) % 64 := hz
        have hzb : z < 256 := by rw [hz']; omega
        clear hz hN2
        have HZ := Lib.hid hz'
        have HST := Lib.hid hstep
        clear hz' hstep
        by_cases k1 : x / 64 % 2 = 1
        · by_cases k2 : y / 64 % 2 = 1
          · have hfin : z + 64 = (x &&& y) % 2 ^ (6 + 1) := by
              have := HST.out
              rw [k1, k2] at this
              show z + 64 = (x &&& y) % 128
              rw [this, HZ.out]
            have HFIN := Lib.hid hfin
            clear hfin
            have h1b : ((x : Int) / 64 % 2 == 1) = true := by simp; omega
            have h2b : ((y : Int) / 64 % 2 == 1) = true := by simp; omega
            clear k1 k2
            go_wp2
            exact ⟨⟨7, z + 64, by omega, by first | rfl | simp, by first | rfl | go_num, Lib.hid HFIN.out, trivial⟩, by simp [intOf]⟩
          · have k3 : y / 64 % 2 = 0 := by omega
            have hfin : z = (x &&& y) % 2 ^ (6 + 1) := by
              have := HST.out
              rw [k3] at this
              show z = (x &&& y) % 128
              rw [this, HZ.out]
              simp
            have HFIN := Lib.hid hfin
            clear hfin
            have h1b : ((x : Int) / 64 % 2 == 1) = true := by simp; omega
            have h2b : ((y : Int) / 64 % 2 == 1) = false := by simp; omega
            clear k1 k2 k3
            go_wp2
            exact ⟨⟨7, z, by omega, by first | rfl | simp, by first | rfl | go_num, Lib.hid HFIN.out, trivial⟩, by simp [intOf]⟩
        · have k3 : x / 64 % 2 = 0 := by omega
          have hfin : z = (x &&& y) % 2 ^ (6 + 1) := by
            have := HST.out
            rw [k3] at this
            show z = (x &&& y) % 128
            rw [this, HZ.out]
            simp
          have HFIN := Lib.hid hfin
          clear hfin
          have h1b : ((x : Int) / 64 % 2 == 1) = false := by simp; omega
          clear k1 k3
          go_wp2
          exact ⟨⟨7, z, by omega, by first | rfl | simp, by first | rfl | go_num, Lib.hid HFIN.out, trivial⟩, by simp [intOf]⟩
      · have hstep : (x &&& y) % 256 = (x &&& y) % 128 + 128 * (x / 128 % 2 * (y / 128 % 2)) := land_mod x y 7
        have hz' : z = (x &&& y) % 128 := hz
        have hzb : z < 256 := by rw [hz']; omega
        clear hz hN2
        have HZ := Lib.hid hz'
        have HST := Lib.hid hstep
        clear hz' hstep
        by_cases k1 : x / 128 % 2 = 1
        · by_cases k2 : y / 128 % 2 = 1
          · have hfin : z + 128 = (x &&& y) % 2 ^ (7 + 1) := by
              have := HST.out
              rw [k1, k2] at this
              show z + 128 = (x &&& y) % 256
              rw [this, HZ.out]
            have HFIN := Lib.hid hfin
            clear hfin
            have h1b : ((x : Int) / 128 % 2 == 1) = true := by simp; omega
            have h2b : ((y : Int) / 128 % 2 == 1) = true := by simp; omega
            clear k1 k2
            go_wp2
            exact ⟨⟨8, z + 128, by omega, by first | rfl | simp, by first | rfl | go_num, Lib.hid HFIN.out, trivial⟩, by simp [intOf]⟩
          · have k3 : y / 128 % 2 = 0 := by omega
            have hfin : z = (x &&& y) % 2 ^ (7 + 1) := by
              have := HST.out
              rw [k3] at this
              show z = (x &&& y) % 256
              rw [this, HZ.out]
              simp
            have HFIN := Lib.hid hfin
            clear hfin
            have h1b : ((x : Int) / 128 % 2 == 1) = true := by simp; omega
            have h2b : ((y : Int) / 128 % 2 == 1) = false := by simp; omega
            clear k1 k2 k3
            go_wp2
            exact ⟨⟨8, z, by omega, by first | rfl | simp, by first | rfl | go_num, Lib.hid HFIN.out, trivial⟩, by simp [intOf]⟩
        · have k3 : x / 128 % 2 = 0 := by omega
          have hfin : z = (x &&& y) % 2 ^ (7 + 1) := by
            have := HST.out
            rw [k3] at this
            show z = (x &&& y) % 256
            rw [this, HZ.out]
            simp
          have HFIN := Lib.hid hfin
          clear hfin
          have h1b : ((x : Int) / 128 % 2 == 1) = false := by simp; omega
          clear k1 k3
          go_wp2
          exact ⟨⟨8, z, by omega, by first | rfl | simp, by first | rfl | go_num, Lib.hid HFIN.out, trivial⟩, by simp [intOf]⟩
theorem rarr_any (a m p : Int) (w : World) (ha : By a) (hm : By m) (hp : By p) :
    Calls Try.prog 27 #[.int .u8 a, .int .u8 m, .int .u8 p] w fun e w' => e = .returned (.tuple #[.int .u8 (arrV a m p), .int .u8 (arrF a m p)]) ∧ w = w' := by
  cases hd : has p 8
  · exact rarr_bin a m p w ha hm hp hd
  · exact rarr_dec a m p w ha hm hp hd
end Go.Proofs.Ytdenknpjgeomhaa.Own

/- With n in the latch the timer is over each n and 1 ticks, and in none between; the counter takes the latch with its higher byte alone: the walks. Conditions: none but the arguments' own kinds. -/
import Derived.Test.YtpplndcffojlfaaStops
namespace Go.Proofs.Ytpplndcffojlfaa.Own
open Go.RowKit

set_option maxHeartbeats 4000000 in
set_option maxRecDepth 100000 in
theorem periods_walk (a0 a1 : Int) (w : World) (h0 : 0 ≤ a0 ∧ a0 < 256) (h1 : 0 ≤ a1 ∧ a1 < 256) :
    Calls Try.prog 4 #[.int .u8 a0, .int .u8 a1] w fun e w' => e = .returned (.bool true) ∧ Below w.heap.size w w' := by
  obtain ⟨h00, h01⟩ := h0
  obtain ⟨h10, h11⟩ := h1
  obtain ⟨M, hM⟩ : ∃ M : Nat, a0 % 201 = M := ⟨(a0 % 201).toNat, by omega⟩
  have hM2 : M ≤ 200 := by omega
  obtain ⟨T, hT⟩ : ∃ T : Nat, a1 % 3 = T := ⟨(a1 % 3).toNat, by omega⟩
  have hT2 : T ≤ 2 := by omega
  have HT := Lib.hid hT
  clear hT
  go_enter Try.func4, Try.ntmps4
  go_wp2_with fail
  go_at_call 9
  refine (awake_any _).mono ?_
  rintro e w1 ⟨rfl, hb1⟩
  go_wp2_with fail
  go_at_call 19
  refine (set_any _ true true _ (by omega)).mono ?_
  rintro e w2 ⟨rfl, ht2, hb2⟩
  have hb := hb1.trans (hb2.mono hb1.size)
  have hs1 : w.heap.size ≤ w1.heap.size := hb1.size
  generalize w1.heap.size = g at *
  clear hb2 hb1
  go_wp2
  clear hM h00 h01
  go_loopw [8] (fun iv wr => ∃ i : Nat, i ≤ T + 1 ∧ iv = .int .i64 i ∧ Tm wr g M M 3 ∧ Below w.heap.size w wr) (fun iv _ => T + 1 - (intOf iv).toNat)
  case atStart => exact ⟨0, Nat.zero_le _, rfl, ht2, hb⟩
  case round =>
    clear ht2 hb
    obtain ⟨i, hi, rfl, ht, hbr⟩ := hrel
    obtain ⟨wo, rfl⟩ : ∃ wo : World, wo = wr := ⟨_, rfl⟩
    have hT := HT.out
    by_cases hlt : i ≤ T
    · go_wp2_with fail
      clear hT
      go_loopw [9] (fun kv wr => ∃ k : Nat, k ≤ M ∧ kv = .int .i64 k ∧ Tm wr g M ((M : Int) - k) 3 ∧ Below w.heap.size w wr) (fun kv _ => M - (intOf kv).toNat)
      case atStart => exact ⟨0, Nat.zero_le _, rfl, by rw [show (M : Int) - (0 : Nat) = M from by omega]; exact ht, hbr⟩
      case round =>
        clear ht hbr
        obtain ⟨k, hk, rfl, ht, hbr⟩ := hrel
        by_cases hkl : k < M
        · go_wp2_with fail
          go_at_call 15
          refine (tick_counts _ _ _ _ _ ht rfl (by simp; omega)).mono ?_
          rintro e w3 ⟨rfl, ht3, hg3⟩
          go_wp2_with fail
          go_at_call 17
          refine (irq_no _ _ _ _ _ ht3 (.inl rfl)).mono ?_
          rintro e w4 ⟨rfl, ht4, hg4⟩
          go_wp2
          have hb3 := below_own hbr hg3 hbr.size hs1
          have hb4 := below_own hb3 hg4 hb3.size hs1
          refine ⟨⟨k + 1, by omega, by go_num, ?_, hb4⟩, by simp [intOf]; omega⟩
          rw [show IntKind.u16.wrap ((M : Int) - k - 1) = (M : Int) - ((k + 1 : Nat) : Int) from by rw [IntKind.wrap_u16]; omega] at ht4
          exact ht4
        · obtain rfl : k = M := by omega
          rw [show (k : Int) - k = 0 from by omega] at ht
          go_wp2_with fail
          go_at_call 15
          refine (tick_over _ _ _ _ _ ht rfl rfl).mono ?_
          rintro e w3 ⟨rfl, ht3, hg3⟩
          go_wp2_with fail
          go_at_call 17
          refine (irq_yes _ _ _ _ _ ht3 rfl rfl).mono ?_
          rintro e w4 ⟨rfl, ht4, hg4⟩
          go_wp2_with fail
          go_at_call 13
          refine (read_2 _ _ _ _ _ ht4).mono ?_
          rintro e w5 ⟨rfl, ht5, hg5⟩
          have e5 : Go.bits .or .u8 3 128 = 131 := rfl
          rw [e5]
          go_wp2_with fail
          go_at_call 17
          refine (irq_no _ _ _ _ _ ht5 (.inl rfl)).mono ?_
          rintro e w6 ⟨rfl, ht6, hg6⟩
          go_wp2
          have hb3 := below_own hbr hg3 hbr.size hs1
          have hb4 := below_own hb3 hg4 hb3.size hs1
          have hb5 := below_own hb4 hg5 hb4.size hs1
          have hb6 := below_own hb5 hg6 hb5.size hs1
          refine ⟨⟨i + 1, by omega, by go_num, ht6, hb6⟩, by simp [intOf]; omega⟩
    · obtain rfl : i = T + 1 := by omega
      go_wp2
      go_ret
      exact ⟨rfl, hbr⟩
end Go.Proofs.Ytpplndcffojlfaa.Own

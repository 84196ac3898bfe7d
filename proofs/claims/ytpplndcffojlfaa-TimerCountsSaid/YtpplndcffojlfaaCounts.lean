/- Behind so many ticks the counter is so much less, as long as it isn't over; read, it stays: the walk. Conditions: none but the arguments' own kinds. -/
import Derived.Test.YtpplndcffojlfaaTimer
namespace Go.Proofs.Ytpplndcffojlfaa.Own
open Go.RowKit


set_option maxHeartbeats 2000000 in
set_option maxRecDepth 100000 in
theorem counts_walk (a0 a1 : Int) (w : World) (h0 : 0 ≤ a0 ∧ a0 < 65536) (h1 : 0 ≤ a1 ∧ a1 < 256) :
    Calls Try.prog 6 #[.int .u16 a0, .int .u8 a1] w fun e w' => e = .returned (.bool true) ∧ Below w.heap.size w w' := by
  obtain ⟨h00, h01⟩ := h0
  obtain ⟨h10, h11⟩ := h1
  obtain ⟨n, rfl⟩ := Int.eq_ofNat_of_zero_le h00
  obtain ⟨M, hM⟩ : ∃ M : Nat, a1 % 201 = M := ⟨(a1 % 201).toNat, by omega⟩
  have hM2 : M ≤ 200 := by omega
  have HM := Lib.hid hM
  clear hM
  by_cases hgt : (n : Int) < a1 % 201
  · go_enter Try.func6, Try.ntmps6
    go_wp2_with fail
    go_at_call 9
    refine (awake_any _).mono ?_
    rintro e w1 ⟨rfl, hb1⟩
    go_wp2
    go_ret
    exact ⟨rfl, hb1⟩
  · have hle : decide ((n : Int) < a1 % 201) = false := by simpa using hgt
    clear hgt
    go_enter Try.func6, Try.ntmps6
    go_wp2_with fail
    go_at_call 9
    refine (awake_any _).mono ?_
    rintro e w1 ⟨rfl, hb1⟩
    go_wp2_with fail
    go_at_call 19
    refine (set_any _ true false _ (by omega)).mono ?_
    rintro e w2 ⟨rfl, ht2, hb2⟩
    have hb := hb1.trans (hb2.mono hb1.size)
    have hs1 : w.heap.size ≤ w1.heap.size := hb1.size
    generalize w1.heap.size = g at *
    clear hb2 hb1
    go_wp2
    rw [HM.out]
    rw [HM.out] at hle
    have hle2 : M ≤ n := by simpa using hle
    clear hle
    go_loopw [8] (fun kv wr => ∃ k : Nat, k ≤ M ∧ kv = .int .i64 k ∧ Tm wr g n ((n : Int) - k) 1 ∧ Below w.heap.size w wr) (fun kv _ => M - (intOf kv).toNat)
    case atStart => exact ⟨0, Nat.zero_le _, rfl, by rw [show (n : Int) - (0 : Nat) = n from by omega]; exact ht2, hb⟩
    case round =>
      obtain ⟨k, hk, rfl, ht, hbr⟩ := hrel
      by_cases hlt : k < M
      · go_wp2_with fail
        go_at_call 15
        refine (tick_counts _ _ _ _ _ ht rfl (by simp; omega)).mono ?_
        rintro e w3 ⟨rfl, ht3, hg3⟩
        go_wp2
        refine ⟨⟨k + 1, by omega, by go_num, ?_, below_own hbr hg3 hbr.size hs1⟩, by simp [intOf]; omega⟩
        rw [show IntKind.u16.wrap ((n : Int) - k - 1) = (n : Int) - ((k + 1 : Nat) : Int) from by rw [IntKind.wrap_u16]; omega] at ht3
        exact ht3
      · obtain rfl : k = M := by omega
        go_wp2_with fail
        have hd : (0 : Int) ≤ (n : Int) - k ∧ (n : Int) - k < 65536 := by omega
        generalize (n : Int) - k = c at *
        clear hle2 hk hlt h00 h01 h10 h11
        obtain ⟨hd0, hd1⟩ := hd
        go_at_call 13
        refine (read_0 _ _ _ _ _ ht).mono ?_
        rintro e w3 ⟨rfl, ht3, hg3⟩
        go_wp2_with fail
        go_at_call 13
        refine (read_1 _ _ _ _ _ ht3).mono ?_
        rintro e w4 ⟨rfl, ht4, hg4⟩
        go_wp2_with fail
        go_at_call 13
        refine (read_2 _ _ _ _ _ ht4).mono ?_
        rintro e w5 ⟨rfl, ht5, hg5⟩
        go_wp2_with fail
        go_at_call 13
        refine (read_0 _ _ _ _ _ ht5).mono ?_
        rintro e w6 ⟨rfl, ht6, hg6⟩
        go_wp2
        go_ret
        have hb3 := below_own hbr hg3 hbr.size hs1
        have hb4 := below_own hb3 hg4 hb3.size hs1
        have hb5 := below_own hb4 hg5 hb4.size hs1
        have hb6 := below_own hb5 hg6 hb5.size hs1
        exact ⟨rfl, hb6⟩
end Go.Proofs.Ytpplndcffojlfaa.Own

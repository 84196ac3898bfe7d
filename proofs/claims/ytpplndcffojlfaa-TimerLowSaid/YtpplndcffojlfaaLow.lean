/- The counter takes the latch with its higher byte alone, or when it is over: written otherwise it goes on: the walk. Conditions: none but the arguments' own kinds. -/
import Derived.Test.YtpplndcffojlfaaStops
namespace Go.Proofs.Ytpplndcffojlfaa.Own
open Go.RowKit

set_option maxHeartbeats 4000000 in
set_option maxRecDepth 100000 in
theorem low_walk (a0 a1 a2 : Int) (w : World) (h0 : 0 ≤ a0 ∧ a0 < 256) (h1 : 0 ≤ a1 ∧ a1 < 256) (h2 : 0 ≤ a2 ∧ a2 < 256) :
    Calls Try.prog 7 #[.int .u8 a0, .int .u8 a1, .int .u8 a2] w fun e w' => e = .returned (.bool true) ∧ Below w.heap.size w w' := by
  obtain ⟨h00, h01⟩ := h0
  obtain ⟨h10, h11⟩ := h1
  obtain ⟨h20, h21⟩ := h2
  obtain ⟨M, hM⟩ : ∃ M : Nat, a0 % 201 = M := ⟨(a0 % 201).toNat, by omega⟩
  have hM2 : M ≤ 200 := by omega
  obtain ⟨T, hT⟩ : ∃ T : Nat, a2 % 201 = T := ⟨(a2 % 201).toNat, by omega⟩
  have hT2 : T ≤ 200 := by omega
  have HT := Lib.hid hT
  clear hT
  have HV := Lib.hid (And.intro h10 h11)
  clear h10 h11
  go_enter Try.func7, Try.ntmps7
  go_wp2_with fail
  go_at_call 9
  refine (awake_any _).mono ?_
  rintro e w1 ⟨rfl, hb1⟩
  go_wp2_with fail
  go_at_call 19
  refine (set_any _ true true _ (by omega)).mono ?_
  rintro e w2 ⟨rfl, ht2, hb2⟩
  go_wp2_with fail
  go_at_call 19
  refine (set_any _ true true _ (by omega)).mono ?_
  rintro e w3 ⟨rfl, hu3, hb3⟩
  have ht3 := ht2.stays hb3
  have hlt := ht2.lt
  have hb := (hb1.trans (hb2.mono hb1.size)).trans (hb3.mono (Nat.le_trans hb1.size hb2.size))
  have hs1 : w.heap.size ≤ w1.heap.size := hb1.size
  have hs2 : w.heap.size ≤ w2.heap.size := Nat.le_trans hs1 hb2.size
  have hne : w1.heap.size ≠ w2.heap.size := by omega
  generalize w1.heap.size = gt at *
  generalize w2.heap.size = gu at *
  clear hb3 hb2 hb1 ht2 hlt
  have HNE := Lib.hid hne
  clear hne
  go_wp2_with fail
  go_at_call 11
  refine (write_low _ _ _ _ _ _ ht3 (by omega) HV.out).mono ?_
  rintro e w4 ⟨rfl, ht4, hg4⟩
  have hu4 := hu3.keep hg4 (fun e => HNE.out e.symm)
  have hb4 := below_own hb hg4 hb.size hs1
  rw [show (M : Int) / 256 * 256 + a1 = a1 from by omega] at ht4
  clear ht3 hu3 hb
  go_wp2
  clear hM h00 h01
  go_loopw [11] (fun kv wr => ∃ k : Nat, k ≤ M ∧ kv = .int .i64 k ∧ Tm wr gt a1 ((M : Int) - k) 3 ∧ Tm wr gu M ((M : Int) - k) 3 ∧ Below w.heap.size w wr) (fun kv _ => M - (intOf kv).toNat)
  case atStart => exact ⟨0, Nat.zero_le _, rfl, by rw [show (M : Int) - (0 : Nat) = M from by omega]; exact ht4, by rw [show (M : Int) - (0 : Nat) = M from by omega]; exact hu4, hb4⟩
  case round =>
    clear ht4 hu4 hb4
    obtain ⟨k, hk, rfl, ht, hu, hbr⟩ := hrel
    by_cases hr : k < T ∧ k < M
    · obtain ⟨hkT, hkM⟩ := hr
      have hT := HT.out
      go_wp2_with fail
      clear hT
      go_at_call 15
      refine (tick_counts _ _ _ _ _ ht rfl (by simp; omega)).mono ?_
      rintro e w5 ⟨rfl, ht5, hg5⟩
      have hu5 := hu.keep hg5 (fun e => HNE.out e.symm)
      go_wp2_with fail
      go_at_call 15
      refine (tick_counts _ _ _ _ _ hu5 rfl (by simp; omega)).mono ?_
      rintro e w6 ⟨rfl, hu6, hg6⟩
      have ht6 := ht5.keep hg6 HNE.out
      have e6 : IntKind.u16.wrap ((M : Int) - k - 1) = (M : Int) - ((k + 1 : Nat) : Int) := by rw [IntKind.wrap_u16]; omega
      rw [e6] at ht6 hu6
      clear e6
      have hc : (0 : Int) ≤ (M : Int) - ((k + 1 : Nat) : Int) ∧ (M : Int) - ((k + 1 : Nat) : Int) < 65536 := by omega
      obtain ⟨hc0, hc1⟩ := hc
      generalize hcv : (M : Int) - ((k + 1 : Nat) : Int) = c at *
      have HC := Lib.hid hcv
      clear hcv
      go_wp2_with fail
      go_at_call 13
      refine (read_0 _ _ _ _ _ ht6).mono ?_
      rintro e w7 ⟨rfl, ht7, hg7⟩
      have hu7 := hu6.keep hg7 (fun e => HNE.out e.symm)
      go_wp2_with fail
      go_at_call 13
      refine (read_0 _ _ _ _ _ hu7).mono ?_
      rintro e w8 ⟨rfl, hu8, hg8⟩
      have ht8 := ht7.keep hg8 HNE.out
      go_wp2_with fail
      go_at_call 13
      refine (read_1 _ _ _ _ _ ht8).mono ?_
      rintro e w9 ⟨rfl, ht9, hg9⟩
      have hu9 := hu8.keep hg9 (fun e => HNE.out e.symm)
      go_wp2_with fail
      go_at_call 13
      refine (read_1 _ _ _ _ _ hu9).mono ?_
      rintro e w10 ⟨rfl, hu10, hg10⟩
      have ht10 := ht9.keep hg10 HNE.out
      go_wp2_with fail
      go_at_call 17
      refine (irq_no _ _ _ _ _ ht10 (.inl rfl)).mono ?_
      rintro e w11 ⟨rfl, ht11, hg11⟩
      have hu11 := hu10.keep hg11 (fun e => HNE.out e.symm)
      go_wp2_with fail
      go_at_call 17
      refine (irq_no _ _ _ _ _ hu11 (.inl rfl)).mono ?_
      rintro e w12 ⟨rfl, hu12, hg12⟩
      have ht12 := ht11.keep hg12 HNE.out
      go_wp2
      have b5 := below_own hbr hg5 hbr.size hs1
      have b6 := below_own b5 hg6 b5.size hs2
      have b7 := below_own b6 hg7 b6.size hs1
      have b8 := below_own b7 hg8 b7.size hs2
      have b9 := below_own b8 hg9 b8.size hs1
      have b10 := below_own b9 hg10 b9.size hs2
      have b11 := below_own b10 hg11 b10.size hs1
      have b12 := below_own b11 hg12 b11.size hs2
      refine ⟨⟨k + 1, by omega, by go_num, by rw [HC.out]; exact ht12, by rw [HC.out]; exact hu12, b12⟩, by simp [intOf]; omega⟩
    · have hstop : (decide ((k : Int) < T) && decide ((k : Int) < M)) = false := by simp; omega
      have hT := HT.out
      clear hu
      obtain ⟨C, hC⟩ : ∃ C : Nat, (M : Int) - k = C := ⟨M - k, by omega⟩
      have hCM : C ≤ M := by omega
      rw [hC] at ht
      clear hC
      by_cases hkT : k < T
      all_goals
        by_cases hkM : k < M
        all_goals first
          | (exfalso; omega)
          | skip
        all_goals
          clear hr hstop
          go_wp2
          clear hT
          go_loopw [12] (fun jv wr => ∃ j : Nat, j ≤ C + 1 ∧ jv = .int .i64 j ∧ Hid ((j ≤ C ∧ Tm wr gt a1 ((C : Int) - j) 3) ∨ (j = C + 1 ∧ Tm wr gt a1 a1 131)) ∧ Below w.heap.size w wr) (fun jv _ => C + 1 - (intOf jv).toNat)
          case atStart => exact ⟨0, Nat.zero_le _, rfl, Lib.hid (.inl ⟨Nat.zero_le _, by rw [show (C : Int) - (0 : Nat) = C from by omega]; exact ht⟩), hbr⟩
          case round =>
            clear ht hbr
            obtain ⟨j, hj, rfl, hjr, hbr⟩ := hrel
            by_cases hlt : j ≤ C
            · have ht : Tm wr gt a1 ((C : Int) - j) 3 := by
                rcases hjr.out with ⟨_, h⟩ | ⟨h, _⟩
                · exact h
                · omega
              clear hjr
              go_wp2_with fail
              go_at_call 17
              refine (irq_no _ _ _ _ _ ht (.inl rfl)).mono ?_
              rintro e w5 ⟨rfl, ht5, hg5⟩
              go_wp2_with fail
              have b5 := below_own hbr hg5 hbr.size hs1
              by_cases hz : j < C
              · go_at_call 15
                refine (tick_counts _ _ _ _ _ ht5 rfl (by simp; omega)).mono ?_
                rintro e w6 ⟨rfl, ht6, hg6⟩
                go_wp2
                have b6 := below_own b5 hg6 b5.size hs1
                rw [show IntKind.u16.wrap ((C : Int) - j - 1) = (C : Int) - ((j + 1 : Nat) : Int) from by rw [IntKind.wrap_u16]; omega] at ht6
                refine ⟨⟨j + 1, by omega, by go_num, Lib.hid (.inl ⟨by omega, ht6⟩), b6⟩, by simp [intOf]; omega⟩
              · obtain rfl : j = C := by omega
                rw [show (j : Int) - j = 0 from by omega] at ht5
                go_at_call 15
                refine (tick_over _ _ _ _ _ ht5 rfl rfl).mono ?_
                rintro e w6 ⟨rfl, ht6, hg6⟩
                go_wp2
                have b6 := below_own b5 hg6 b5.size hs1
                refine ⟨⟨j + 1, by omega, by go_num, Lib.hid (.inr ⟨by omega, ht6⟩), b6⟩, by simp [intOf]⟩
            · obtain rfl : j = C + 1 := by omega
              have ht : Tm wr gt a1 a1 131 := by
                rcases hjr.out with ⟨h, _⟩ | ⟨_, h⟩
                · omega
                · exact h
              clear hjr
              by_cases hle : C + 1 ≤ M
              · go_wp2_with fail
                go_at_call 17
                refine (irq_yes _ _ _ _ _ ht rfl rfl).mono ?_
                rintro e w5 ⟨rfl, ht5, hg5⟩
                go_wp2_with fail
                go_at_call 17
                refine (irq_yes _ _ _ _ _ ht5 rfl rfl).mono ?_
                rintro e w6 ⟨rfl, ht6, hg6⟩
                go_wp2_with fail
                go_at_call 13
                refine (read_0 _ _ _ _ _ ht6).mono ?_
                rintro e w7 ⟨rfl, ht7, hg7⟩
                rw [show a1 % 256 = a1 from by have := HV.out; omega]
                go_wp2_with fail
                go_at_call 13
                refine (read_1 _ _ _ _ _ ht7).mono ?_
                rintro e w8 ⟨rfl, ht8, hg8⟩
                rw [show a1 / 256 % 256 = 0 from by have := HV.out; omega]
                go_wp2
                go_ret
                have b5 := below_own hbr hg5 hbr.size hs1
                have b6 := below_own b5 hg6 b5.size hs1
                have b7 := below_own b6 hg7 b6.size hs1
                have b8 := below_own b7 hg8 b7.size hs1
                exact ⟨rfl, b8⟩
              · go_wp2_with fail
                go_at_call 17
                refine (irq_yes _ _ _ _ _ ht rfl rfl).mono ?_
                rintro e w6 ⟨rfl, ht6, hg6⟩
                go_wp2_with fail
                go_at_call 13
                refine (read_0 _ _ _ _ _ ht6).mono ?_
                rintro e w7 ⟨rfl, ht7, hg7⟩
                rw [show a1 % 256 = a1 from by have := HV.out; omega]
                go_wp2_with fail
                go_at_call 13
                refine (read_1 _ _ _ _ _ ht7).mono ?_
                rintro e w8 ⟨rfl, ht8, hg8⟩
                rw [show a1 / 256 % 256 = 0 from by have := HV.out; omega]
                go_wp2
                go_ret
                have b6 := below_own hbr hg6 hbr.size hs1
                have b7 := below_own b6 hg7 b6.size hs1
                have b8 := below_own b7 hg8 b7.size hs1
                exact ⟨rfl, b8⟩
end Go.Proofs.Ytpplndcffojlfaa.Own

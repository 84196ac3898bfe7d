/- With n in the latch the timer is over each n and 1 ticks, and in none between; one that doesn't run stays as it is; the counter takes the latch with its higher byte alone: the walks. Conditions: none but the arguments' own kinds. -/
import Derived.Test.YtpplndcffojlfaaTimer
namespace Go.Proofs.Ytpplndcffojlfaa.Own
open Go.RowKit

theorem irq_no (g : Nat) (l c s : Int) (w : World) (h : Tm w g l c s) (ho : (Go.bits .and .u8 s 128 != 0) = false ∨ (Go.bits .and .u8 s 128 != 0) = true ∧ (Go.bits .and .u8 s 2 != 0) = false) :
    Calls Try.prog 17 #[.pointer (some ⟨g, 0, none⟩)] w fun e w' => e = .returned (.bool false) ∧ Tm w' g l c s ∧ w.grownBy w' (some g) := by
  rcases ho with ho | ⟨ho, ha⟩
  · exact irq_off g l c s w h ho
  · rw [← ha]
    exact irq_on g l c s w h ho
theorem read_top (g : Nat) (l c s : Int) (w : World) (h : Tm w g l c s) (hc : 0 ≤ c ∧ c < 65536) :
    Calls Try.prog 13 #[.pointer (some ⟨g, 0, none⟩), .int .i64 1] w fun e w' => e = .returned (.int .u8 (c / 256)) ∧ Tm w' g l c s ∧ w.grownBy w' (some g) := by
  have e : c / 256 % 256 = c / 256 := by omega
  have := read_1 g l c s w h
  rw [e] at this
  exact this
theorem tick_idle (g : Nat) (s : Int) (w : World) (h : Tm w g 0 0 s) (hs : s = 1 ∨ s = 129) :
    Calls Try.prog 15 #[.pointer (some ⟨g, 0, none⟩)] w fun e w' => e = .returned (.tuple #[]) ∧ Tm w' g 0 0 129 ∧ w.grownBy w' (some g) := by
  rcases hs with rfl | rfl
  · exact tick_over g 0 0 1 w h rfl rfl
  · exact tick_over g 0 0 129 w h rfl rfl
theorem Tm.keep {w w' : World} {g g' : Nat} {l c s : Int} (h : Tm w g l c s) (hg : w.grownBy w' (some g')) (hne : g ≠ g') : Tm w' g l c s := Blk.grown h hg (fun e => hne (by injection e))
theorem Tm.stays {w w' : World} {g : Nat} {l c s : Int} (h : Tm w g l c s) (hb : Below w.heap.size w w') : Tm w' g l c s := Blk.below h hb (Blk.lt h)

set_option maxHeartbeats 4000000 in
set_option maxRecDepth 100000 in
theorem stops_walk (a0 a1 : Int) (w : World) (h0 : 0 ≤ a0 ∧ a0 < 65536) (h1 : 0 ≤ a1 ∧ a1 < 256) :
    Calls Try.prog 5 #[.int .u16 a0, .int .u8 a1] w fun e w' => e = .returned (.bool true) ∧ Below w.heap.size w w' := by
  obtain ⟨h00, h01⟩ := h0
  obtain ⟨h10, h11⟩ := h1
  obtain ⟨n, rfl⟩ := Int.eq_ofNat_of_zero_le h00
  obtain ⟨M, hM⟩ : ∃ M : Nat, a1 % 201 = M := ⟨(a1 % 201).toNat, by omega⟩
  have hM2 : M ≤ 200 := by omega
  have HM := Lib.hid hM
  clear hM
  go_enter Try.func5, Try.ntmps5
  go_wp2_with fail
  go_at_call 9
  refine (awake_any _).mono ?_
  rintro e w1 ⟨rfl, hb1⟩
  go_wp2_with fail
  go_at_call 19
  refine (set_any _ false true _ (by omega)).mono ?_
  rintro e w2 ⟨rfl, ht2, hb2⟩
  go_wp2_with fail
  go_at_call 19
  refine (set_any _ true false _ (by omega)).mono ?_
  rintro e w3 ⟨rfl, hu3, hb3⟩
  have ht3 := ht2.stays hb3
  have hlt := ht2.lt
  have hb := (hb1.trans (hb2.mono hb1.size)).trans (hb3.mono (Nat.le_trans hb1.size hb2.size))
  have hs1 : w.heap.size ≤ w1.heap.size := hb1.size
  have hs2 : w.heap.size ≤ w2.heap.size := Nat.le_trans hs1 hb2.size
  have hne : w1.heap.size ≠ w2.heap.size := by omega
  generalize w1.heap.size = gt at *
  generalize w2.heap.size = gu at *
  clear hb3 hb2 hb1 ht2 hlt
  have HNE := Lib.hid hne
  clear hne
  go_wp2
  go_loopw [8] (fun kv wr => ∃ (k : Nat) (s : Int), k ≤ M ∧ kv = .int .i64 k ∧ Tm wr gt n n 2 ∧ Tm wr gu 0 0 s ∧ Hid ((k = 0 ∧ s = 1) ∨ (0 < k ∧ s = 129)) ∧ Below w.heap.size w wr) (fun kv _ => M - (intOf kv).toNat)
  case atStart => exact ⟨0, 1, Nat.zero_le _, rfl, ht3, hu3, Lib.hid (.inl ⟨rfl, rfl⟩), hb⟩
  case round =>
    clear ht3 hu3 hb
    obtain ⟨k, s, hk, rfl, ht, hu, hks, hbr⟩ := hrel
    by_cases hlt : k < M
    · have hM := HM.out
      go_wp2_with fail
      go_at_call 15
      refine (tick_stops _ _ _ _ _ ht rfl).mono ?_
      rintro e w4 ⟨rfl, ht4, hg4⟩
      have hu4 := hu.keep hg4 (fun e => HNE.out e.symm)
      go_wp2_with fail
      go_at_call 15
      refine (tick_idle _ _ _ hu4 (by rcases hks.out with ⟨_, h⟩ | ⟨_, h⟩ <;> simp [h])).mono ?_
      rintro e w5 ⟨rfl, hu5, hg5⟩
      have ht5 := ht4.keep hg5 HNE.out
      go_wp2_with fail
      go_at_call 17
      refine (irq_no _ _ _ _ _ ht5 (.inl rfl)).mono ?_
      rintro e w6 ⟨rfl, ht6, hg6⟩
      have hu6 := hu5.keep hg6 (fun e => HNE.out e.symm)
      go_wp2_with fail
      go_at_call 17
      refine (irq_no _ _ _ _ _ hu6 (.inr ⟨rfl, rfl⟩)).mono ?_
      rintro e w7 ⟨rfl, hu7, hg7⟩
      have ht7 := ht6.keep hg7 HNE.out
      go_wp2
      have hb4 := below_own hbr hg4 hbr.size hs1
      have hb5 := below_own hb4 hg5 hb4.size hs2
      have hb6 := below_own hb5 hg6 hb5.size hs1
      have hb7 := below_own hb6 hg7 hb6.size hs2
      refine ⟨⟨k + 1, 129, by omega, by go_num, ht7, hu7, Lib.hid (.inr ⟨by omega, rfl⟩), hb7⟩, by simp [intOf]; omega⟩
    · obtain rfl : k = M := by omega
      have hM := HM.out
      by_cases hz : k = 0
      · obtain rfl : s = 1 := by rcases hks.out with ⟨_, h⟩ | ⟨h, _⟩ <;> omega
        subst hz
        clear hlt hk hM2
        go_wp2_with fail
        go_at_call 13
        refine (read_0 _ _ _ _ _ ht).mono ?_
        rintro e w4 ⟨rfl, ht4, hg4⟩
        have hu4 := hu.keep hg4 (fun e => HNE.out e.symm)
        go_wp2_with fail
        go_at_call 13
        refine (read_top _ _ _ _ _ ht4 (by omega)).mono ?_
        rintro e w5 ⟨rfl, ht5, hg5⟩
        have hu5 := hu4.keep hg5 (fun e => HNE.out e.symm)
        go_wp2_with fail
        go_at_call 13
        refine (read_2 _ _ _ _ _ ht5).mono ?_
        rintro e w6 ⟨rfl, ht6, hg6⟩
        have hu6 := hu5.keep hg6 (fun e => HNE.out e.symm)
        go_wp2_with fail
        go_at_call 13
        refine (read_2 _ _ _ _ _ hu6).mono ?_
        rintro e w7 ⟨rfl, ht7, hg7⟩
        go_wp2
        go_ret
        have hb4 := below_own hbr hg4 hbr.size hs1
        have hb5 := below_own hb4 hg5 hb4.size hs1
        have hb6 := below_own hb5 hg6 hb5.size hs1
        have hb7 := below_own hb6 hg7 hb6.size hs2
        exact ⟨rfl, hb7⟩
      · obtain rfl : s = 129 := by rcases hks.out with ⟨h, _⟩ | ⟨_, h⟩ <;> omega
        have hpos : 0 < k := by omega
        clear hz hlt hk hM2
        go_wp2_with fail
        go_at_call 13
        refine (read_0 _ _ _ _ _ ht).mono ?_
        rintro e w4 ⟨rfl, ht4, hg4⟩
        have hu4 := hu.keep hg4 (fun e => HNE.out e.symm)
        go_wp2_with fail
        go_at_call 13
        refine (read_top _ _ _ _ _ ht4 (by omega)).mono ?_
        rintro e w5 ⟨rfl, ht5, hg5⟩
        have hu5 := hu4.keep hg5 (fun e => HNE.out e.symm)
        go_wp2_with fail
        go_at_call 13
        refine (read_2 _ _ _ _ _ ht5).mono ?_
        rintro e w6 ⟨rfl, ht6, hg6⟩
        have hu6 := hu5.keep hg6 (fun e => HNE.out e.symm)
        go_wp2_with fail
        go_at_call 13
        refine (read_2 _ _ _ _ _ hu6).mono ?_
        rintro e w7 ⟨rfl, ht7, hg7⟩
        go_wp2
        go_ret
        have hb4 := below_own hbr hg4 hbr.size hs1
        have hb5 := below_own hb4 hg5 hb4.size hs1
        have hb6 := below_own hb5 hg6 hb5.size hs1
        have hb7 := below_own hb6 hg7 hb6.size hs2
        exact ⟨rfl, hb7⟩
end Go.Proofs.Ytpplndcffojlfaa.Own

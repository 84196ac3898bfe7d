/- The walk of WireTurns: true at any list of levels. Condition: the list is read as its cells. -/
import Derived.Test.YtdfdmgdielfhnaaOpen
namespace Go.Proofs.Ytdfdmgdielfhnaa.Own
open Go.RowKit

set_option maxHeartbeats 16000000 in
set_option maxRecDepth 100000 in
theorem turns_any (A : Option Addr) (len cap : Nat) (l : List (Bool × Bool)) (w : World) (hn : l.length = len) (hL : LvAt w A l) :
    Calls Try.prog 4 #[.slice A len cap] w fun e w' => e = .returned (.bool true) ∧ Below w.heap.size w w' := by
  have HA := Lib.hid (awake_any w)
  have HE := Lib.hid (fun (h : len ≤ 1000) w hL => events_any A len cap l w hn h hL)
  go_enter Try.func4, Try.ntmps4
  go_wp2_with fail
  go_at_call 8
  refine HA.out.mono ?_
  rintro e w1 ⟨rfl, hb1⟩
  have hL1 := hL.below hb1
  by_cases h300 : len ≤ 300
  · have h300' : ¬ 300 < (len : Int) := by omega
    have hnn : (len : Int) ≤ 300 := by omega
    go_wp2_with fail
    go_at_call 13
    refine (HE.out (by omega) _ hL1).mono ?_
    rintro e w2 ⟨v, rfl, hev, hb2⟩
    have hb2' := hb1.trans (hb2.mono hb1.size)
    have hL2 := hL1.below hb2
    have hE := IntsAt.of hev
    clear hev hL hL1 hb1 hb2
    have htl := tells_length l (true, true)
    rcases hE with ⟨rfl, h0⟩ | ⟨ge, cape, rfl, hge, hce⟩
    · rw [h0] at htl
      have hl0 : l = [] := List.length_eq_zero_iff.1 htl.symm
      subst hl0
      obtain rfl : 0 = len := hn
      go_wp2
      go_loop [6] (fun i => i = .int .i64 0) (fun _ => 0)
      case atStart => rfl
      case round =>
        obtain rfl := hrel
        go_wp2
        go_ret
        exact ⟨rfl, hb2'⟩
    · have HC := Lib.hid hce
      rw [htl, hn]
      clear hce
      go_wp2
      go_loop [5, 6] (fun h i => ∃ k : Nat, k ≤ len ∧ i = .int .i64 k ∧ h = .bool (lastL (true, true) (l.take k)).1) (fun _ i => len - (intOf i).toNat)
      case atStart => exact ⟨0, by omega, rfl, rfl⟩
      case round =>
        obtain ⟨k, hk, rfl, rfl⟩ := hrel
        by_cases hkn : k < len
        · have hk1 : (k : Int) < len := by omega
          have hk0 : 0 ≤ (k : Int) := by omega
          have hl := lastL_take (true, true) l k (by omega)
          have ce := HC.out k (by omega)
          rw [tells_getD (true, true) l k (by omega)] at ce
          rcases hL2 with rfl | ⟨b, off, rfl, hlt, hc⟩
          · simp at hn; omega
          · have c0 := (hc k (by omega)).1
            clear hc
            generalize l.getD k (false, false) = y at c0 ce hl
            generalize lastL (true, true) (l.take k) = x at ce
            obtain ⟨x0, x1⟩ := x
            obtain ⟨y0, y1⟩ := y
            have hl' : (lastL (true, true) (l.take (k + 1))).1 = y0 := by rw [hl]
            clear hl
            cases x0 <;> cases x1 <;> cases y0 <;> cases y1
            all_goals
              simp [tell] at ce c0
              go_wp2
              go_roundw
              case rel => exact ⟨k + 1, by omega, by simp, by rw [hl']⟩
              case measure => simp [intOf]; omega
        · have hk1 : ¬ (k : Int) < len := by omega
          go_wp2
          go_ret
          exact ⟨rfl, hb2'⟩
  · have h300' : 300 < (len : Int) := by omega
    go_wp2
    go_ret
    exact ⟨rfl, hb1⟩
end Go.Proofs.Ytdfdmgdielfhnaa.Own

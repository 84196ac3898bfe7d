/- The first page and the stack stay where they are, whatever is added: the walk. Conditions: bytes are bytes. -/
import Derived.Test.YtiljmdchogaaoaaPureAddrTells
import Derived.Lib.Hide
namespace Go.Proofs.Ytiljmdchogaaoaa.Own
open Go.RowKit Go.Proofs.Ytiljmdchogaaoaa.PAddrTells Go.Proofs.YtiljmdchogaaoaaW.PrintWords Go.Proofs.YtiljmdchogaaoaaW.PrintLast

theorem zero_any (x y : Int) (w : World) (hx : 0 ≤ x ∧ x < 256) (hy : 0 ≤ y ∧ y < 256) :
    Calls Try.prog 12 #[.int .u8 x, .int .u8 y] w fun e w' => e = .returned (.int .u16 ((x + y) % 256)) ∧ Below w.heap.size w w' := addr_Zero.calls 2 x y _ w (Pure.zero_eq 0 x y hx hy)
theorem stack_any (x : Int) (w : World) (hx : 0 ≤ x ∧ x < 256) :
    Calls Try.prog 13 #[.int .u8 x] w fun e w' => e = .returned (.int .u16 (256 + x)) ∧ Below w.heap.size w w' :=
  (addr_Stack.calls x _ w (Pure.stack_eq x hx)).mono fun _ _ ⟨he, hd⟩ => ⟨he, hd.below⟩
theorem awake_any (w : World) : Calls Try.prog 8 #[] w fun e w' => e = .returned (.bool true) ∧ Below w.heap.size w w' := keepsakelaw16_awake.calls 2 true w (Pure.awake_eq 0)

set_option maxHeartbeats 3200000 in
theorem pages_walk (x y : Int) (w : World) (hx : 0 ≤ x ∧ x < 256) (hy : 0 ≤ y ∧ y < 256) :
    Calls Try.prog 4 #[.int .u8 x, .int .u8 y] w fun e w' => e = .returned (.bool true) ∧ Below w.heap.size w w' := by
  have HZ := Lib.hid (fun w => zero_any x y w hx hy)
  have HY := Lib.hid (fun w => zero_any y x w hy hx)
  have HO := Lib.hid (fun w => zero_any x 0 w hx (by omega))
  have HS := Lib.hid (fun w => stack_any x w hx)
  rw [show y + x = x + y by omega] at HY
  rw [show (x + 0) % 256 = x by omega] at HO
  have hz : 0 ≤ (x + y) % 256 ∧ (x + y) % 256 < 256 := by omega
  have hs : 0 ≤ 256 + x ∧ 256 + x < 512 := by omega
  have s1 : (256 + x) / 256 = 1 := by omega
  have s2 : (256 + x) % 256 = x := by omega
  obtain ⟨hx0, hx1⟩ := hx
  obtain ⟨hy0, hy1⟩ := hy
  generalize hse : (256 + x) = s at *
  obtain ⟨hz0, hz1⟩ := hz
  obtain ⟨hs0, hs1⟩ := hs
  clear hse
  go_enter Try.func4, Try.ntmps4
  go_wp2_with fail
  go_at_call 8
  refine (awake_any _).mono ?_
  rintro e w1 ⟨rfl, hb1⟩
  go_wp2_with fail
  go_at_call 12
  refine (HZ.out _).mono ?_
  rintro e w2 ⟨rfl, hb2⟩
  have b2 := hb1.trans (hb2.mono hb1.size)
  go_wp2_with fail
  go_at_call 12
  refine (HZ.out _).mono ?_
  rintro e w3 ⟨rfl, hb3⟩
  have b3 := b2.trans (hb3.mono b2.size)
  go_wp2_with fail
  go_at_call 12
  refine (HY.out _).mono ?_
  rintro e w4 ⟨rfl, hb4⟩
  have b4 := b3.trans (hb4.mono b3.size)
  go_wp2_with fail
  go_at_call 12
  refine (HO.out _).mono ?_
  rintro e w5 ⟨rfl, hb5⟩
  have b5 := b4.trans (hb5.mono b4.size)
  go_wp2_with fail
  go_at_call 13
  refine (HS.out _).mono ?_
  rintro e w6 ⟨rfl, hb6⟩
  have b6 := b5.trans (hb6.mono b5.size)
  go_wp2_with fail
  go_at_call 13
  refine (HS.out _).mono ?_
  rintro e w7 ⟨rfl, hb7⟩
  have b7 := b6.trans (hb7.mono b6.size)
  go_wp2_with fail
  go_at_call 12
  refine (HZ.out _).mono ?_
  rintro e w8 ⟨rfl, hb8⟩
  have b8 := b7.trans (hb8.mono b7.size)
  go_wp2
  go_ret
  exact ⟨rfl, b8⟩
end Go.Proofs.Ytiljmdchogaaoaa.Own

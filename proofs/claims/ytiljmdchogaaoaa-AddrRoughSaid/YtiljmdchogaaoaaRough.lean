/- What is rough is right, or wrong by 256: the walk, from what its callees answer. Conditions: numbers in their ranges. -/
import Derived.Test.YtiljmdchogaaoaaPureAddrFar
import Derived.Below
import Derived.OwnWalk
import Derived.Laws.OwnMore
import Derived.Laws.Rows
import Derived.Deep.Draws
import Derived.WalkKit
import Derived.Tactics
import Derived.Lib.Hide
import Derived.KernelRfl
import Derived.BigGuard
namespace Go.Proofs.Ytiljmdchogaaoaa.Own
open Go.RowKit

set_option maxHeartbeats 40000000 in
theorem rough_core (a x b c d e : Int) (w : World) (hx0 : 0 ≤ x) (hx1 : x < 256)
    (HA : Hid (∀ w, Calls Try.prog 8 #[] w fun e w' => e = .returned (.bool true) ∧ Below w.heap.size w w'))
    (HI : Hid (∀ w, Calls Try.prog 14 #[.int .u16 a, .int .u8 x] w fun e w' => e = .returned (.tuple #[.int .u16 b, .int .u16 c]) ∧ Below w.heap.size w w'))
    (HB : Hid (∀ w, Calls Try.prog 16 #[.int .u16 a, .int .u8 x] w fun r w' => r = .returned (.tuple #[.int .u16 d, .int .u16 e]) ∧ Below w.heap.size w w'))
    (t3 : (b / 256 == a / 256) = true) (t4 : (d / 256 == a / 256) = true) (t5 : (IntKind.u16.wrap (c - a) == x) = true)
    (T1 : (b == c) = true ∨ ((b == c) = false ∧ (IntKind.u16.wrap (c - b) == 256) = true))
    (T2 : ((d == e) = true ∧ (IntKind.u16.wrap (e - a) == x) = true) ∨ ((d == e) = false ∧ (IntKind.u16.wrap (e - d) == 256) = true ∧ (IntKind.u16.wrap (e - a) == x) = true) ∨
      ((d == e) = true ∧ (IntKind.u16.wrap (e - a) == x) = false ∧ (IntKind.u16.wrap (e - a) == 65280 + x) = true) ∨ ((d == e) = false ∧ (IntKind.u16.wrap (e - d) == 256) = false ∧ (IntKind.u16.wrap (d - e) == 256) = true ∧ (IntKind.u16.wrap (e - a) == x) = false ∧ (IntKind.u16.wrap (e - a) == 65280 + x) = true)) :
    Calls Try.prog 6 #[.int .u16 a, .int .u8 x] w fun e w' => e = .returned (.bool true) ∧ Below w.heap.size w w' := by
  rcases T1 with t1 | ⟨t1, t1'⟩ <;> rcases T2 with ⟨t2, t6⟩ | ⟨t2, t2', t6⟩ | ⟨t2, t6, t6'⟩ | ⟨t2, t2', t2'', t6, t6'⟩
  all_goals
    go_enter Try.func6, Try.ntmps6
    go_wp2_with fail
    go_at_call 8
    refine (HA.out _).mono ?_
    rintro e' w1 ⟨rfl, hw1⟩
    go_wp2_with fail
    go_at_call 14
    refine (HI.out _).mono ?_
    rintro e' w2 ⟨rfl, hw2⟩
    have b2 := hw1.trans (hw2.mono hw1.size)
    go_wp2_with fail
    go_at_call 16
    refine (HB.out _).mono ?_
    rintro e' w3 ⟨rfl, hw3⟩
    have b3 := b2.trans (hw3.mono b2.size)
    clear HA HI HB
    go_wp2
    go_ret
    exact ⟨rfl, b3⟩
open Go.Proofs.Ytiljmdchogaaoaa.PAddrFar Go.Proofs.YtiljmdchogaaoaaW.PrintWords Go.Proofs.YtiljmdchogaaoaaW.PrintLast in
theorem awake_any (w : World) : Calls Try.prog 8 #[] w fun e w' => e = .returned (.bool true) ∧ Below w.heap.size w w' := keepsakelaw16_awake.calls 2 true w (Pure.awake_eq 0)
open Go.Proofs.Ytiljmdchogaaoaa.PAddrFar Go.Proofs.YtiljmdchogaaoaaW.PrintWords Go.Proofs.YtiljmdchogaaoaaW.PrintLast in
theorem rough_walk (a x : Int) (w : World) (ha : 0 ≤ a ∧ a < 65536) (hx : 0 ≤ x ∧ x < 256) :
    Calls Try.prog 6 #[.int .u16 a, .int .u8 x] w fun e w' => e = .returned (.bool true) ∧ Below w.heap.size w w' := by
  have HI := Lib.hid (fun w => addr_Index.calls 2 a x _ _ w (Pure.index_eq 0 a x ha hx))
  have HB := Lib.hid (fun w => addr_Branch.calls 3 a x _ _ w (Pure.branch_eq 0 a x ha hx))
  refine rough_core a x _ _ _ _ w hx.1 hx.2 (Lib.hid awake_any) HI HB ?_ ?_ ?_ ?_ ?_
  all_goals try rw [Pure.w16]
  all_goals try rw [Pure.w16]
  all_goals try rw [Pure.w16]
  all_goals clear HI HB
  all_goals try simp only [beq_iff_eq, beq_eq_false_iff_ne, ne_eq]
  all_goals by_cases h : x > 127
  all_goals try simp only [h, if_true, if_false]
  all_goals omega
end Go.Proofs.Ytiljmdchogaaoaa.Own

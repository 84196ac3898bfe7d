/- The contract of what a list of cycles tells. Condition: the list is read as its cells. -/
import Derived.Test.YtdfdmgdielfhnaaWire
namespace Go.Proofs.Ytdfdmgdielfhnaa.Own
open Go.RowKit

theorem info3 : (Try.prog.info? 3).map (fun i => (i.zero, i.size, i.bytes)) = some (some (.int .i64 0), 1, 8) := by kernel_rfl
theorem tells_take (x : Bool × Bool) (l : List (Bool × Bool)) (k : Nat) (h : k < l.length) : tells x (l.take (k + 1)) = tells x (l.take k) ++ [tell (lastL x (l.take k)) (l.getD k (false, false))] := by
  rw [List.take_add_one, List.getElem?_eq_getElem h, tells_append, List.getD_eq_getElem?_getD, List.getElem?_eq_getElem h]
  rfl
theorem lastL_take (x : Bool × Bool) (l : List (Bool × Bool)) (k : Nat) (h : k < l.length) : lastL x (l.take (k + 1)) = l.getD k (false, false) := by
  rw [List.take_add_one, List.getElem?_eq_getElem h, lastL_append, List.getD_eq_getElem?_getD, List.getElem?_eq_getElem h]
  rfl
set_option maxHeartbeats 4000000 in
set_option maxRecDepth 100000 in
theorem events_any (A : Option Addr) (len cap : Nat) (l : List (Bool × Bool)) (w : World) (hn : l.length = len) (h1000 : len ≤ 1000) (hL : LvAt w A l) :
    Calls Try.prog 13 #[.slice A len cap] w fun e w' => ∃ v, e = .returned v ∧ w'.ownsRow (w.heap.size + 1) 3 1 v len ((tells (true, true) l).map (.int .i64)) ∧ Below w.heap.size w w' := by
  obtain ⟨i0, hi, hz0, hz1, hz2⟩ := info_parts info3
  have HS := Lib.hid step_any
  have HN := Lib.hid new_any
  have hnn : (len : Int) ≤ 1000 := by omega
  go_enter Try.func13, Try.ntmps13
  go_wp2_with fail
  go_at_call 10
  refine (HN.out _).mono ?_
  rintro e w1 ⟨rfl, rfl⟩
  have HW : Wr (w.alloc (.cells #[.bool true, .bool true] 45)) w.heap.size (true, true) := Blk.new w 45 _
  have HB : Below w.heap.size w (w.alloc (.cells #[.bool true, .bool true] 45)) := (Below.refl _ _).alloc (Nat.le_refl _) _
  generalize w.alloc (.cells #[.bool true, .bool true] 45) = w1 at HW HB
  go_wp2
  go_loopw [4, 10] (fun v i wr => ∃ k : Nat, k ≤ len ∧ i = .int .i64 k ∧ wr.ownsRow (w.heap.size + 1) 3 1 v k ((tells (true, true) (l.take k)).map (.int .i64)) ∧ Wr wr w.heap.size (lastL (true, true) (l.take k)) ∧ Below w.heap.size w wr) (fun _ i _ => len - (intOf i).toNat)
  case atStart => exact ⟨0, by omega, rfl, World.ownsRow_nil _ _ _ _, HW, HB⟩
  case round =>
    clear HW HB
    obtain ⟨k, hk, rfl, hown, hwr, hb⟩ := hrel
    by_cases hkn : k < len
    · have hk1 : (k : Int) < len := by omega
      have hk0 : 0 ≤ (k : Int) := by omega
      have ht := tells_take (true, true) l k (by omega)
      have hl := lastL_take (true, true) l k (by omega)
      rcases hL.below hb with rfl | ⟨b, off, rfl, hlt, hc⟩
      · simp at hn; omega
      · obtain ⟨c0, c1⟩ := hc k (by omega)
        clear hc
        generalize l.getD k (false, false) = y at c0 c1 ht hl
        generalize lastL (true, true) (l.take k) = x at hwr ht
        go_wp2_with fail
        go_at_call 11
        refine (HS.out w.heap.size x y _ (Blk.alloc hwr _)).mono ?_
        rintro e w2 ⟨rfl, hw2, hg2⟩
        have hown2 := (hown.alloc (.cells #[.bool y.1, .bool y.2] 30)).kept hg2 (.inr (fun e => by have := (hown.lt _ e).1; omega))
        have hb2 := (hb.alloc hb.size (.cells #[.bool y.1, .bool y.2] 30)).grown hg2 (Nat.le_trans hb.size (by simp)) (fun j hj => by cases hj; exact Nat.le_refl _)
        clear hown hwr hg2 c0 c1 hb
        generalize tell x y = ty at ht
        go_wp2_with (first
          | (at_builtin; refine wpList_append_lies _ rfl _ _ 24 rfl (w.heap.size + 1) 3 i0 (.int .i64 0) 1 8 Try.underlying24 hi hz0 hz1 hz2 rfl (by decide) _ _ _ rfl (hown2.alloc _) ⟨w2.heap.size, 0, none⟩ 1 1 [.int .i64 ty] rfl rfl ?c1 ?c2 (by decide) ?c3 ?c4 ?c5 (w2.heap.size + 1) (by simp) ?_)
          | go_in)
        case c1 =>
          intro j u hj
          match j, hj with
          | 0, hj => simp at hj; subst hj; simp [Addr.add]
        case c2 => intro u hu; simp at hu; subst hu; rfl
        case c3 => unfold maxLen; omega
        case c4 => omega
        case c5 => have := hb2.size; have := Blk.lt hw2; simp; omega
        · intro g cap' w3 hown3 hgrow hat hglt
          have hw3 := Blk.grown (Blk.alloc hw2 (.cells #[.int .i64 ty] 3)) hgrow (fun e => by have := (hown2.lt _ e.symm).1; omega)
          have hb3 := (hb2.alloc hb2.size (.cells #[.int .i64 ty] 3)).grown hgrow (Nat.le_trans hb2.size (by simp)) (fun j hj => by have := (hown2.lt _ hj).1; omega)
          go_wp2
          go_roundw
          case rel => exact ⟨k + 1, by omega, by simp, by rw [ht]; simpa using hown3, by rw [hl]; exact hw3, hb3⟩
          case measure => simp [intOf]; omega
    · have hk1 : ¬ (k : Int) < len := by omega
      obtain rfl : k = len := by omega
      rw [List.take_of_length_le (by omega)] at hown
      go_wp2
      go_ret
      exact ⟨_, rfl, hown, hb⟩
end Go.Proofs.Ytdfdmgdielfhnaa.Own

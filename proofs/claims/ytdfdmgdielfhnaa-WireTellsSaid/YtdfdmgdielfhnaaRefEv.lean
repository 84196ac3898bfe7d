/- Contracts of the document's answer: what is told, cycle by cycle. Condition: the list is read as its cells. -/
import Derived.Test.YtdfdmgdielfhnaaStays
namespace Go.Proofs.Ytdfdmgdielfhnaa.Own
open Go.RowKit

theorem owns_below {w w' : World} {B : Nat} {e : TypeId} {k : Nat} {v : Value} {n : Nat} {xs : List Value} (h : w.ownsRow B e k v n xs) (hb : Below w.heap.size w w') : w'.ownsRow B e k v n xs :=
  h.kept (row := none) ⟨hb.os, hb.tape, hb.output, hb.size, fun j hj _ => hb.block j hj⟩ (by cases v.ownBlock <;> simp)
set_option maxHeartbeats 4000000 in
set_option maxRecDepth 100000 in
theorem tellR_any (x y : Bool × Bool) (w : World) : Calls Try.prog 20 #[.agg #[.bool x.1, .bool x.2], .agg #[.bool y.1, .bool y.2]] w fun e w' => e = .returned (.int .i64 (tell x y)) ∧ Below w.heap.size w w' := by
  obtain ⟨x0, x1⟩ := x
  obtain ⟨y0, y1⟩ := y
  cases x0 <;> cases x1 <;> cases y0 <;> cases y1
  all_goals
    go_enter Try.func20, Try.ntmps20
    go_wp2
    go_ret
    exact ⟨rfl, ((Below.refl _ w).alloc (Nat.le_refl _) _).alloc (by simp) _⟩
set_option maxHeartbeats 8000000 in
set_option maxRecDepth 100000 in
theorem evR_any (A : Option Addr) (len cap : Nat) (l : List (Bool × Bool)) (w : World) (hn : l.length = len) (h1000 : len ≤ 1000) (hL : LvAt w A l) :
    Calls Try.prog 9 #[.slice A len cap] w fun e w' => ∃ v, e = .returned v ∧ w'.ownsRow (w.heap.size + 1) 3 1 v len ((tells (true, true) l).map (.int .i64)) ∧ Below w.heap.size w w' := by
  obtain ⟨i0, hi, hz0, hz1, hz2⟩ := info_parts info3
  have HT := Lib.hid tellR_any
  have hnn : (len : Int) ≤ 1000 := by omega
  have B0 : Blk (w.alloc (.cells #[.bool true, .bool true] 30)) w.heap.size 30 #[.bool true, .bool true] := Blk.new w 30 _
  have HB : Below w.heap.size w (w.alloc (.cells #[.bool true, .bool true] 30)) := (Below.refl _ _).alloc (Nat.le_refl _) _
  go_enter Try.func9, Try.ntmps9
  go_wp2
  go_loopw [3, 5] (fun v i wr => ∃ k : Nat, k ≤ len ∧ i = .int .i64 k ∧ wr.ownsRow (w.heap.size + 1) 3 1 v k ((tells (true, true) (l.take k)).map (.int .i64)) ∧ Blk wr w.heap.size 30 #[.bool (lastL (true, true) (l.take k)).1, .bool (lastL (true, true) (l.take k)).2] ∧ Below w.heap.size w wr) (fun _ i _ => len - (intOf i).toNat)
  case atStart => exact ⟨0, by omega, rfl, World.ownsRow_nil _ _ _ _, B0, HB⟩
  case round =>
    clear B0 HB
    obtain ⟨k, hk, rfl, hown, hwr, hb⟩ := hrel
    by_cases hkn : k < len
    · have hk1 : (k : Int) < len := by omega
      have hk0 : 0 ≤ (k : Int) := by omega
      have ht := tells_take (true, true) l k (by omega)
      have hl := lastL_take (true, true) l k (by omega)
      rcases hL with rfl | ⟨b, off, rfl, hlt, hc⟩
      · simp at hn; omega
      · have c0 := (hb.cell (p := ⟨b, off + k * 2, none⟩) hlt).trans (hc k (by omega)).1
        have c1 := (hb.cell (p := ⟨b, off + k * 2 + 1, none⟩) hlt).trans (hc k (by omega)).2
        clear hc
        generalize l.getD k (false, false) = y at c0 c1 ht hl
        generalize lastL (true, true) (l.take k) = x at hwr ht
        have HT' := Lib.hid (fun w => HT.out x y w)
        have d0 : wr.cell? ⟨w.heap.size, 0, none⟩ = some (.bool x.1) := (hwr.cell 0).trans rfl
        have d1 : wr.cell? ⟨w.heap.size, 1, none⟩ = some (.bool x.2) := (hwr.cell 1).trans rfl
        have hlt' : b < wr.heap.size := Nat.lt_of_lt_of_le hlt hb.size
        have hgl := hwr.lt
        have HX : Hid (∀ w3, Below wr.heap.size wr w3 → (w3.cell? ⟨w.heap.size, 0, none⟩ = some (.bool x.1) ∧ w3.cell? ⟨w.heap.size, 1, none⟩ = some (.bool x.2) ∧ w3.cell? ⟨b, off + k * 2, none⟩ = some (.bool y.1) ∧ w3.cell? ⟨b, off + k * 2 + 1, none⟩ = some (.bool y.2)) ∧
            ∀ o, (w3.alloc o).cell? ⟨w.heap.size, 0, none⟩ = some (.bool x.1) ∧ (w3.alloc o).cell? ⟨w.heap.size, 1, none⟩ = some (.bool x.2) ∧ (w3.alloc o).cell? ⟨b, off + k * 2, none⟩ = some (.bool y.1) ∧ (w3.alloc o).cell? ⟨b, off + k * 2 + 1, none⟩ = some (.bool y.2)) :=
          Lib.hid (fun w3 h => by
            have h' : ∀ o, Below wr.heap.size wr (w3.alloc o) := fun o => h.alloc h.size o
            exact ⟨⟨(h.cell hgl).trans d0, (h.cell hgl).trans d1, (h.cell hlt').trans c0, (h.cell hlt').trans c1⟩, fun o => ⟨((h' o).cell hgl).trans d0, ((h' o).cell hgl).trans d1, ((h' o).cell hlt').trans c0, ((h' o).cell hlt').trans c1⟩⟩)
        have hne0 : some w.heap.size ≠ u3.ownBlock := fun h => by have := (World.ownsRow.lt hown _ h.symm).1; omega
        have hne1 : some b ≠ u3.ownBlock := fun h => by have := (World.ownsRow.lt hown _ h.symm).1; omega
        generalize tell x y = ty at ht HT'
        go_wp2_with fail
        go_region_held3 (fun w' => w'.cell? ⟨w.heap.size, 0, none⟩ = some (.bool x.1) ∧ w'.cell? ⟨w.heap.size, 1, none⟩ = some (.bool x.2) ∧ w'.cell? ⟨b, off + k * 2, none⟩ = some (.bool y.1) ∧ w'.cell? ⟨b, off + k * 2 + 1, none⟩ = some (.bool y.2))
          (first
            | exact (HX.out _ (Below.refl _ _)).1
            | exact (HX.out _ ⟨hb3.os, hb3.tape, hb3.output, hb3.size, hb3.block⟩).1
            | exact (HX.out _ ⟨hb3.os, hb3.tape, hb3.output, hb3.size, hb3.block⟩).2 _
            | exact ⟨(hgrow.cell_far _ (by simp; omega) hne0).trans ((HX.out _ ⟨hb3.os, hb3.tape, hb3.output, hb3.size, hb3.block⟩).2 _).1, (hgrow.cell_far _ (by simp; omega) hne0).trans ((HX.out _ ⟨hb3.os, hb3.tape, hb3.output, hb3.size, hb3.block⟩).2 _).2.1, (hgrow.cell_far _ (by simp; omega) hne1).trans ((HX.out _ ⟨hb3.os, hb3.tape, hb3.output, hb3.size, hb3.block⟩).2 _).2.2.1, (hgrow.cell_far _ (by simp; omega) hne1).trans ((HX.out _ ⟨hb3.os, hb3.tape, hb3.output, hb3.size, hb3.block⟩).2 _).2.2.2⟩
            | go_keep)
          (first
            | (go_at_call 20; refine (HT'.out _).mono ?_; rintro e w3 ⟨rfl, hb3⟩; have hs3 : wr.heap.size ≤ w3.heap.size := hb3.size)
            | (refine step_append_lies _ (by rfl) _ _ _ (by rfl) (w.heap.size + 1) 3 i0 (.int .i64 0) 1 8 Try.underlying24 hi hz0 hz1 hz2 rfl (by decide) u3 k ((tells (true, true) (l.take k)).map (.int .i64)) (by rfl) (((owns_below hown ⟨hb3.os, hb3.tape, hb3.output, hb3.size, hb3.block⟩).alloc _).drew)
                  ⟨w3.heap.size, 0, none⟩ 1 1 [.int .i64 ty] (by rfl) (by rfl) (World.news_of_block (cs := #[.int .i64 ty]) (t := 3) (fr := (0, 0)) (heap_alloc_new w3 _)) (by simp [Value.oneCell'])
                  (by decide) (by unfold maxLen; omega) (by omega) (by have := hb.size; have : wr.heap.size ≤ w3.heap.size := hb3.size; simp; omega) (w3.heap.size + 1) (by simp) ?_; intro g2 cap2 w4 hown4 hgrow hat hglt))
        rename_i hS
        obtain ⟨e0, e1, e2, e3⟩ := hS
        have hb3' : Below wr.heap.size wr w3 := ⟨hb3.os, hb3.tape, hb3.output, hb3.size, hb3.block⟩
        have hw4 := ((hwr.below hb3' hgl).alloc (.cells #[.int .i64 ty] 3)).grown hgrow hne0
        have hb13 := hb.trans (hb3'.mono hb.size)
        have hb4 := (hb13.alloc hb13.size (.cells #[.int .i64 ty] 3)).grown hgrow (Nat.le_trans hb13.size (by simp)) (fun j hj => by have := (World.ownsRow.lt hown j hj).1; omega)
        have F0 := hw4.frozen 0
        have F1 := hw4.frozen 1
        have hx := ownsRow_setCell_below (ownsRow_setCell_below hown4 (a := ⟨w.heap.size, 0, none⟩) (by simp) (.bool y.1)) (a := ⟨w.heap.size, 1, none⟩) (by simp) (.bool y.2)
        have hw5 := (hw4.set_ 0 (.bool y.1)).set_ 1 (.bool y.2)
        have hb5 := (hb4.setCell (p := ⟨w.heap.size, 0, none⟩) (Nat.le_refl _) (.bool y.1)).setCell (p := ⟨w.heap.size, 1, none⟩) (Nat.le_refl _) (.bool y.2)
        clear hwr hb3 hb3' hb13 hb4 hown4 hgrow hat hglt hown hw4
        go_wp2
        go_roundw
        case rel => exact ⟨k + 1, by omega, by simp, by rw [ht]; simpa using hx, by rw [hl]; exact hw5, hb5⟩
        case measure => simp [intOf]; omega
    · have hk1 : ¬ (k : Int) < len := by omega
      obtain rfl : k = len := by omega
      rw [List.take_of_length_le (by omega)] at hown
      go_wp2
      go_ret
      exact ⟨_, rfl, hown, hb⟩
end Go.Proofs.Ytdfdmgdielfhnaa.Own

/- Contracts of a wire: a new one, one cycle, what a list of cycles tells. Conditions: a wire is a block of two cells; a list of levels is read as its cells. -/
import Derived.Test.YtifajfjiloajfaaGreatDoorProg
import Derived.Below
import Derived.OwnWalk
import Derived.Laws.OwnMore
import Derived.Laws.Rows
import Derived.Deep.Draws
import Derived.Deep.AppendLies
import Derived.Deep.RegionHeld3
import Derived.WalkKit
import Derived.Tactics
import Derived.Lib.Hide
import Derived.KernelRfl
import Derived.ChangeAlike
import Derived.RegionTactic
import Derived.WalkSmall
import Derived.OneCell
namespace Go.Proofs.YtifajfjiloajfaaGreatDoor.OwnWire
open Go.RowKit

def Blk (w : World) (g : Nat) (t : TypeId) (cs : Array Value) : Prop := w.heap[g]? = some (.cells cs t (0, 0))

section
variable {w w' : World} {g : Nat} {t : TypeId} {cs : Array Value}
theorem Blk.lt (h : Blk w g t cs) : g < w.heap.size := by
  rcases Nat.lt_or_ge g w.heap.size with hlt | hge
  · exact hlt
  · unfold Blk at h; rw [Array.getElem?_eq_none hge] at h; cases h
theorem Blk.cell (h : Blk w g t cs) (i : Nat) : w.cell? ⟨g, i, none⟩ = cs[i]? := cell_of_row w g i cs t (0, 0) h
theorem Blk.frozen (h : Blk w g t cs) (i : Nat) : w.frozen? ⟨g, i, none⟩ = false := by
  unfold Blk at h
  simp [World.frozen?, h]
theorem Blk.new (w : World) (t : TypeId) (cs : Array Value) : Blk (w.alloc (.cells cs t)) w.heap.size t cs := heap_alloc_new w _
theorem Blk.drew (h : Blk w g t cs) : Blk w.drew g t cs := h
theorem Blk.alloc (h : Blk w g t cs) (o : Obj) : Blk (w.alloc o) g t cs := (Below.heap_alloc w o g h.lt).trans h
theorem Blk.set_ (h : Blk w g t cs) (i : Nat) (u : Value) : Blk (w.setCell ⟨g, i, none⟩ u) g t (cs.setIfInBounds i u) := by
  unfold Blk at h ⊢
  simp [World.setCell, Array.getElem?_modify, h]
theorem Blk.far (h : Blk w g t cs) {p : Addr} (hp : g ≠ p.block) (u : Value) : Blk (w.setCell p u) g t cs := (Below.heap_setCell w p u g hp).trans h
theorem Blk.below {B : Nat} (h : Blk w g t cs) (hb : Below B w w') (hg : g < B) : Blk w' g t cs := (hb.block g hg).trans h
theorem Blk.grown {row : Option Nat} (h : Blk w g t cs) (hb : w.grownBy w' row) (hg : some g ≠ row) : Blk w' g t cs := (hb.block g h.lt hg).trans h
end

theorem only_refl (w : World) (row : Option Nat) : w.grownBy w row := ⟨rfl, rfl, rfl, Nat.le_refl _, fun _ _ _ => rfl⟩
theorem only_set {a w : World} {g i : Nat} (h : a.grownBy w (some g)) (u : Value) : a.grownBy (w.setCell ⟨g, i, none⟩ u) (some g) :=
  ⟨h.os, h.tape, h.output, by simpa [World.setCell] using h.size, fun k hk hne => (Below.heap_setCell w _ u k (by
    rintro rfl
    exact hne rfl)).trans (h.block k hk hne)⟩
theorem only_alloc {a w : World} {row : Option Nat} (h : a.grownBy w row) (o : Obj) : a.grownBy (w.alloc o) row :=
  ⟨h.os, h.tape, h.output, Nat.le_trans h.size (by simp), fun k hk hne => (Below.heap_alloc w o k (Nat.lt_of_lt_of_le hk h.size)).trans (h.block k hk hne)⟩
theorem only_drew {a w : World} {row : Option Nat} (h : a.grownBy w row) : a.grownBy w.drew row := ⟨h.os, h.tape, h.output, h.size, h.block⟩
/-- What the lines tell from one level to the next. -/
def tell (x y : Bool × Bool) : Int :=
  if x.1 = true ∧ y.1 = true then (if x.2 = true ∧ y.2 = false then 1 else if x.2 = false ∧ y.2 = true then 2 else 0)
  else if x.1 = false ∧ y.1 = true then 3 else if x.1 = true ∧ y.1 = false then 4 else 0
def tells : Bool × Bool → List (Bool × Bool) → List Int
  | _, [] => []
  | x, y :: ys => tell x y :: tells y ys
/-- The level behind the first k cycles. -/
def lastL (x : Bool × Bool) : List (Bool × Bool) → Bool × Bool
  | [] => x
  | y :: ys => lastL y ys
theorem tells_append : ∀ (l m : List (Bool × Bool)) (x : Bool × Bool), tells x (l ++ m) = tells x l ++ tells (lastL x l) m
  | [], _, _ => rfl
  | y :: ys, m, x => by simp [tells, lastL, tells_append ys m y]
theorem lastL_append : ∀ (l m : List (Bool × Bool)) (x : Bool × Bool), lastL x (l ++ m) = lastL (lastL x l) m
  | [], _, _ => rfl
  | y :: ys, m, x => by simp [lastL, lastL_append ys m y]
theorem tells_length : ∀ (l : List (Bool × Bool)) (x : Bool × Bool), (tells x l).length = l.length
  | [], _ => rfl
  | y :: ys, x => by simp [tells, tells_length ys y]
theorem take_succ {α : Type} [Inhabited α] (l : List α) (k : Nat) (h : k < l.length) : l.take (k + 1) = l.take k ++ [l.getD k default] := by
  rw [List.take_add_one, List.getElem?_eq_getElem h, List.getD_eq_getElem?_getD, List.getElem?_eq_getElem h]
  rfl

/-- A list of levels, in memory. -/
def LvAt (w : World) (A : Option Addr) (l : List (Bool × Bool)) : Prop :=
  l = [] ∨ ∃ b off, A = some ⟨b, off, none⟩ ∧ b < w.heap.size ∧ ∀ k, k < l.length → w.cell? ⟨b, off + k * 2, none⟩ = some (.bool (l.getD k (false, false)).1) ∧ w.cell? ⟨b, off + k * 2 + 1, none⟩ = some (.bool (l.getD k (false, false)).2)
theorem LvAt.below {w w' : World} {A : Option Addr} {l : List (Bool × Bool)} (h : LvAt w A l) (hb : Below w.heap.size w w') : LvAt w' A l := by
  rcases h with h | ⟨b, off, hA, hlt, hc⟩
  · exact .inl h
  · exact .inr ⟨b, off, hA, Nat.lt_of_lt_of_le hlt hb.size, fun k hk => ⟨(hb.cell hlt).trans (hc k hk).1, (hb.cell hlt).trans (hc k hk).2⟩⟩

set_option maxHeartbeats 1600000 in
theorem clock_any (a b : Bool) (w : World) : Calls Tryz.prog 103 #[.bool a, .bool b] w fun e w' => e = .returned (.int .i64 (if a = true then (if b = true then 3 else 1) else if b = true then 2 else 0)) ∧ w = w' := by
  cases a <;> cases b
  all_goals
    go_enter Tryz.func103, Tryz.ntmps103
    go_wp2
    go_ret
    exact ⟨rfl, rfl⟩
set_option maxHeartbeats 1600000 in
theorem new_any (w : World) : Calls Tryz.prog 48 #[] w fun e w' => e = .returned (.pointer (some ⟨w.heap.size, 0, none⟩)) ∧ w' = w.alloc (.cells #[.bool true, .bool true] 147) := by
  go_enter Tryz.func48, Tryz.ntmps48
  go_wp2
  go_ret
  exact ⟨rfl, rfl⟩
def Wr (w : World) (g : Nat) (x : Bool × Bool) : Prop := Blk w g 147 #[.bool x.1, .bool x.2]
set_option maxHeartbeats 1600000 in
theorem step_any (g : Nat) (x y : Bool × Bool) (w : World) (h : Wr w g x) :
    Calls Tryz.prog 91 #[.pointer (some ⟨g, 0, none⟩), .agg #[.bool y.1, .bool y.2]] w fun e w' => e = .returned (.int .i64 (tell x y)) ∧ Wr w' g y ∧ w.grownBy w' (some g) := by
  obtain ⟨x0, x1⟩ := x
  obtain ⟨y0, y1⟩ := y
  have hk := Lib.hid clock_any
  have C0 : w.cell? ⟨g, 0, none⟩ = some (.bool x0) := (Blk.cell h 0).trans rfl
  have C1 : w.cell? ⟨g, 1, none⟩ = some (.bool x1) := (Blk.cell h 1).trans rfl
  have F0 := Blk.frozen h 0
  have F1 := Blk.frozen h 1
  have hlt := Blk.lt h
  have HB : Hid (∀ o o' : Obj, Wr (((((w.setCell ⟨g, 0, none⟩ (.bool y0)).setCell ⟨g, 1, none⟩ (.bool y1)).alloc o).alloc o')) g (y0, y1) ∧ w.grownBy (((((w.setCell ⟨g, 0, none⟩ (.bool y0)).setCell ⟨g, 1, none⟩ (.bool y1)).alloc o).alloc o')) (some g)) :=
    Lib.hid (fun o o' => ⟨(((Blk.set_ h 0 _).set_ 1 _).alloc _).alloc _, only_alloc (only_alloc (only_set (only_set (only_refl w _) _) _) _) _⟩)
  clear h
  cases x0 <;> cases x1 <;> cases y0 <;> cases y1
  all_goals
    go_enter Tryz.func91, Tryz.ntmps91
    go_wp2_with (go_at_call 103; refine (hk.out _ _ _).mono ?_; rintro e w' ⟨rfl, rfl⟩)
    go_ret
    exact ⟨rfl, HB.out _ _⟩
end Go.Proofs.YtifajfjiloajfaaGreatDoor.OwnWire

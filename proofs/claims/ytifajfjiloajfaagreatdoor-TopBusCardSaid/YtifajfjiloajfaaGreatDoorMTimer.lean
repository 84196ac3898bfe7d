/- Contracts of the timer (New, Write, Read, Tick, Irq, Copy), of the helper that sets one up, and of the example that each statement asks first. Conditions: a timer is a block of three cells; numbers in their ranges. · A timer that never asks: its numbers stay in range, it does not interrupt. Conditions: a byte is written; not the bit that asks. · A timer that may ask, or may not (q: it never asks). Conditions: a byte is written. -/
import Derived.Test.YtifajfjiloajfaaGreatDoorProg
import Derived.Below
import Derived.OwnWalk
import Derived.Laws.OwnMore
import Derived.Laws.Rows
import Derived.Deep.Draws
import Derived.WalkKit
import Derived.Tactics
import Derived.Lib.Hide
import Derived.Laws.BitsLemmas
import Derived.Laws.BitsAllLaws
import Derived.KernelRfl
import Derived.ChangeAlike
import Derived.RegionTactic
import Derived.Deep.QuietTactic
import Derived.BigQuiet
import Derived.Test.YtifajfjiloajfaaGreatDoorMKit
namespace Go.Proofs.YtifajfjiloajfaaGreatDoor.OwnTimer
open Go.RowKit

def Blk (w : World) (g : Nat) (t : TypeId) (cs : Array Value) : Prop := w.heap[g]? = some (.cells cs t (0, 0))

section
variable {w w' : World} {g : Nat} {t : TypeId} {cs : Array Value}
theorem Blk.lt (h : Blk w g t cs) : g < w.heap.size := by
  rcases Nat.lt_or_ge g w.heap.size with hlt | hge
  · exact hlt
  · unfold Blk at h; rw [Array.getElem?_eq_none hge] at h; cases h
theorem Blk.cell (h : Blk w g t cs) (i : Nat) : w.cell? ⟨g, i, none⟩ = cs[i]? := cell_of_row w g i cs t (0, 0) h
theorem Blk.frozen (h : Blk w g t cs) (i : Nat) : w.frozen? ⟨g, i, none⟩ = false := by
  unfold Blk at h
  simp [World.frozen?, h]
theorem Blk.new (w : World) (t : TypeId) (cs : Array Value) : Blk (w.alloc (.cells cs t)) w.heap.size t cs := heap_alloc_new w _
theorem Blk.drew (h : Blk w g t cs) : Blk w.drew g t cs := h
theorem Blk.drewN (h : Blk w g t cs) (n : Nat) : Blk (w.drewN n) g t cs := h
theorem Blk.alloc (h : Blk w g t cs) (o : Obj) : Blk (w.alloc o) g t cs := (Below.heap_alloc w o g h.lt).trans h
theorem Blk.set_ (h : Blk w g t cs) (i : Nat) (u : Value) : Blk (w.setCell ⟨g, i, none⟩ u) g t (cs.setIfInBounds i u) := by
  unfold Blk at h ⊢
  simp [World.setCell, Array.getElem?_modify, h]
theorem Blk.far (h : Blk w g t cs) {p : Addr} (hp : g ≠ p.block) (u : Value) : Blk (w.setCell p u) g t cs := (Below.heap_setCell w p u g hp).trans h
theorem Blk.below {B : Nat} (h : Blk w g t cs) (hb : Below B w w') (hg : g < B) : Blk w' g t cs := (hb.block g hg).trans h
theorem Blk.grown {row : Option Nat} (h : Blk w g t cs) (hb : w.grownBy w' row) (hg : some g ≠ row) : Blk w' g t cs := (hb.block g h.lt hg).trans h
end

def Tm (w : World) (g : Nat) (l c s : Int) : Prop := Blk w g 115 #[.int .u16 l, .int .u16 c, .int .u8 s]


theorem Tm.cells {w : World} {g : Nat} {l c s : Int} (h : Tm w g l c s) : (w.cell? ⟨g, 0, none⟩ = some (.int .u16 l) ∧ w.cell? ⟨g, 1, none⟩ = some (.int .u16 c) ∧ w.cell? ⟨g, 2, none⟩ = some (.int .u8 s)) ∧
    w.frozen? ⟨g, 0, none⟩ = false ∧ w.frozen? ⟨g, 1, none⟩ = false ∧ w.frozen? ⟨g, 2, none⟩ = false :=
  ⟨⟨(Blk.cell h 0).trans rfl, (Blk.cell h 1).trans rfl, (Blk.cell h 2).trans rfl⟩, Blk.frozen h 0, Blk.frozen h 1, Blk.frozen h 2⟩
theorem only_drewN {a w : World} {row : Option Nat} (h : a.grownBy w row) (n : Nat) : a.grownBy (w.drewN n) row := ⟨h.os, h.tape, h.output, h.size, h.block⟩
theorem only_drew {a w : World} {row : Option Nat} (h : a.grownBy w row) : a.grownBy w.drew row := ⟨h.os, h.tape, h.output, h.size, h.block⟩
theorem only_set {a w : World} {g i : Nat} (h : a.grownBy w (some g)) (u : Value) : a.grownBy (w.setCell ⟨g, i, none⟩ u) (some g) :=
  ⟨h.os, h.tape, h.output, by simpa [World.setCell] using h.size, fun k hk hne => (Below.heap_setCell w _ u k (by
    rintro rfl
    exact hne rfl)).trans (h.block k hk hne)⟩

-- (*Timer).Tick
set_option maxHeartbeats 800000 in
theorem tick_stops (g : Nat) (l c s : Int) (w : World) (h : Tm w g l c s) (hs : (Go.bits .and .u8 s 1 == 0) = true) :
    Calls Tryz.prog 41 #[.pointer (some ⟨g, 0, none⟩)] w fun e w' => e = .returned (.tuple #[]) ∧ Tm w' g l c s ∧ w.grownBy w' (some g) := by
  obtain ⟨⟨h0, h1, h2⟩, f0, f1, f2⟩ := h.cells
  go_enter Tryz.func41, Tryz.ntmps41
  go_wp2
  go_end0
  exact ⟨rfl, h, World.grownBy.refl _ _⟩
set_option maxHeartbeats 800000 in
theorem tick_over (g : Nat) (l c s : Int) (w : World) (h : Tm w g l c s) (hs : (Go.bits .and .u8 s 1 == 0) = false) (hc : (c == 0) = true) :
    Calls Tryz.prog 41 #[.pointer (some ⟨g, 0, none⟩)] w fun e w' => e = .returned (.tuple #[]) ∧ Tm w' g l l (Go.bits .or .u8 s 128) ∧ w.grownBy w' (some g) := by
  obtain ⟨⟨h0, h1, h2⟩, f0, f1, f2⟩ := h.cells
  go_enter Tryz.func41, Tryz.ntmps41
  go_wp2
  go_end0
  exact ⟨rfl, (h.set_ 1 _).set_ 2 _, only_set (only_set (World.grownBy.refl _ _) _) _⟩
set_option maxHeartbeats 800000 in
theorem tick_counts (g : Nat) (l c s : Int) (w : World) (h : Tm w g l c s) (hs : (Go.bits .and .u8 s 1 == 0) = false) (hc : (c == 0) = false) :
    Calls Tryz.prog 41 #[.pointer (some ⟨g, 0, none⟩)] w fun e w' => e = .returned (.tuple #[]) ∧ Tm w' g l (IntKind.u16.wrap (c - 1)) s ∧ w.grownBy w' (some g) := by
  obtain ⟨⟨h0, h1, h2⟩, f0, f1, f2⟩ := h.cells
  go_enter Tryz.func41, Tryz.ntmps41
  go_wp2
  go_end0
  exact ⟨rfl, h.set_ 1 _, only_set (World.grownBy.refl _ _) _⟩

-- (*Timer).Write
set_option maxHeartbeats 800000 in
theorem write_0 (g : Nat) (l c s v : Int) (w : World) (h : Tm w g l c s) (hv : 0 ≤ v ∧ v < 256) :
    Calls Tryz.prog 82 #[.pointer (some ⟨g, 0, none⟩), .int .i64 0, .int .u8 v] w fun e w' => e = .returned (.tuple #[]) ∧ Tm w' g (Go.bits .or .u16 (Go.bits .andNot .u16 l 255) v) c s ∧ w.grownBy w' (some g) := by
  obtain ⟨⟨h0, h1, h2⟩, f0, f1, f2⟩ := h.cells
  go_enter Tryz.func82, Tryz.ntmps82
  go_wp2
  go_end0
  exact ⟨rfl, h.set_ 0 _, only_set (World.grownBy.refl _ _) _⟩
set_option maxHeartbeats 800000 in
theorem write_1 (g : Nat) (l c s v : Int) (w : World) (h : Tm w g l c s) (hv : 0 ≤ v ∧ v < 256) :
    Calls Tryz.prog 82 #[.pointer (some ⟨g, 0, none⟩), .int .i64 1, .int .u8 v] w fun e w' => e = .returned (.tuple #[]) ∧ Tm w' g (Go.bits .or .u16 (Go.bits .and .u16 l 255) (v * 256)) (Go.bits .or .u16 (Go.bits .and .u16 l 255) (v * 256)) s ∧ w.grownBy w' (some g) := by
  obtain ⟨⟨h0, h1, h2⟩, f0, f1, f2⟩ := h.cells
  go_enter Tryz.func82, Tryz.ntmps82
  go_wp2
  go_end0
  exact ⟨rfl, (h.set_ 0 _).set_ 1 _, only_set (only_set (World.grownBy.refl _ _) _) _⟩
set_option maxHeartbeats 800000 in
theorem write_2 (g : Nat) (l c s v : Int) (w : World) (h : Tm w g l c s) :
    Calls Tryz.prog 82 #[.pointer (some ⟨g, 0, none⟩), .int .i64 2, .int .u8 v] w fun e w' => e = .returned (.tuple #[]) ∧ Tm w' g l c (Go.bits .or .u8 (Go.bits .and .u8 s 128) (Go.bits .and .u8 v 3)) ∧ w.grownBy w' (some g) := by
  obtain ⟨⟨h0, h1, h2⟩, f0, f1, f2⟩ := h.cells
  go_enter Tryz.func82, Tryz.ntmps82
  go_wp2
  go_end0
  exact ⟨rfl, h.set_ 2 _, only_set (World.grownBy.refl _ _) _⟩
set_option maxHeartbeats 800000 in
theorem write_3 (g : Nat) (l c s v r : Int) (w : World) (h : Tm w g l c s) (hr0 : (r == 0) = false) (hr1 : (r == 1) = false) (hr2 : (r == 2) = false) :
    Calls Tryz.prog 82 #[.pointer (some ⟨g, 0, none⟩), .int .i64 r, .int .u8 v] w fun e w' => e = .returned (.tuple #[]) ∧ Tm w' g l c s ∧ w.grownBy w' (some g) := by
  obtain ⟨⟨h0, h1, h2⟩, f0, f1, f2⟩ := h.cells
  go_enter Tryz.func82, Tryz.ntmps82
  go_wp2
  go_end0
  exact ⟨rfl, h, World.grownBy.refl _ _⟩

-- (*Timer).Read
set_option maxHeartbeats 800000 in
theorem read_0 (g : Nat) (l c s : Int) (w : World) (h : Tm w g l c s) :
    Calls Tryz.prog 89 #[.pointer (some ⟨g, 0, none⟩), .int .i64 0] w fun e w' => e = .returned (.int .u8 (c % 256)) ∧ Tm w' g l c s ∧ w.grownBy w' (some g) := by
  obtain ⟨⟨h0, h1, h2⟩, f0, f1, f2⟩ := h.cells
  go_enter Tryz.func89, Tryz.ntmps89
  go_wp2
  go_ret
  exact ⟨rfl, h, World.grownBy.refl _ _⟩
set_option maxHeartbeats 800000 in
theorem read_1 (g : Nat) (l c s : Int) (w : World) (h : Tm w g l c s) :
    Calls Tryz.prog 89 #[.pointer (some ⟨g, 0, none⟩), .int .i64 1] w fun e w' => e = .returned (.int .u8 (c / 256 % 256)) ∧ Tm w' g l c s ∧ w.grownBy w' (some g) := by
  obtain ⟨⟨h0, h1, h2⟩, f0, f1, f2⟩ := h.cells
  go_enter Tryz.func89, Tryz.ntmps89
  go_wp2
  go_ret
  exact ⟨rfl, h, World.grownBy.refl _ _⟩
set_option maxHeartbeats 800000 in
theorem read_2 (g : Nat) (l c s : Int) (w : World) (h : Tm w g l c s) :
    Calls Tryz.prog 89 #[.pointer (some ⟨g, 0, none⟩), .int .i64 2] w fun e w' => e = .returned (.int .u8 s) ∧ Tm w' g l c (Go.bits .andNot .u8 s 128) ∧ w.grownBy w' (some g) := by
  obtain ⟨⟨h0, h1, h2⟩, f0, f1, f2⟩ := h.cells
  go_enter Tryz.func89, Tryz.ntmps89
  go_wp2
  go_ret
  exact ⟨rfl, h.set_ 2 _, only_set (World.grownBy.refl _ _) _⟩
set_option maxHeartbeats 800000 in
theorem read_3 (g : Nat) (l c s r : Int) (w : World) (h : Tm w g l c s) (hr0 : (r == 0) = false) (hr1 : (r == 1) = false) (hr2 : (r == 2) = false) :
    Calls Tryz.prog 89 #[.pointer (some ⟨g, 0, none⟩), .int .i64 r] w fun e w' => e = .returned (.int .u8 0) ∧ Tm w' g l c s ∧ w.grownBy w' (some g) := by
  obtain ⟨⟨h0, h1, h2⟩, f0, f1, f2⟩ := h.cells
  go_enter Tryz.func89, Tryz.ntmps89
  go_wp2
  go_ret
  exact ⟨rfl, h, World.grownBy.refl _ _⟩

-- (*Timer).Irq
set_option maxHeartbeats 800000 in
theorem irq_off (g : Nat) (l c s : Int) (w : World) (h : Tm w g l c s) (ho : (Go.bits .and .u8 s 128 != 0) = false) :
    Calls Tryz.prog 40 #[.pointer (some ⟨g, 0, none⟩)] w fun e w' => e = .returned (.bool false) ∧ Tm w' g l c s ∧ w.grownBy w' (some g) := by
  obtain ⟨⟨h0, h1, h2⟩, f0, f1, f2⟩ := h.cells
  go_enter Tryz.func40, Tryz.ntmps40
  go_wp2
  go_ret
  exact ⟨rfl, h, World.grownBy.refl _ _⟩
set_option maxHeartbeats 800000 in
theorem irq_on (g : Nat) (l c s : Int) (w : World) (h : Tm w g l c s) (ho : (Go.bits .and .u8 s 128 != 0) = true) :
    Calls Tryz.prog 40 #[.pointer (some ⟨g, 0, none⟩)] w fun e w' => e = .returned (.bool (Go.bits .and .u8 s 2 != 0)) ∧ Tm w' g l c s ∧ w.grownBy w' (some g) := by
  obtain ⟨⟨h0, h1, h2⟩, f0, f1, f2⟩ := h.cells
  go_enter Tryz.func40, Tryz.ntmps40
  go_wp2
  go_ret
  exact ⟨rfl, h, World.grownBy.refl _ _⟩

theorem irq_yes (g : Nat) (l c s : Int) (w : World) (h : Tm w g l c s) (ho : (Go.bits .and .u8 s 128 != 0) = true) (ha : (Go.bits .and .u8 s 2 != 0) = true) :
    Calls Tryz.prog 40 #[.pointer (some ⟨g, 0, none⟩)] w fun e w' => e = .returned (.bool true) ∧ Tm w' g l c s ∧ w.grownBy w' (some g) := by
  rw [← ha]
  exact irq_on g l c s w h ho
-- New
set_option maxHeartbeats 800000 in
theorem new_any (w : World) :
    Calls Tryz.prog 27 #[] w fun e w' => e = .returned (.pointer (some ⟨w.heap.size, 0, none⟩)) ∧ Tm w' w.heap.size 0 0 0 ∧ Below w.heap.size w w' := by
  go_enter Tryz.func27, Tryz.ntmps27
  go_wp2
  go_ret
  exact ⟨rfl, Blk.new _ _ _, (Below.refl _ _).alloc (Nat.le_refl _) _⟩

-- (*Timer).Copy
-- the bytes of a latch
theorem lower_16 (l v : Int) (hl : 0 ≤ l ∧ l < 65536) (hv : 0 ≤ v ∧ v < 256) : Go.bits .or .u16 (Go.bits .andNot .u16 l 255) v = l / 256 * 256 + v := by
  obtain ⟨n, rfl⟩ := Int.eq_ofNat_of_zero_le hl.1
  have h1 : Go.bits .andNot .u16 (n : Int) 255 = ((n / 256 * 256 : Nat) : Int) := by
    have := u16_andNot_nat n 255 (by omega) (by omega)
    rw [show ((255 : Nat) : Int) = 255 from rfl] at this
    rw [this]
    congr 1
    apply Nat.eq_of_testBit_eq
    intro i
    rw [Nat.testBit_and, show 65535 - 255 = 255 * 2 ^ 8 from rfl, show n / 256 * 256 = n / 2 ^ 8 * 2 ^ 8 from rfl, Nat.testBit_mul_two_pow, Nat.testBit_mul_two_pow, Nat.testBit_div_two_pow]
    by_cases hi : 8 ≤ i
    · simp only [hi, decide_true, Bool.true_and]
      rw [Nat.sub_add_cancel hi]
      by_cases h16 : i < 16
      · have : Nat.testBit 255 (i - 8) = true := by
          have : ∀ j, j < 8 → Nat.testBit 255 j = true := by decide
          exact this _ (by omega)
        rw [this, Bool.and_true]
      · rw [Nat.testBit_lt_two_pow (Nat.lt_of_lt_of_le (by omega : n < 2 ^ 16) (Nat.pow_le_pow_right (by omega) (by omega)))]
        rfl
    · simp [hi]
  rw [h1]
  have := bits_join .u16 16 (by decide) (fun n h0 h1 => by rw [IntKind.wrap_u16]; omega) 8 ((n / 256 * 256 : Nat) : Int) v (by omega) (by omega) (by omega) hv.1 (by omega) (by omega)
  rw [this]
  omega
theorem upper_16 (l v : Int) (hl : 0 ≤ l ∧ l < 65536) (hv : 0 ≤ v ∧ v < 256) : Go.bits .or .u16 (Go.bits .and .u16 l 255) (v * 256) = v * 256 + l % 256 := by
  have h1 : Go.bits .and .u16 l 255 = l % 256 := bits_mask .u16 16 (by decide) (fun n h0 h1 => by rw [IntKind.wrap_u16]; omega) 8 (by decide) l hl.1 (by omega)
  rw [h1]
  obtain ⟨n, rfl⟩ := Int.eq_ofNat_of_zero_le hl.1
  obtain ⟨m, rfl⟩ := Int.eq_ofNat_of_zero_le hv.1
  have e := u16_or_nat (n % 256) (m * 256) (by omega) (by omega)
  rw [show ((n % 256 : Nat) : Int) = (n : Int) % 256 from by omega, show ((m * 256 : Nat) : Int) = (m : Int) * 256 from by omega] at e
  rw [e, Nat.or_comm, nat_join 8 _ _ (by omega) (by omega)]
  omega
theorem write_low (g : Nat) (l c s v : Int) (w : World) (h : Tm w g l c s) (hl : 0 ≤ l ∧ l < 65536) (hv : 0 ≤ v ∧ v < 256) :
    Calls Tryz.prog 82 #[.pointer (some ⟨g, 0, none⟩), .int .i64 0, .int .u8 v] w fun e w' => e = .returned (.tuple #[]) ∧ Tm w' g (l / 256 * 256 + v) c s ∧ w.grownBy w' (some g) := by
  rw [← lower_16 l v hl hv]
  exact write_0 g l c s v w h hv
theorem write_high (g : Nat) (l c s v : Int) (w : World) (h : Tm w g l c s) (hl : 0 ≤ l ∧ l < 65536) (hv : 0 ≤ v ∧ v < 256) :
    Calls Tryz.prog 82 #[.pointer (some ⟨g, 0, none⟩), .int .i64 1, .int .u8 v] w fun e w' => e = .returned (.tuple #[]) ∧ Tm w' g (v * 256 + l % 256) (v * 256 + l % 256) s ∧ w.grownBy w' (some g) := by
  rw [← upper_16 l v hl hv]
  exact write_1 g l c s v w h hv

-- set
def modeOf (r a : Bool) : Int := (if r then 1 else 0) + (if a then 2 else 0)
theorem below_own {B g : Nat} {a w w' : World} (h : Below B a w) (hg : w.grownBy w' (some g)) (hB : B ≤ w.heap.size) (hgB : B ≤ g) : Below B a w' :=
  h.grown hg hB (fun k hk => by injection hk with hk; omega)
-- awake
end Go.Proofs.YtifajfjiloajfaaGreatDoor.OwnTimer
namespace Go.Proofs.YtifajfjiloajfaaGreatDoor.OwnChip
open Go.RowKit Go.Proofs.YtifajfjiloajfaaGreatDoor.Own

def Tim (w : World) (g : Nat) : Prop := ∃ l c s, OwnTimer.Tm w g l c s ∧ (0 ≤ l ∧ l < 65536) ∧ (0 ≤ c ∧ c < 65536) ∧ By s ∧ (Go.bits .and .u8 s 2 != 0) = false
theorem u16_bits (op : BinOp) (x y : Int) : 0 ≤ Go.bits op .u16 x y ∧ Go.bits op .u16 x y < 65536 := by
  unfold Go.bits
  simp [IntKind.wrap, IntKind.bits, IntKind.signed]
  omega
theorem u16_wrap (n : Int) : 0 ≤ IntKind.u16.wrap n ∧ IntKind.u16.wrap n < 65536 := by
  simp [IntKind.wrap, IntKind.bits, IntKind.signed]
  omega
theorem Tim.lt {w : World} {g : Nat} (h : Tim w g) : g < w.heap.size := by
  obtain ⟨l, c, s, ht, -⟩ := h
  exact OwnTimer.Blk.lt ht
theorem Tim.kept {S : Nat → Prop} {w w' : World} {g : Nat} (h : Kept S w w') (hg : ¬ S g) (k : Tim w g) : Tim w' g := by
  obtain ⟨l, c, s, ht, hr⟩ := k
  exact ⟨l, c, s, (h.block g (OwnTimer.Blk.lt ht) hg).trans ht, hr⟩
theorem tim_new (w : World) :
    Calls Tryz.prog 27 #[] w fun e w' => e = .returned (.pointer (some ⟨w.heap.size, 0, none⟩)) ∧ Tim w' w.heap.size ∧ Below w.heap.size w w' :=
  (OwnTimer.new_any w).mono fun _ _ h => ⟨h.1, ⟨0, 0, 0, h.2.1, by omega, by omega, ⟨by omega, by omega⟩, by decide⟩, h.2.2⟩
theorem tim_tick (g : Nat) (w : World) (h : Tim w g) :
    Calls Tryz.prog 41 #[.pointer (some ⟨g, 0, none⟩)] w fun e w' => e = .returned (.tuple #[]) ∧ Tim w' g ∧ Kept (· = g) w w' := by
  obtain ⟨l, c, s, ht, hl, hc, hs, ha⟩ := h
  rcases h1 : (Go.bits .and .u8 s 1 == 0) with _ | _
  · rcases h2 : (c == 0) with _ | _
    · exact (OwnTimer.tick_counts g l c s w ht h1 h2).mono fun _ _ k => ⟨k.1, ⟨_, _, _, k.2.1, hl, u16_wrap _, hs, ha⟩, Kept.grown k.2.2 rfl⟩
    · exact (OwnTimer.tick_over g l c s w ht h1 h2).mono fun _ _ k => ⟨k.1, ⟨_, _, _, k.2.1, hl, hl, by_bits _ _ _, by
        have := byte_all (P := fun s => (Go.bits .and .u8 s 2 != 0) = false → (Go.bits .and .u8 (Go.bits .or .u8 s 128) 2 != 0) = false) (by decide +kernel) hs
        exact this ha⟩, Kept.grown k.2.2 rfl⟩
  · exact (OwnTimer.tick_stops g l c s w ht h1).mono fun _ _ k => ⟨k.1, ⟨_, _, _, k.2.1, hl, hc, hs, ha⟩, Kept.grown k.2.2 rfl⟩
theorem tim_irq (g : Nat) (w : World) (h : Tim w g) :
    Calls Tryz.prog 40 #[.pointer (some ⟨g, 0, none⟩)] w fun e w' => e = .returned (.bool false) ∧ Tim w' g ∧ Kept (· = g) w w' := by
  obtain ⟨l, c, s, ht, hl, hc, hs, ha⟩ := h
  rcases h1 : (Go.bits .and .u8 s 128 != 0) with _ | _
  · exact (OwnTimer.irq_off g l c s w ht h1).mono fun _ _ k => ⟨k.1, ⟨_, _, _, k.2.1, hl, hc, hs, ha⟩, Kept.grown k.2.2 rfl⟩
  · refine (OwnTimer.irq_on g l c s w ht h1).mono fun _ _ k => ?_
    rw [ha] at k
    exact ⟨k.1, ⟨_, _, _, k.2.1, hl, hc, hs, ha⟩, Kept.grown k.2.2 rfl⟩
theorem tim_read (g : Nat) (r : Int) (w : World) (h : Tim w g) :
    Calls Tryz.prog 89 #[.pointer (some ⟨g, 0, none⟩), .int .i64 r] w fun e w' => (∃ x, By x ∧ e = .returned (.int .u8 x)) ∧ Tim w' g ∧ Kept (· = g) w w' := by
  obtain ⟨l, c, s, ht, hl, hc, hs, ha⟩ := h
  by_cases h0 : r = 0
  · subst h0
    exact (OwnTimer.read_0 g l c s w ht).mono fun _ _ k => ⟨⟨_, ⟨by omega, by omega⟩, k.1⟩, ⟨_, _, _, k.2.1, hl, hc, hs, ha⟩, Kept.grown k.2.2 rfl⟩
  by_cases h1 : r = 1
  · subst h1
    exact (OwnTimer.read_1 g l c s w ht).mono fun _ _ k => ⟨⟨_, ⟨by omega, by omega⟩, k.1⟩, ⟨_, _, _, k.2.1, hl, hc, hs, ha⟩, Kept.grown k.2.2 rfl⟩
  by_cases h2 : r = 2
  · subst h2
    exact (OwnTimer.read_2 g l c s w ht).mono fun _ _ k => ⟨⟨_, hs, k.1⟩, ⟨_, _, _, k.2.1, hl, hc, by_bits _ _ _, by
      have := byte_all (P := fun s => (Go.bits .and .u8 s 2 != 0) = false → (Go.bits .and .u8 (Go.bits .andNot .u8 s 128) 2 != 0) = false) (by decide +kernel) hs
      exact this ha⟩, Kept.grown k.2.2 rfl⟩
  exact (OwnTimer.read_3 g l c s r w ht (by simp [h0]) (by simp [h1]) (by simp [h2])).mono fun _ _ k => ⟨⟨_, ⟨by omega, by omega⟩, k.1⟩, ⟨_, _, _, k.2.1, hl, hc, hs, ha⟩, Kept.grown k.2.2 rfl⟩
theorem asks_not {s v : Int} (hs : By s) (hv : By v) (h : (Go.bits .and .u8 v 2 == 2) = false) : (Go.bits .and .u8 (Go.bits .or .u8 (Go.bits .and .u8 s 128) (Go.bits .and .u8 v 3)) 2 != 0) = false := by
  have h1 := byte_all (P := fun s => Go.bits .and .u8 s 128 = 0 ∨ Go.bits .and .u8 s 128 = 128) (by decide +kernel) hs
  have h2 := byte_all (P := fun v => (Go.bits .and .u8 v 2 == 2) = false → Go.bits .and .u8 v 3 = 0 ∨ Go.bits .and .u8 v 3 = 1) (by decide +kernel) hv h
  rcases h1 with h1 | h1 <;> rcases h2 with h2 | h2 <;> rw [h1, h2] <;> decide
theorem tim_write (g : Nat) (r v : Int) (w : World) (h : Tim w g) (hv : By v) (hn : r = 2 → (Go.bits .and .u8 v 2 == 2) = false) :
    Calls Tryz.prog 82 #[.pointer (some ⟨g, 0, none⟩), .int .i64 r, .int .u8 v] w fun e w' => e = .returned (.tuple #[]) ∧ Tim w' g ∧ Kept (· = g) w w' := by
  obtain ⟨l, c, s, ht, hl, hc, hs, ha⟩ := h
  by_cases h0 : r = 0
  · subst h0
    exact (OwnTimer.write_0 g l c s v w ht hv).mono fun _ _ k => ⟨k.1, ⟨_, _, _, k.2.1, u16_bits _ _ _, hc, hs, ha⟩, Kept.grown k.2.2 rfl⟩
  by_cases h1 : r = 1
  · subst h1
    exact (OwnTimer.write_1 g l c s v w ht hv).mono fun _ _ k => ⟨k.1, ⟨_, _, _, k.2.1, u16_bits _ _ _, u16_bits _ _ _, hs, ha⟩, Kept.grown k.2.2 rfl⟩
  by_cases h2 : r = 2
  · subst h2
    exact (OwnTimer.write_2 g l c s v w ht).mono fun _ _ k => ⟨k.1, ⟨_, _, _, k.2.1, hl, hc, by_bits _ _ _, asks_not hs hv (hn rfl)⟩, Kept.grown k.2.2 rfl⟩
  exact (OwnTimer.write_3 g l c s v r w ht (by simp [h0]) (by simp [h1]) (by simp [h2])).mono fun _ _ k => ⟨k.1, ⟨_, _, _, k.2.1, hl, hc, hs, ha⟩, Kept.grown k.2.2 rfl⟩
end Go.Proofs.YtifajfjiloajfaaGreatDoor.OwnChip
namespace Go.Proofs.YtifajfjiloajfaaGreatDoor.OwnChip
open Go.RowKit Go.Proofs.YtifajfjiloajfaaGreatDoor.Own

def TimQ (q : Bool) (w : World) (g : Nat) : Prop := ∃ l c s, OwnTimer.Tm w g l c s ∧ (0 ≤ l ∧ l < 65536) ∧ (0 ≤ c ∧ c < 65536) ∧ By s ∧ (q = true → (Go.bits .and .u8 s 2 != 0) = false)
theorem TimQ.lt {q : Bool} {w : World} {g : Nat} (h : TimQ q w g) : g < w.heap.size := by
  obtain ⟨l, c, s, ht, -⟩ := h
  exact OwnTimer.Blk.lt ht
theorem TimQ.kept {q : Bool} {S : Nat → Prop} {w w' : World} {g : Nat} (h : Kept S w w') (hg : ¬ S g) (k : TimQ q w g) : TimQ q w' g := by
  obtain ⟨l, c, s, ht, hr⟩ := k
  exact ⟨l, c, s, (h.block g (OwnTimer.Blk.lt ht) hg).trans ht, hr⟩
theorem tq_new (w : World) :
    Calls Tryz.prog 27 #[] w fun e w' => e = .returned (.pointer (some ⟨w.heap.size, 0, none⟩)) ∧ TimQ true w' w.heap.size ∧ Below w.heap.size w w' :=
  (OwnTimer.new_any w).mono fun _ _ h => ⟨h.1, ⟨0, 0, 0, h.2.1, by omega, by omega, ⟨by omega, by omega⟩, fun _ => by decide⟩, h.2.2⟩
theorem tq_tick (q : Bool) (g : Nat) (w : World) (h : TimQ q w g) :
    Calls Tryz.prog 41 #[.pointer (some ⟨g, 0, none⟩)] w fun e w' => e = .returned (.tuple #[]) ∧ TimQ q w' g ∧ Kept (· = g) w w' := by
  obtain ⟨l, c, s, ht, hl, hc, hs, ha⟩ := h
  rcases h1 : (Go.bits .and .u8 s 1 == 0) with _ | _
  · rcases h2 : (c == 0) with _ | _
    · exact (OwnTimer.tick_counts g l c s w ht h1 h2).mono fun _ _ k => ⟨k.1, ⟨_, _, _, k.2.1, hl, u16_wrap _, hs, ha⟩, Kept.grown k.2.2 rfl⟩
    · exact (OwnTimer.tick_over g l c s w ht h1 h2).mono fun _ _ k => ⟨k.1, ⟨_, _, _, k.2.1, hl, hl, by_bits _ _ _, fun hq => by
        have := byte_all (P := fun s => (Go.bits .and .u8 s 2 != 0) = false → (Go.bits .and .u8 (Go.bits .or .u8 s 128) 2 != 0) = false) (by decide +kernel) hs
        exact this (ha hq)⟩, Kept.grown k.2.2 rfl⟩
  · exact (OwnTimer.tick_stops g l c s w ht h1).mono fun _ _ k => ⟨k.1, ⟨_, _, _, k.2.1, hl, hc, hs, ha⟩, Kept.grown k.2.2 rfl⟩
theorem tq_irq (q : Bool) (g : Nat) (w : World) (h : TimQ q w g) : ∃ b, (q = true → b = false) ∧
    Calls Tryz.prog 40 #[.pointer (some ⟨g, 0, none⟩)] w fun e w' => e = .returned (.bool b) ∧ w' = w := by
  obtain ⟨l, c, s, ht, hl, hc, hs, ha⟩ := h
  obtain ⟨⟨h0, h1, h2⟩, f0, f1, f2⟩ := ht.cells
  clear ht
  rcases ho : (Go.bits .and .u8 s 128 != 0) with _ | _
  · refine ⟨false, fun _ => rfl, ?_⟩
    clear ha
    go_enter Tryz.func40, Tryz.ntmps40
    go_wp2
    go_ret
    exact ⟨rfl, rfl⟩
  · refine ⟨(Go.bits .and .u8 s 2 != 0), ha, ?_⟩
    clear ha
    go_enter Tryz.func40, Tryz.ntmps40
    go_wp2
    go_ret
    exact ⟨rfl, rfl⟩
theorem tq_read (q : Bool) (g : Nat) (r : Int) (w : World) (h : TimQ q w g) :
    Calls Tryz.prog 89 #[.pointer (some ⟨g, 0, none⟩), .int .i64 r] w fun e w' => (∃ x, By x ∧ e = .returned (.int .u8 x)) ∧ TimQ q w' g ∧ Kept (· = g) w w' := by
  obtain ⟨l, c, s, ht, hl, hc, hs, ha⟩ := h
  by_cases h0 : r = 0
  · subst h0
    exact (OwnTimer.read_0 g l c s w ht).mono fun _ _ k => ⟨⟨_, ⟨by omega, by omega⟩, k.1⟩, ⟨_, _, _, k.2.1, hl, hc, hs, ha⟩, Kept.grown k.2.2 rfl⟩
  by_cases h1 : r = 1
  · subst h1
    exact (OwnTimer.read_1 g l c s w ht).mono fun _ _ k => ⟨⟨_, ⟨by omega, by omega⟩, k.1⟩, ⟨_, _, _, k.2.1, hl, hc, hs, ha⟩, Kept.grown k.2.2 rfl⟩
  by_cases h2 : r = 2
  · subst h2
    exact (OwnTimer.read_2 g l c s w ht).mono fun _ _ k => ⟨⟨_, hs, k.1⟩, ⟨_, _, _, k.2.1, hl, hc, by_bits _ _ _, fun hq => by
      have := byte_all (P := fun s => (Go.bits .and .u8 s 2 != 0) = false → (Go.bits .and .u8 (Go.bits .andNot .u8 s 128) 2 != 0) = false) (by decide +kernel) hs
      exact this (ha hq)⟩, Kept.grown k.2.2 rfl⟩
  exact (OwnTimer.read_3 g l c s r w ht (by simp [h0]) (by simp [h1]) (by simp [h2])).mono fun _ _ k => ⟨⟨_, ⟨by omega, by omega⟩, k.1⟩, ⟨_, _, _, k.2.1, hl, hc, hs, ha⟩, Kept.grown k.2.2 rfl⟩
theorem tq_write (q q' : Bool) (g : Nat) (r v : Int) (w : World) (h : TimQ q w g) (hv : By v) (hq : q' = true → q = true ∧ (r = 2 → (Go.bits .and .u8 v 2 == 2) = false)) :
    Calls Tryz.prog 82 #[.pointer (some ⟨g, 0, none⟩), .int .i64 r, .int .u8 v] w fun e w' => e = .returned (.tuple #[]) ∧ TimQ q' w' g ∧ Kept (· = g) w w' := by
  obtain ⟨l, c, s, ht, hl, hc, hs, ha⟩ := h
  have ha' : q' = true → (Go.bits .and .u8 s 2 != 0) = false := fun h => ha (hq h).1
  by_cases h0 : r = 0
  · subst h0
    exact (OwnTimer.write_0 g l c s v w ht hv).mono fun _ _ k => ⟨k.1, ⟨_, _, _, k.2.1, u16_bits _ _ _, hc, hs, ha'⟩, Kept.grown k.2.2 rfl⟩
  by_cases h1 : r = 1
  · subst h1
    exact (OwnTimer.write_1 g l c s v w ht hv).mono fun _ _ k => ⟨k.1, ⟨_, _, _, k.2.1, u16_bits _ _ _, u16_bits _ _ _, hs, ha'⟩, Kept.grown k.2.2 rfl⟩
  by_cases h2 : r = 2
  · subst h2
    exact (OwnTimer.write_2 g l c s v w ht).mono fun _ _ k => ⟨k.1, ⟨_, _, _, k.2.1, hl, hc, by_bits _ _ _, fun h => asks_not hs hv ((hq h).2 rfl)⟩, Kept.grown k.2.2 rfl⟩
  exact (OwnTimer.write_3 g l c s v r w ht (by simp [h0]) (by simp [h1]) (by simp [h2])).mono fun _ _ k => ⟨k.1, ⟨_, _, _, k.2.1, hl, hc, hs, ha'⟩, Kept.grown k.2.2 rfl⟩
end Go.Proofs.YtifajfjiloajfaaGreatDoor.OwnChip

/- Contracts of the timer (New, Write, Read, Tick, Irq, Copy), of the helper that sets one up, and of the example that each statement asks first. Conditions: a timer is a block of three cells; numbers in their ranges. -/
import Derived.Test.YtpplndcffojlfaaProg
import Derived.Below
import Derived.OwnWalk
import Derived.Laws.OwnMore
import Derived.Laws.Rows
import Derived.Deep.Draws
import Derived.WalkKit
import Derived.Tactics
import Derived.Lib.Hide
import Derived.Laws.BitsLemmas
import Derived.Laws.BitsAllLaws
import Derived.KernelRfl
import Derived.ChangeAlike
import Derived.RegionTactic
import Derived.Deep.QuietTactic
import Derived.BigQuiet
namespace Go.Proofs.Ytpplndcffojlfaa.Own
open Go.RowKit

def Blk (w : World) (g : Nat) (t : TypeId) (cs : Array Value) : Prop := w.heap[g]? = some (.cells cs t (0, 0))

section
variable {w w' : World} {g : Nat} {t : TypeId} {cs : Array Value}
theorem Blk.lt (h : Blk w g t cs) : g < w.heap.size := by
  rcases Nat.lt_or_ge g w.heap.size with hlt | hge
  · exact hlt
  · unfold Blk at h; rw [Array.getElem?_eq_none hge] at h; cases h
theorem Blk.cell (h : Blk w g t cs) (i : Nat) : w.cell? ⟨g, i, none⟩ = cs[i]? := cell_of_row w g i cs t (0, 0) h
theorem Blk.frozen (h : Blk w g t cs) (i : Nat) : w.frozen? ⟨g, i, none⟩ = false := by
  unfold Blk at h
  simp [World.frozen?, h]
theorem Blk.new (w : World) (t : TypeId) (cs : Array Value) : Blk (w.alloc (.cells cs t)) w.heap.size t cs := heap_alloc_new w _
theorem Blk.drew (h : Blk w g t cs) : Blk w.drew g t cs := h
theorem Blk.drewN (h : Blk w g t cs) (n : Nat) : Blk (w.drewN n) g t cs := h
theorem Blk.alloc (h : Blk w g t cs) (o : Obj) : Blk (w.alloc o) g t cs := (Below.heap_alloc w o g h.lt).trans h
theorem Blk.set_ (h : Blk w g t cs) (i : Nat) (u : Value) : Blk (w.setCell ⟨g, i, none⟩ u) g t (cs.setIfInBounds i u) := by
  unfold Blk at h ⊢
  simp [World.setCell, Array.getElem?_modify, h]
theorem Blk.far (h : Blk w g t cs) {p : Addr} (hp : g ≠ p.block) (u : Value) : Blk (w.setCell p u) g t cs := (Below.heap_setCell w p u g hp).trans h
theorem Blk.below {B : Nat} (h : Blk w g t cs) (hb : Below B w w') (hg : g < B) : Blk w' g t cs := (hb.block g hg).trans h
theorem Blk.grown {row : Option Nat} (h : Blk w g t cs) (hb : w.grownBy w' row) (hg : some g ≠ row) : Blk w' g t cs := (hb.block g h.lt hg).trans h
end

def Tm (w : World) (g : Nat) (l c s : Int) : Prop := Blk w g 43 #[.int .u16 l, .int .u16 c, .int .u8 s]


theorem Tm.cells {w : World} {g : Nat} {l c s : Int} (h : Tm w g l c s) : (w.cell? ⟨g, 0, none⟩ = some (.int .u16 l) ∧ w.cell? ⟨g, 1, none⟩ = some (.int .u16 c) ∧ w.cell? ⟨g, 2, none⟩ = some (.int .u8 s)) ∧
    w.frozen? ⟨g, 0, none⟩ = false ∧ w.frozen? ⟨g, 1, none⟩ = false ∧ w.frozen? ⟨g, 2, none⟩ = false :=
  ⟨⟨(Blk.cell h 0).trans rfl, (Blk.cell h 1).trans rfl, (Blk.cell h 2).trans rfl⟩, Blk.frozen h 0, Blk.frozen h 1, Blk.frozen h 2⟩
theorem only_drewN {a w : World} {row : Option Nat} (h : a.grownBy w row) (n : Nat) : a.grownBy (w.drewN n) row := ⟨h.os, h.tape, h.output, h.size, h.block⟩
theorem only_drew {a w : World} {row : Option Nat} (h : a.grownBy w row) : a.grownBy w.drew row := ⟨h.os, h.tape, h.output, h.size, h.block⟩
theorem only_set {a w : World} {g i : Nat} (h : a.grownBy w (some g)) (u : Value) : a.grownBy (w.setCell ⟨g, i, none⟩ u) (some g) :=
  ⟨h.os, h.tape, h.output, by simpa [World.setCell] using h.size, fun k hk hne => (Below.heap_setCell w _ u k (by
    rintro rfl
    exact hne rfl)).trans (h.block k hk hne)⟩

-- (*Timer).Tick
set_option maxHeartbeats 800000 in
theorem tick_stops (g : Nat) (l c s : Int) (w : World) (h : Tm w g l c s) (hs : (Go.bits .and .u8 s 1 == 0) = true) :
    Calls Try.prog 15 #[.pointer (some ⟨g, 0, none⟩)] w fun e w' => e = .returned (.tuple #[]) ∧ Tm w' g l c s ∧ w.grownBy w' (some g) := by
  obtain ⟨⟨h0, h1, h2⟩, f0, f1, f2⟩ := h.cells
  go_enter Try.func15, Try.ntmps15
  go_wp2
  go_end0
  exact ⟨rfl, h, World.grownBy.refl _ _⟩
set_option maxHeartbeats 800000 in
theorem tick_over (g : Nat) (l c s : Int) (w : World) (h : Tm w g l c s) (hs : (Go.bits .and .u8 s 1 == 0) = false) (hc : (c == 0) = true) :
    Calls Try.prog 15 #[.pointer (some ⟨g, 0, none⟩)] w fun e w' => e = .returned (.tuple #[]) ∧ Tm w' g l l (Go.bits .or .u8 s 128) ∧ w.grownBy w' (some g) := by
  obtain ⟨⟨h0, h1, h2⟩, f0, f1, f2⟩ := h.cells
  go_enter Try.func15, Try.ntmps15
  go_wp2
  go_end0
  exact ⟨rfl, (h.set_ 1 _).set_ 2 _, only_set (only_set (World.grownBy.refl _ _) _) _⟩
set_option maxHeartbeats 800000 in
theorem tick_counts (g : Nat) (l c s : Int) (w : World) (h : Tm w g l c s) (hs : (Go.bits .and .u8 s 1 == 0) = false) (hc : (c == 0) = false) :
    Calls Try.prog 15 #[.pointer (some ⟨g, 0, none⟩)] w fun e w' => e = .returned (.tuple #[]) ∧ Tm w' g l (IntKind.u16.wrap (c - 1)) s ∧ w.grownBy w' (some g) := by
  obtain ⟨⟨h0, h1, h2⟩, f0, f1, f2⟩ := h.cells
  go_enter Try.func15, Try.ntmps15
  go_wp2
  go_end0
  exact ⟨rfl, h.set_ 1 _, only_set (World.grownBy.refl _ _) _⟩

-- (*Timer).Write
set_option maxHeartbeats 800000 in
theorem write_0 (g : Nat) (l c s v : Int) (w : World) (h : Tm w g l c s) (hv : 0 ≤ v ∧ v < 256) :
    Calls Try.prog 11 #[.pointer (some ⟨g, 0, none⟩), .int .i64 0, .int .u8 v] w fun e w' => e = .returned (.tuple #[]) ∧ Tm w' g (Go.bits .or .u16 (Go.bits .andNot .u16 l 255) v) c s ∧ w.grownBy w' (some g) := by
  obtain ⟨⟨h0, h1, h2⟩, f0, f1, f2⟩ := h.cells
  go_enter Try.func11, Try.ntmps11
  go_wp2
  go_end0
  exact ⟨rfl, h.set_ 0 _, only_set (World.grownBy.refl _ _) _⟩
set_option maxHeartbeats 800000 in
theorem write_1 (g : Nat) (l c s v : Int) (w : World) (h : Tm w g l c s) (hv : 0 ≤ v ∧ v < 256) :
    Calls Try.prog 11 #[.pointer (some ⟨g, 0, none⟩), .int .i64 1, .int .u8 v] w fun e w' => e = .returned (.tuple #[]) ∧ Tm w' g (Go.bits .or .u16 (Go.bits .and .u16 l 255) (v * 256)) (Go.bits .or .u16 (Go.bits .and .u16 l 255) (v * 256)) s ∧ w.grownBy w' (some g) := by
  obtain ⟨⟨h0, h1, h2⟩, f0, f1, f2⟩ := h.cells
  go_enter Try.func11, Try.ntmps11
  go_wp2
  go_end0
  exact ⟨rfl, (h.set_ 0 _).set_ 1 _, only_set (only_set (World.grownBy.refl _ _) _) _⟩
set_option maxHeartbeats 800000 in
theorem write_2 (g : Nat) (l c s v : Int) (w : World) (h : Tm w g l c s) :
    Calls Try.prog 11 #[.pointer (some ⟨g, 0, none⟩), .int .i64 2, .int .u8 v] w fun e w' => e = .returned (.tuple #[]) ∧ Tm w' g l c (Go.bits .or .u8 (Go.bits .and .u8 s 128) (Go.bits .and .u8 v 3)) ∧ w.grownBy w' (some g) := by
  obtain ⟨⟨h0, h1, h2⟩, f0, f1, f2⟩ := h.cells
  go_enter Try.func11, Try.ntmps11
  go_wp2
  go_end0
  exact ⟨rfl, h.set_ 2 _, only_set (World.grownBy.refl _ _) _⟩
set_option maxHeartbeats 800000 in
theorem write_3 (g : Nat) (l c s v r : Int) (w : World) (h : Tm w g l c s) (hr0 : (r == 0) = false) (hr1 : (r == 1) = false) (hr2 : (r == 2) = false) :
    Calls Try.prog 11 #[.pointer (some ⟨g, 0, none⟩), .int .i64 r, .int .u8 v] w fun e w' => e = .returned (.tuple #[]) ∧ Tm w' g l c s ∧ w.grownBy w' (some g) := by
  obtain ⟨⟨h0, h1, h2⟩, f0, f1, f2⟩ := h.cells
  go_enter Try.func11, Try.ntmps11
  go_wp2
  go_end0
  exact ⟨rfl, h, World.grownBy.refl _ _⟩

-- (*Timer).Read
set_option maxHeartbeats 800000 in
theorem read_0 (g : Nat) (l c s : Int) (w : World) (h : Tm w g l c s) :
    Calls Try.prog 13 #[.pointer (some ⟨g, 0, none⟩), .int .i64 0] w fun e w' => e = .returned (.int .u8 (c % 256)) ∧ Tm w' g l c s ∧ w.grownBy w' (some g) := by
  obtain ⟨⟨h0, h1, h2⟩, f0, f1, f2⟩ := h.cells
  go_enter Try.func13, Try.ntmps13
  go_wp2
  go_ret
  exact ⟨rfl, h, World.grownBy.refl _ _⟩
set_option maxHeartbeats 800000 in
theorem read_1 (g : Nat) (l c s : Int) (w : World) (h : Tm w g l c s) :
    Calls Try.prog 13 #[.pointer (some ⟨g, 0, none⟩), .int .i64 1] w fun e w' => e = .returned (.int .u8 (c / 256 % 256)) ∧ Tm w' g l c s ∧ w.grownBy w' (some g) := by
  obtain ⟨⟨h0, h1, h2⟩, f0, f1, f2⟩ := h.cells
  go_enter Try.func13, Try.ntmps13
  go_wp2
  go_ret
  exact ⟨rfl, h, World.grownBy.refl _ _⟩
set_option maxHeartbeats 800000 in
theorem read_2 (g : Nat) (l c s : Int) (w : World) (h : Tm w g l c s) :
    Calls Try.prog 13 #[.pointer (some ⟨g, 0, none⟩), .int .i64 2] w fun e w' => e = .returned (.int .u8 s) ∧ Tm w' g l c (Go.bits .andNot .u8 s 128) ∧ w.grownBy w' (some g) := by
  obtain ⟨⟨h0, h1, h2⟩, f0, f1, f2⟩ := h.cells
  go_enter Try.func13, Try.ntmps13
  go_wp2
  go_ret
  exact ⟨rfl, h.set_ 2 _, only_set (World.grownBy.refl _ _) _⟩
set_option maxHeartbeats 800000 in
theorem read_3 (g : Nat) (l c s r : Int) (w : World) (h : Tm w g l c s) (hr0 : (r == 0) = false) (hr1 : (r == 1) = false) (hr2 : (r == 2) = false) :
    Calls Try.prog 13 #[.pointer (some ⟨g, 0, none⟩), .int .i64 r] w fun e w' => e = .returned (.int .u8 0) ∧ Tm w' g l c s ∧ w.grownBy w' (some g) := by
  obtain ⟨⟨h0, h1, h2⟩, f0, f1, f2⟩ := h.cells
  go_enter Try.func13, Try.ntmps13
  go_wp2
  go_ret
  exact ⟨rfl, h, World.grownBy.refl _ _⟩

-- (*Timer).Irq
set_option maxHeartbeats 800000 in
theorem irq_off (g : Nat) (l c s : Int) (w : World) (h : Tm w g l c s) (ho : (Go.bits .and .u8 s 128 != 0) = false) :
    Calls Try.prog 17 #[.pointer (some ⟨g, 0, none⟩)] w fun e w' => e = .returned (.bool false) ∧ Tm w' g l c s ∧ w.grownBy w' (some g) := by
  obtain ⟨⟨h0, h1, h2⟩, f0, f1, f2⟩ := h.cells
  go_enter Try.func17, Try.ntmps17
  go_wp2
  go_ret
  exact ⟨rfl, h, World.grownBy.refl _ _⟩
set_option maxHeartbeats 800000 in
theorem irq_on (g : Nat) (l c s : Int) (w : World) (h : Tm w g l c s) (ho : (Go.bits .and .u8 s 128 != 0) = true) :
    Calls Try.prog 17 #[.pointer (some ⟨g, 0, none⟩)] w fun e w' => e = .returned (.bool (Go.bits .and .u8 s 2 != 0)) ∧ Tm w' g l c s ∧ w.grownBy w' (some g) := by
  obtain ⟨⟨h0, h1, h2⟩, f0, f1, f2⟩ := h.cells
  go_enter Try.func17, Try.ntmps17
  go_wp2
  go_ret
  exact ⟨rfl, h, World.grownBy.refl _ _⟩

theorem irq_yes (g : Nat) (l c s : Int) (w : World) (h : Tm w g l c s) (ho : (Go.bits .and .u8 s 128 != 0) = true) (ha : (Go.bits .and .u8 s 2 != 0) = true) :
    Calls Try.prog 17 #[.pointer (some ⟨g, 0, none⟩)] w fun e w' => e = .returned (.bool true) ∧ Tm w' g l c s ∧ w.grownBy w' (some g) := by
  rw [← ha]
  exact irq_on g l c s w h ho
-- New
set_option maxHeartbeats 800000 in
theorem new_any (w : World) :
    Calls Try.prog 10 #[] w fun e w' => e = .returned (.pointer (some ⟨w.heap.size, 0, none⟩)) ∧ Tm w' w.heap.size 0 0 0 ∧ Below w.heap.size w w' := by
  go_enter Try.func10, Try.ntmps10
  go_wp2
  go_ret
  exact ⟨rfl, Blk.new _ _ _, (Below.refl _ _).alloc (Nat.le_refl _) _⟩

-- (*Timer).Copy
set_option maxHeartbeats 800000 in
theorem copy_any (g : Nat) (l c s : Int) (w : World) (h : Tm w g l c s) :
    Calls Try.prog 21 #[.pointer (some ⟨g, 0, none⟩)] w fun e w' => e = .returned (.pointer (some ⟨w.heap.size, 0, none⟩)) ∧ Tm w' w.heap.size l c s ∧ Below w.heap.size w w' := by
  obtain ⟨⟨h0, h1, h2⟩, f0, f1, f2⟩ := h.cells
  go_enter Try.func21, Try.ntmps21
  go_wp2
  go_ret
  exact ⟨rfl, Blk.new _ _ _, (Below.refl _ _).alloc (Nat.le_refl _) _⟩

-- the bytes of a latch
theorem lower_16 (l v : Int) (hl : 0 ≤ l ∧ l < 65536) (hv : 0 ≤ v ∧ v < 256) : Go.bits .or .u16 (Go.bits .andNot .u16 l 255) v = l / 256 * 256 + v := by
  obtain ⟨n, rfl⟩ := Int.eq_ofNat_of_zero_le hl.1
  have h1 : Go.bits .andNot .u16 (n : Int) 255 = ((n / 256 * 256 : Nat) : Int) := by
    have := u16_andNot_nat n 255 (by omega) (by omega)
    rw [show ((255 : Nat) : Int) = 255 from rfl] at this
    rw [this]
    congr 1
    apply Nat.eq_of_testBit_eq
    intro i
    rw [Nat.testBit_and, show 65535 - 255 = 255 * 2 ^ 8 from rfl, show n / 256 * 256 = n / 2 ^ 8 * 2 ^ 8 from rfl, Nat.testBit_mul_two_pow, Nat.testBit_mul_two_pow, Nat.testBit_div_two_pow]
    by_cases hi : 8 ≤ i
    · simp only [hi, decide_true, Bool.true_and]
      rw [Nat.sub_add_cancel hi]
      by_cases h16 : i < 16
      · have : Nat.testBit 255 (i - 8) = true := by
          have : ∀ j, j < 8 → Nat.testBit 255 j = true := by decide
          exact this _ (by omega)
        rw [this, Bool.and_true]
      · rw [Nat.testBit_lt_two_pow (Nat.lt_of_lt_of_le (by omega : n < 2 ^ 16) (Nat.pow_le_pow_right (by omega) (by omega)))]
        rfl
    · simp [hi]
  rw [h1]
  have := bits_join .u16 16 (by decide) (fun n h0 h1 => by rw [IntKind.wrap_u16]; omega) 8 ((n / 256 * 256 : Nat) : Int) v (by omega) (by omega) (by omega) hv.1 (by omega) (by omega)
  rw [this]
  omega
theorem upper_16 (l v : Int) (hl : 0 ≤ l ∧ l < 65536) (hv : 0 ≤ v ∧ v < 256) : Go.bits .or .u16 (Go.bits .and .u16 l 255) (v * 256) = v * 256 + l % 256 := by
  have h1 : Go.bits .and .u16 l 255 = l % 256 := bits_mask .u16 16 (by decide) (fun n h0 h1 => by rw [IntKind.wrap_u16]; omega) 8 (by decide) l hl.1 (by omega)
  rw [h1]
  obtain ⟨n, rfl⟩ := Int.eq_ofNat_of_zero_le hl.1
  obtain ⟨m, rfl⟩ := Int.eq_ofNat_of_zero_le hv.1
  have e := u16_or_nat (n % 256) (m * 256) (by omega) (by omega)
  rw [show ((n % 256 : Nat) : Int) = (n : Int) % 256 from by omega, show ((m * 256 : Nat) : Int) = (m : Int) * 256 from by omega] at e
  rw [e, Nat.or_comm, nat_join 8 _ _ (by omega) (by omega)]
  omega
theorem write_low (g : Nat) (l c s v : Int) (w : World) (h : Tm w g l c s) (hl : 0 ≤ l ∧ l < 65536) (hv : 0 ≤ v ∧ v < 256) :
    Calls Try.prog 11 #[.pointer (some ⟨g, 0, none⟩), .int .i64 0, .int .u8 v] w fun e w' => e = .returned (.tuple #[]) ∧ Tm w' g (l / 256 * 256 + v) c s ∧ w.grownBy w' (some g) := by
  rw [← lower_16 l v hl hv]
  exact write_0 g l c s v w h hv
theorem write_high (g : Nat) (l c s v : Int) (w : World) (h : Tm w g l c s) (hl : 0 ≤ l ∧ l < 65536) (hv : 0 ≤ v ∧ v < 256) :
    Calls Try.prog 11 #[.pointer (some ⟨g, 0, none⟩), .int .i64 1, .int .u8 v] w fun e w' => e = .returned (.tuple #[]) ∧ Tm w' g (v * 256 + l % 256) (v * 256 + l % 256) s ∧ w.grownBy w' (some g) := by
  rw [← upper_16 l v hl hv]
  exact write_1 g l c s v w h hv

-- set
def modeOf (r a : Bool) : Int := (if r then 1 else 0) + (if a then 2 else 0)
theorem below_own {B g : Nat} {a w w' : World} (h : Below B a w) (hg : w.grownBy w' (some g)) (hB : B ≤ w.heap.size) (hgB : B ≤ g) : Below B a w' :=
  h.grown hg hB (fun k hk => by injection hk with hk; omega)
set_option maxHeartbeats 2000000 in
theorem set_any (n : Int) (r a : Bool) (w : World) (hn : 0 ≤ n ∧ n < 65536) :
    Calls Try.prog 19 #[.int .i64 n, .bool r, .bool a] w fun e w' => e = .returned (.pointer (some ⟨w.heap.size, 0, none⟩)) ∧ Tm w' w.heap.size n n (modeOf r a) ∧ Below w.heap.size w w' := by
  obtain ⟨h0, h1⟩ := hn
  cases r <;> cases a
  all_goals
    go_enter Try.func19, Try.ntmps19
    go_wp2_with fail
    go_at_call 10
    refine (new_any _).mono ?_
    rintro e w1 ⟨rfl, ht1, hb1⟩
    go_wp2_with fail
    go_at_call 11
    refine (write_low _ _ _ _ _ _ ht1 (by omega) (by omega)).mono ?_
    rintro e w2 ⟨rfl, ht2, hg2⟩
    go_wp2_with fail
    go_at_call 11
    refine (write_high _ _ _ _ _ _ ht2 (by omega) (by omega)).mono ?_
    rintro e w3 ⟨rfl, ht3, hg3⟩
    go_wp2_with fail
    go_at_call 11
    refine (write_2 _ _ _ _ _ _ ht3).mono ?_
    rintro e w4 ⟨rfl, ht4, hg4⟩
    go_wp2
    go_ret
    have hb2 := below_own hb1 hg2 hb1.size (Nat.le_refl _)
    have hb3 := below_own hb2 hg3 hb2.size (Nat.le_refl _)
    have hb4 := below_own hb3 hg4 hb3.size (Nat.le_refl _)
    refine ⟨rfl, ?_, hb4⟩
    have e1 : n / 256 * 256 + (0 / 256 * 256 + n % 256) % 256 = n := by omega
    rw [e1] at ht4
    exact ht4

-- awake
set_option maxHeartbeats 2000000 in
theorem awake_any (w : World) : Calls Try.prog 9 #[] w fun e w' => e = .returned (.bool true) ∧ Below w.heap.size w w' := by
  go_enter Try.func9, Try.ntmps9
  go_wp2_with fail
  go_at_call 19
  refine (set_any 2 true true _ (by omega)).mono ?_
  rintro e w1 ⟨rfl, ht1, hb1⟩
  go_wp2_with fail
  go_at_call 15
  refine (tick_counts _ _ _ _ _ ht1 rfl rfl).mono ?_
  rintro e w2 ⟨rfl, ht2, hg2⟩
  go_wp2_with fail
  go_at_call 15
  refine (tick_counts _ _ _ _ _ ht2 rfl rfl).mono ?_
  rintro e w3 ⟨rfl, ht3, hg3⟩
  go_wp2_with fail
  go_at_call 17
  refine (irq_off _ _ _ _ _ ht3 rfl).mono ?_
  rintro e w4 ⟨rfl, ht4, hg4⟩
  go_wp2_with fail
  go_at_call 15
  refine (tick_over _ _ _ _ _ ht4 rfl rfl).mono ?_
  rintro e w5 ⟨rfl, ht5, hg5⟩
  go_wp2_with fail
  go_at_call 17
  refine (irq_yes _ _ _ _ _ ht5 rfl rfl).mono ?_
  rintro e w6 ⟨rfl, ht6, hg6⟩
  go_wp2_with fail
  go_at_call 13
  refine (read_2 _ _ _ _ _ ht6).mono ?_
  rintro e w7 ⟨rfl, ht7, hg7⟩
  have e7 : Go.bits .or .u8 (modeOf true true) 128 = 131 := rfl
  rw [e7]
  go_wp2_with fail
  go_at_call 17
  refine (irq_off _ _ _ _ _ ht7 rfl).mono ?_
  rintro e w8 ⟨rfl, ht8, hg8⟩
  go_wp2_with fail
  go_at_call 13
  refine (read_0 _ _ _ _ _ ht8).mono ?_
  rintro e w9 ⟨rfl, ht9, hg9⟩
  go_wp2
  go_ret
  have hb2 := below_own hb1 hg2 hb1.size (Nat.le_refl _)
  have hb3 := below_own hb2 hg3 hb2.size (Nat.le_refl _)
  have hb4 := below_own hb3 hg4 hb3.size (Nat.le_refl _)
  have hb5 := below_own hb4 hg5 hb4.size (Nat.le_refl _)
  have hb6 := below_own hb5 hg6 hb5.size (Nat.le_refl _)
  have hb7 := below_own hb6 hg7 hb6.size (Nat.le_refl _)
  have hb8 := below_own hb7 hg8 hb7.size (Nat.le_refl _)
  have hb9 := below_own hb8 hg9 hb8.size (Nat.le_refl _)
  exact ⟨rfl, hb9⟩
end Go.Proofs.Ytpplndcffojlfaa.Own

/- Contracts of the timer and of the document's timer over one state: the same state turns alike in both. Conditions: a state's numbers in their ranges. -/
import Derived.Test.YtpplndcffojlfaaStops
namespace Go.Proofs.Ytpplndcffojlfaa.Own
open Go.RowKit

structure St where
  lo : Int
  hi : Int
  c : Int
  r : Bool
  a : Bool
  o : Bool
def St.ok (S : St) : Prop := (0 ≤ S.lo ∧ S.lo < 256) ∧ (0 ≤ S.hi ∧ S.hi < 256) ∧ (0 ≤ S.c ∧ S.c < 65536)
def stOf (r a o : Bool) : Int := (if r then 1 else 0) + (if a then 2 else 0) + (if o then 128 else 0)
def odd (v : Int) : Bool := v % 2 == 1
def St.write (S : St) (reg v : Int) : St :=
  if reg = 0 then { S with lo := v } else if reg = 1 then { S with hi := v, c := 256 * v + S.lo } else if reg = 2 then { S with r := odd v, a := odd (v / 2) } else S
def St.read (S : St) (reg : Int) : Int := if reg = 0 then S.c % 256 else if reg = 1 then S.c / 256 else if reg = 2 then stOf S.r S.a S.o else 0
def St.readTo (S : St) (reg : Int) : St := if reg = 2 then { S with o := false } else S
def St.tick (S : St) : St := if S.r then (if 0 < S.c then { S with c := S.c - 1 } else { S with c := 256 * S.hi + S.lo, o := true }) else S
def St.irq (S : St) : Bool := S.o && S.a

theorem St.ok_write {S : St} (h : S.ok) (reg v : Int) (hv : 0 ≤ v ∧ v < 256) : (S.write reg v).ok := by
  obtain ⟨h1, h2, h3⟩ := h
  unfold St.write
  split
  · exact ⟨hv, h2, h3⟩
  · split
    · exact ⟨h1, hv, by show 0 ≤ 256 * v + S.lo ∧ 256 * v + S.lo < 65536; omega⟩
    · split
      · exact ⟨h1, h2, h3⟩
      · exact ⟨h1, h2, h3⟩
theorem St.ok_readTo {S : St} (h : S.ok) (reg : Int) : (S.readTo reg).ok := by
  obtain ⟨h1, h2, h3⟩ := h
  unfold St.readTo
  split <;> exact ⟨h1, h2, h3⟩
theorem St.ok_tick {S : St} (h : S.ok) : S.tick.ok := by
  obtain ⟨h1, h2, h3⟩ := h
  unfold St.tick
  split
  · split
    · exact ⟨h1, h2, by show 0 ≤ S.c - 1 ∧ S.c - 1 < 65536; omega⟩
    · exact ⟨h1, h2, by show 0 ≤ 256 * S.hi + S.lo ∧ 256 * S.hi + S.lo < 65536; omega⟩
  · exact ⟨h1, h2, h3⟩

def TS (w : World) (g : Nat) (S : St) : Prop := Tm w g (256 * S.hi + S.lo) S.c (stOf S.r S.a S.o)
def RS (w : World) (g : Nat) (S : St) : Prop := Blk w g 28 #[.int .i64 S.lo, .int .i64 S.hi, .int .i64 S.c, .bool S.r, .bool S.a, .bool S.o]

theorem mode_bits (v : Int) (hv : 0 ≤ v ∧ v < 256) (r a o : Bool) : Go.bits .or .u8 (Go.bits .and .u8 (stOf r a o) 128) (Go.bits .and .u8 v 3) = stOf (odd v) (odd (v / 2)) o := by
  obtain ⟨n, rfl⟩ := Int.eq_ofNat_of_zero_le hv.1
  have hn : n < 256 := by omega
  have key : ∀ (m : Fin 256) (r a o : Bool), Go.bits .or .u8 (Go.bits .and .u8 (stOf r a o) 128) (Go.bits .and .u8 ((m.val : Nat) : Int) 3) = stOf (odd (m.val : Nat)) (odd (((m.val : Nat) : Int) / 2)) o := by decide +kernel
  exact key ⟨n, hn⟩ r a o
theorem over_bits (r a o : Bool) : Go.bits .andNot .u8 (stOf r a o) 128 = stOf r a false := by revert r a o; decide +kernel
theorem or_bits (r a o : Bool) : Go.bits .or .u8 (stOf r a o) 128 = stOf r a true := by revert r a o; decide +kernel
theorem run_bits (r a o : Bool) : (Go.bits .and .u8 (stOf r a o) 1 == 0) = !r := by revert r a o; decide +kernel
theorem irq_bits (r a o : Bool) : (Go.bits .and .u8 (stOf r a o) 128 != 0) = o := by revert r a o; decide +kernel
theorem ask_bits (r a o : Bool) : (Go.bits .and .u8 (stOf r a o) 2 != 0) = a := by revert r a o; decide +kernel
theorem st_bounds (r a o : Bool) : 0 ≤ stOf r a o ∧ stOf r a o < 256 := by revert r a o; decide +kernel

section
variable (g : Nat) (S : St) (w : World)
theorem t_write (reg v : Int) (h : TS w g S) (hS : S.ok) (hv : 0 ≤ v ∧ v < 256) :
    Calls Try.prog 11 #[.pointer (some ⟨g, 0, none⟩), .int .i64 reg, .int .u8 v] w fun e w' => e = .returned (.tuple #[]) ∧ TS w' g (S.write reg v) ∧ w.grownBy w' (some g) := by
  obtain ⟨h1, h2, h3⟩ := hS
  by_cases h0 : reg = 0
  · subst h0
    refine (write_low g _ _ _ v w h (by omega) hv).mono ?_
    rintro e w' ⟨he, ht, hg⟩
    refine ⟨he, ?_, hg⟩
    rw [show (256 * S.hi + S.lo) / 256 * 256 + v = 256 * S.hi + v from by omega] at ht
    exact ht
  by_cases h1' : reg = 1
  · subst h1'
    refine (write_high g _ _ _ v w h (by omega) hv).mono ?_
    rintro e w' ⟨he, ht, hg⟩
    refine ⟨he, ?_, hg⟩
    rw [show v * 256 + (256 * S.hi + S.lo) % 256 = 256 * v + S.lo from by omega] at ht
    exact ht
  by_cases h2' : reg = 2
  · subst h2'
    refine (write_2 g _ _ _ v w h).mono ?_
    rintro e w' ⟨he, ht, hg⟩
    refine ⟨he, ?_, hg⟩
    rw [mode_bits v hv] at ht
    exact ht
  · refine (write_3 g _ _ _ v reg w h (by simpa using h0) (by simpa using h1') (by simpa using h2')).mono ?_
    rintro e w' ⟨he, ht, hg⟩
    refine ⟨he, ?_, hg⟩
    unfold St.write
    rw [if_neg h0, if_neg h1', if_neg h2']
    exact ht
theorem t_read (reg : Int) (h : TS w g S) (hS : S.ok) :
    Calls Try.prog 13 #[.pointer (some ⟨g, 0, none⟩), .int .i64 reg] w fun e w' => e = .returned (.int .u8 (S.read reg)) ∧ TS w' g (S.readTo reg) ∧ w.grownBy w' (some g) := by
  obtain ⟨h1, h2, h3⟩ := hS
  by_cases h0 : reg = 0
  · subst h0
    exact read_0 g _ _ _ w h
  by_cases h1' : reg = 1
  · subst h1'
    exact read_top g _ _ _ w h h3
  by_cases h2' : reg = 2
  · subst h2'
    refine (read_2 g _ _ _ w h).mono ?_
    rintro e w' ⟨he, ht, hg⟩
    refine ⟨he, ?_, hg⟩
    rw [over_bits] at ht
    exact ht
  · refine (read_3 g _ _ _ reg w h (by simpa using h0) (by simpa using h1') (by simpa using h2')).mono ?_
    rintro e w' ⟨he, ht, hg⟩
    unfold St.read St.readTo
    rw [if_neg h0, if_neg h1', if_neg h2', if_neg h2']
    exact ⟨he, ht, hg⟩
theorem t_tick (h : TS w g S) (hS : S.ok) :
    Calls Try.prog 15 #[.pointer (some ⟨g, 0, none⟩)] w fun e w' => e = .returned (.tuple #[]) ∧ TS w' g S.tick ∧ w.grownBy w' (some g) := by
  obtain ⟨h1, h2, h3⟩ := hS
  unfold St.tick
  by_cases hr : S.r = true
  · rw [if_pos hr]
    by_cases hc : 0 < S.c
    · rw [if_pos hc]
      refine (tick_counts g _ _ _ w h (by rw [run_bits, hr]; rfl) (by simp; omega)).mono ?_
      rintro e w' ⟨he, ht, hg⟩
      refine ⟨he, ?_, hg⟩
      rw [show IntKind.u16.wrap (S.c - 1) = S.c - 1 from by rw [IntKind.wrap_u16]; omega] at ht
      exact ht
    · rw [if_neg hc]
      refine (tick_over g _ _ _ w h (by rw [run_bits, hr]; rfl) (by simp; omega)).mono ?_
      rintro e w' ⟨he, ht, hg⟩
      refine ⟨he, ?_, hg⟩
      rw [or_bits] at ht
      exact ht
  · rw [if_neg hr]
    exact tick_stops g _ _ _ w h (by rw [run_bits]; simpa using hr)
theorem t_irq (h : TS w g S) :
    Calls Try.prog 17 #[.pointer (some ⟨g, 0, none⟩)] w fun e w' => e = .returned (.bool S.irq) ∧ TS w' g S ∧ w.grownBy w' (some g) := by
  unfold St.irq
  by_cases ho : S.o = true
  · refine (irq_on g _ _ _ w h (by rw [irq_bits]; exact ho)).mono ?_
    rintro e w' ⟨he, ht, hg⟩
    rw [ask_bits] at he
    exact ⟨by rw [he, ho]; rfl, ht, hg⟩
  · refine (irq_off g _ _ _ w h (by rw [irq_bits]; simpa using ho)).mono ?_
    rintro e w' ⟨he, ht, hg⟩
    exact ⟨by rw [he, show S.o = false from by simpa using ho]; rfl, ht, hg⟩
end

theorem RS.cells {w : World} {g : Nat} {S : St} (h : RS w g S) : ((w.cell? ⟨g, 0, none⟩ = some (.int .i64 S.lo) ∧ w.cell? ⟨g, 1, none⟩ = some (.int .i64 S.hi) ∧ w.cell? ⟨g, 2, none⟩ = some (.int .i64 S.c)) ∧
    w.cell? ⟨g, 3, none⟩ = some (.bool S.r) ∧ w.cell? ⟨g, 4, none⟩ = some (.bool S.a) ∧ w.cell? ⟨g, 5, none⟩ = some (.bool S.o)) ∧
    (w.frozen? ⟨g, 0, none⟩ = false ∧ w.frozen? ⟨g, 1, none⟩ = false ∧ w.frozen? ⟨g, 2, none⟩ = false) ∧ w.frozen? ⟨g, 3, none⟩ = false ∧ w.frozen? ⟨g, 4, none⟩ = false ∧ w.frozen? ⟨g, 5, none⟩ = false :=
  ⟨⟨⟨(Blk.cell h 0).trans rfl, (Blk.cell h 1).trans rfl, (Blk.cell h 2).trans rfl⟩, (Blk.cell h 3).trans rfl, (Blk.cell h 4).trans rfl, (Blk.cell h 5).trans rfl⟩,
   ⟨Blk.frozen h 0, Blk.frozen h 1, Blk.frozen h 2⟩, Blk.frozen h 3, Blk.frozen h 4, Blk.frozen h 5⟩

section
variable (g : Nat) (lo hi c : Int) (r a o : Bool) (w : World)
set_option maxHeartbeats 1600000 in
theorem r_write_0 (v : Int) (h : RS w g ⟨lo, hi, c, r, a, o⟩) (hv : 0 ≤ v ∧ v < 256) :
    Calls Try.prog 12 #[.pointer (some ⟨g, 0, none⟩), .int .i64 0, .int .u8 v] w fun e w' => e = .returned (.tuple #[]) ∧ RS w' g ⟨v, hi, c, r, a, o⟩ ∧ w.grownBy w' (some g) := by
  obtain ⟨⟨⟨h0, h1, h2⟩, h3, h4, h5⟩, ⟨f0, f1, f2⟩, f3, f4, f5⟩ := h.cells
  obtain ⟨hv0, hv1⟩ := hv
  go_enter Try.func12, Try.ntmps12
  go_wp2
  go_end0
  exact ⟨rfl, h.set_ 0 _, only_set (World.grownBy.refl _ _) _⟩
set_option maxHeartbeats 1600000 in
theorem r_write_1 (v : Int) (h : RS w g ⟨lo, hi, c, r, a, o⟩) (hv : 0 ≤ v ∧ v < 256) (hlo : 0 ≤ lo ∧ lo < 256) :
    Calls Try.prog 12 #[.pointer (some ⟨g, 0, none⟩), .int .i64 1, .int .u8 v] w fun e w' => e = .returned (.tuple #[]) ∧ RS w' g ⟨lo, v, 256 * v + lo, r, a, o⟩ ∧ w.grownBy w' (some g) := by
  obtain ⟨⟨⟨h0, h1, h2⟩, h3, h4, h5⟩, ⟨f0, f1, f2⟩, f3, f4, f5⟩ := h.cells
  obtain ⟨hv0, hv1⟩ := hv
  obtain ⟨hl0, hl1⟩ := hlo
  go_enter Try.func12, Try.ntmps12
  go_wp2
  go_region
  all_goals
    go_wp2
    go_end0
    exact ⟨rfl, (h.set_ 1 _).set_ 2 _, only_drew (only_set (only_set (World.grownBy.refl _ _) _) _)⟩
set_option maxHeartbeats 1600000 in
theorem r_write_2 (v : Int) (h : RS w g ⟨lo, hi, c, r, a, o⟩) (hv : 0 ≤ v ∧ v < 256) :
    Calls Try.prog 12 #[.pointer (some ⟨g, 0, none⟩), .int .i64 2, .int .u8 v] w fun e w' => e = .returned (.tuple #[]) ∧ RS w' g ⟨lo, hi, c, odd v, odd (v / 2), o⟩ ∧ w.grownBy w' (some g) := by
  obtain ⟨⟨⟨h0, h1, h2⟩, h3, h4, h5⟩, ⟨f0, f1, f2⟩, f3, f4, f5⟩ := h.cells
  obtain ⟨hv0, hv1⟩ := hv
  go_enter Try.func12, Try.ntmps12
  go_wp2
  go_end0
  exact ⟨rfl, (h.set_ 3 _).set_ 4 _, only_set (only_set (World.grownBy.refl _ _) _) _⟩
set_option maxHeartbeats 1600000 in
theorem r_write_3 (v reg : Int) (h : RS w g ⟨lo, hi, c, r, a, o⟩) (hr0 : (reg == 0) = false) (hr1 : (reg == 1) = false) (hr2 : (reg == 2) = false) :
    Calls Try.prog 12 #[.pointer (some ⟨g, 0, none⟩), .int .i64 reg, .int .u8 v] w fun e w' => e = .returned (.tuple #[]) ∧ RS w' g ⟨lo, hi, c, r, a, o⟩ ∧ w.grownBy w' (some g) := by
  go_enter Try.func12, Try.ntmps12
  go_wp2
  go_end0
  exact ⟨rfl, h, World.grownBy.refl _ _⟩
set_option maxHeartbeats 1600000 in
theorem r_read_0 (h : RS w g ⟨lo, hi, c, r, a, o⟩) (hc : 0 ≤ c ∧ c < 65536) :
    Calls Try.prog 14 #[.pointer (some ⟨g, 0, none⟩), .int .i64 0] w fun e w' => e = .returned (.int .u8 (c % 256)) ∧ RS w' g ⟨lo, hi, c, r, a, o⟩ ∧ w.grownBy w' (some g) := by
  obtain ⟨⟨⟨h0, h1, h2⟩, h3, h4, h5⟩, ⟨f0, f1, f2⟩, f3, f4, f5⟩ := h.cells
  obtain ⟨hc0, hc1⟩ := hc
  go_enter Try.func14, Try.ntmps14
  go_wp2
  go_ret
  exact ⟨by first | rfl | simp, h, World.grownBy.refl _ _⟩
set_option maxHeartbeats 1600000 in
theorem r_read_1 (h : RS w g ⟨lo, hi, c, r, a, o⟩) (hc : 0 ≤ c ∧ c < 65536) :
    Calls Try.prog 14 #[.pointer (some ⟨g, 0, none⟩), .int .i64 1] w fun e w' => e = .returned (.int .u8 (c / 256)) ∧ RS w' g ⟨lo, hi, c, r, a, o⟩ ∧ w.grownBy w' (some g) := by
  obtain ⟨⟨⟨h0, h1, h2⟩, h3, h4, h5⟩, ⟨f0, f1, f2⟩, f3, f4, f5⟩ := h.cells
  obtain ⟨hc0, hc1⟩ := hc
  go_enter Try.func14, Try.ntmps14
  go_wp2
  go_ret
  exact ⟨by first | rfl | (rw [show c / 256 % 256 = c / 256 from by omega]), h, World.grownBy.refl _ _⟩
end
set_option maxHeartbeats 4000000 in
theorem r_read_2 (g : Nat) (lo hi c : Int) (r a o : Bool) (w : World) (h : RS w g ⟨lo, hi, c, r, a, o⟩) :
    Calls Try.prog 14 #[.pointer (some ⟨g, 0, none⟩), .int .i64 2] w fun e w' => e = .returned (.int .u8 (stOf r a o)) ∧ RS w' g ⟨lo, hi, c, r, a, false⟩ ∧ w.grownBy w' (some g) := by
  cases r <;> cases a <;> cases o
  all_goals
    obtain ⟨⟨⟨h0, h1, h2⟩, h3, h4, h5⟩, ⟨f0, f1, f2⟩, f3, f4, f5⟩ := h.cells
    go_enter Try.func14, Try.ntmps14
    go_wp2
    go_ret
    exact ⟨rfl, h.set_ 5 _, only_set (World.grownBy.refl _ _) _⟩
section
variable (g : Nat) (lo hi c : Int) (r a o : Bool) (w : World)
set_option maxHeartbeats 1600000 in
theorem r_read_3 (reg : Int) (h : RS w g ⟨lo, hi, c, r, a, o⟩) (hr0 : (reg == 0) = false) (hr1 : (reg == 1) = false) (hr2 : (reg == 2) = false) :
    Calls Try.prog 14 #[.pointer (some ⟨g, 0, none⟩), .int .i64 reg] w fun e w' => e = .returned (.int .u8 0) ∧ RS w' g ⟨lo, hi, c, r, a, o⟩ ∧ w.grownBy w' (some g) := by
  go_enter Try.func14, Try.ntmps14
  go_wp2
  go_ret
  exact ⟨rfl, h, World.grownBy.refl _ _⟩
set_option maxHeartbeats 1600000 in
theorem r_tick_stops (h : RS w g ⟨lo, hi, c, false, a, o⟩) :
    Calls Try.prog 16 #[.pointer (some ⟨g, 0, none⟩)] w fun e w' => e = .returned (.tuple #[]) ∧ RS w' g ⟨lo, hi, c, false, a, o⟩ ∧ w.grownBy w' (some g) := by
  obtain ⟨⟨⟨h0, h1, h2⟩, h3, h4, h5⟩, ⟨f0, f1, f2⟩, f3, f4, f5⟩ := h.cells
  go_enter Try.func16, Try.ntmps16
  go_wp2
  refine bodyPost_ret (results_none rfl _ _ _) rfl ?_
  exact ⟨rfl, h, World.grownBy.refl _ _⟩
set_option maxHeartbeats 1600000 in
theorem r_tick_counts (h : RS w g ⟨lo, hi, c, true, a, o⟩) (hc : 0 < c) (hc1 : c < 65536) :
    Calls Try.prog 16 #[.pointer (some ⟨g, 0, none⟩)] w fun e w' => e = .returned (.tuple #[]) ∧ RS w' g ⟨lo, hi, c - 1, true, a, o⟩ ∧ w.grownBy w' (some g) := by
  obtain ⟨⟨⟨h0, h1, h2⟩, h3, h4, h5⟩, ⟨f0, f1, f2⟩, f3, f4, f5⟩ := h.cells
  go_enter Try.func16, Try.ntmps16
  go_wp2
  refine bodyPost_ret (results_none rfl _ _ _) rfl ?_
  exact ⟨rfl, h.set_ 2 _, only_set (World.grownBy.refl _ _) _⟩
set_option maxHeartbeats 1600000 in
theorem r_tick_over (h : RS w g ⟨lo, hi, c, true, a, o⟩) (hc : ¬ 0 < c) (hlo : 0 ≤ lo ∧ lo < 256) (hhi : 0 ≤ hi ∧ hi < 256) :
    Calls Try.prog 16 #[.pointer (some ⟨g, 0, none⟩)] w fun e w' => e = .returned (.tuple #[]) ∧ RS w' g ⟨lo, hi, 256 * hi + lo, true, a, true⟩ ∧ w.grownBy w' (some g) := by
  obtain ⟨⟨⟨h0, h1, h2⟩, h3, h4, h5⟩, ⟨f0, f1, f2⟩, f3, f4, f5⟩ := h.cells
  obtain ⟨hl0, hl1⟩ := hlo
  obtain ⟨hh0, hh1⟩ := hhi
  go_enter Try.func16, Try.ntmps16
  go_wp2
  go_region
  all_goals
    go_wp2
    go_end0
    exact ⟨rfl, (h.set_ 2 _).set_ 5 _, only_drew (only_set (only_set (World.grownBy.refl _ _) _) _)⟩
end
set_option maxHeartbeats 1600000 in
theorem r_irq_any (g : Nat) (lo hi c : Int) (r a o : Bool) (w : World) (h : RS w g ⟨lo, hi, c, r, a, o⟩) :
    Calls Try.prog 18 #[.pointer (some ⟨g, 0, none⟩)] w fun e w' => e = .returned (.bool (o && a)) ∧ RS w' g ⟨lo, hi, c, r, a, o⟩ ∧ w.grownBy w' (some g) := by
  cases o
  all_goals
    obtain ⟨⟨⟨h0, h1, h2⟩, h3, h4, h5⟩, ⟨f0, f1, f2⟩, f3, f4, f5⟩ := h.cells
    go_enter Try.func18, Try.ntmps18
    go_wp2
    go_ret
    exact ⟨rfl, h, World.grownBy.refl _ _⟩

section
variable (g : Nat) (S : St) (w : World)
theorem r_write (reg v : Int) (h : RS w g S) (hS : S.ok) (hv : 0 ≤ v ∧ v < 256) :
    Calls Try.prog 12 #[.pointer (some ⟨g, 0, none⟩), .int .i64 reg, .int .u8 v] w fun e w' => e = .returned (.tuple #[]) ∧ RS w' g (S.write reg v) ∧ w.grownBy w' (some g) := by
  obtain ⟨lo, hi, c, r, a, o⟩ := S
  obtain ⟨h1, h2, h3⟩ := hS
  by_cases h0 : reg = 0
  · subst h0
    exact r_write_0 g lo hi c r a o w v h hv
  by_cases h1' : reg = 1
  · subst h1'
    exact r_write_1 g lo hi c r a o w v h hv h1
  by_cases h2' : reg = 2
  · subst h2'
    exact r_write_2 g lo hi c r a o w v h hv
  · unfold St.write
    rw [if_neg h0, if_neg h1', if_neg h2']
    exact r_write_3 g lo hi c r a o w v reg h (by simpa using h0) (by simpa using h1') (by simpa using h2')
theorem r_read (reg : Int) (h : RS w g S) (hS : S.ok) :
    Calls Try.prog 14 #[.pointer (some ⟨g, 0, none⟩), .int .i64 reg] w fun e w' => e = .returned (.int .u8 (S.read reg)) ∧ RS w' g (S.readTo reg) ∧ w.grownBy w' (some g) := by
  obtain ⟨lo, hi, c, r, a, o⟩ := S
  obtain ⟨h1, h2, h3⟩ := hS
  by_cases h0 : reg = 0
  · subst h0
    exact r_read_0 g lo hi c r a o w h h3
  by_cases h1' : reg = 1
  · subst h1'
    exact r_read_1 g lo hi c r a o w h h3
  by_cases h2' : reg = 2
  · subst h2'
    exact r_read_2 g lo hi c r a o w h
  · unfold St.read St.readTo
    rw [if_neg h0, if_neg h1', if_neg h2', if_neg h2']
    exact r_read_3 g lo hi c r a o w reg h (by simpa using h0) (by simpa using h1') (by simpa using h2')
theorem r_tick (h : RS w g S) (hS : S.ok) :
    Calls Try.prog 16 #[.pointer (some ⟨g, 0, none⟩)] w fun e w' => e = .returned (.tuple #[]) ∧ RS w' g S.tick ∧ w.grownBy w' (some g) := by
  obtain ⟨lo, hi, c, r, a, o⟩ := S
  obtain ⟨h1, h2, h3⟩ := hS
  unfold St.tick
  cases r
  · exact r_tick_stops g lo hi c a o w h
  · by_cases hc : 0 < c
    · simp only [if_true, hc]
      exact r_tick_counts g lo hi c a o w h hc h3.2
    · simp only [if_true, hc, if_false]
      exact r_tick_over g lo hi c a o w h hc h1 h2
theorem r_irq (h : RS w g S) :
    Calls Try.prog 18 #[.pointer (some ⟨g, 0, none⟩)] w fun e w' => e = .returned (.bool S.irq) ∧ RS w' g S ∧ w.grownBy w' (some g) := by
  obtain ⟨lo, hi, c, r, a, o⟩ := S
  exact r_irq_any g lo hi c r a o w h
end
end Go.Proofs.Ytpplndcffojlfaa.Own

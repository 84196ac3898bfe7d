/- Contracts of addresses. Conditions: bytes are bytes, addresses addresses. · The processor in memory, and what its cycles ask for. Conditions: the processor is a block of its cells. · What the processor's cycles take: those of its own cells alone. Conditions: the processor is a block of its cells; a byte is a byte. · What the processor's cycles take: those that ask for an address. Conditions: the processor is a block of its cells; a byte is a byte. -/
import Derived.Test.YtifajfjiloajfaaGreatDoorMMap
import Derived.Laws.BitsLemmas
namespace Go.Proofs.YtifajfjiloajfaaGreatDoor.OwnAddr
open Go.RowKit

theorem w16 (n : Int) : IntKind.u16.wrap n = n % 65536 := by simp [IntKind.wrap, IntKind.bits, IntKind.signed]
theorem wr16 (n : Int) (h0 : 0 ≤ n) (h1 : n < 2 ^ 16) : IntKind.u16.wrap n = n := by rw [w16]; omega
theorem join16 (x y : Int) (hx0 : 0 ≤ x) (hx : x % 256 = 0) (hx1 : x < 65536) (hy0 : 0 ≤ y) (hy : y < 256) : Go.bits .or .u16 x y = x + y :=
  bits_join .u16 16 (by decide) wr16 8 x y hx0 hx hx1 hy0 hy (by omega)
theorem ret16 {a b : Int} (h : a = b) : Ending.returned (.int .u16 a) = .returned (.int .u16 b) := by rw [h]
theorem ret8 {a b : Int} (h : a = b) : Ending.returned (.int .u8 a) = .returned (.int .u8 b) := by rw [h]
theorem word_any (l h : Int) (w : World) (h0 : 0 ≤ l) (h1 : l < 256) (h2 : 0 ≤ h) (h3 : h < 256) : Calls Tryz.prog 79 #[.int .u8 l, .int .u8 h] w fun e w' => e = .returned (.int .u16 (h * 256 + l)) ∧ w = w' := by
  go_enter Tryz.func79, Tryz.ntmps79
  go_wp2
  go_ret
  refine ⟨ret16 ?_, rfl⟩
  rw [join16 _ _ (by omega) (by omega) (by omega) h0 h1]
theorem high_any (a : Int) (w : World) (h0 : 0 ≤ a) (h1 : a < 65536) : Calls Tryz.prog 158 #[.int .u16 a] w fun e w' => e = .returned (.int .u8 (a / 256)) ∧ w = w' := by
  go_enter Tryz.func158, Tryz.ntmps158
  go_wp2
  go_ret
  exact ⟨rfl, rfl⟩
theorem stack_any (s : Int) (w : World) (h0 : 0 ≤ s) (h1 : s < 256) : Calls Tryz.prog 78 #[.int .u8 s] w fun e w' => e = .returned (.int .u16 (256 + s)) ∧ w = w' := by
  go_enter Tryz.func78, Tryz.ntmps78
  go_wp2
  go_ret
  refine ⟨ret16 ?_, rfl⟩
  rw [join16 _ _ (by omega) (by omega) (by omega) h0 h1]
def accu (a : Int) (L : List Int) : Int := L.foldl (fun n x => (n + x) % 65536) a
theorem accu_take (a : Int) (L : List Int) (k : Nat) (h : k < L.length) : accu a (L.take (k + 1)) = (accu a (L.take k) + L.getD k 0) % 65536 := by
  unfold accu
  rw [List.take_add_one, List.getElem?_eq_getElem h, List.getD_eq_getElem?_getD, List.getElem?_eq_getElem h, List.foldl_append]
  rfl
theorem accu_range (a : Int) (L : List Int) (h0 : 0 ≤ a) (h1 : a < 65536) : 0 ≤ accu a L ∧ accu a L < 65536 := by
  unfold accu
  induction L generalizing a with
  | nil => exact ⟨h0, h1⟩
  | cons x xs ih => exact ih ((a + x) % 65536) (by omega) (by omega)
set_option maxHeartbeats 3200000 in
theorem sum_any (a : Int) (L : List Int) (b n : Nat) (w : World) (h0 : 0 ≤ a) (h1 : a < 65536) (hn : L.length = n) (hn2 : n ≤ 2) (hc : ∀ j, j < n → w.cell? ⟨b, j, none⟩ = some (.int .u16 (L.getD j 0)) ∧ 0 ≤ L.getD j 0 ∧ L.getD j 0 < 65536) :
    Calls Tryz.prog 184 #[.int .u16 a, .slice (some ⟨b, 0, none⟩) n n] w fun e w' => e = .returned (.tuple #[.int .u16 (a / 256 * 256 + accu a L % 256), .int .u16 (accu a L)]) ∧ w = w' := by
  have HC := Lib.hid hc
  have HW := Lib.hid word_any
  have HH := Lib.hid high_any
  have HT := Lib.hid (accu_take a L)
  have HR := Lib.hid (fun l => accu_range a l h0 h1)
  have hnn : (n : Int) ≤ 2 := by omega
  clear hc
  go_enter Tryz.func184, Tryz.ntmps184
  go_wp2
  go_loop [5, 11] (fun r i => ∃ k : Nat, k ≤ n ∧ i = .int .i64 k ∧ r = .int .u16 (accu a (L.take k))) (fun _ i => n - (intOf i).toNat)
  case atStart => exact ⟨0, by omega, rfl, rfl⟩
  case round =>
    obtain ⟨k, hk, rfl, rfl⟩ := hrel
    have hk0 : 0 ≤ (k : Int) := by omega
    obtain ⟨r0, r1⟩ := HR.out (L.take k)
    by_cases hkn : k < n
    · have hk1 : (k : Int) < n := by omega
      obtain ⟨c0, c1, c2⟩ := HC.out k hkn
      have ht := HT.out k (by omega)
      generalize L.getD k 0 = z at c0 c1 c2 ht
      generalize hr : accu a (L.take k) = r at r0 r1 ht
      go_wp2
      go_roundw
      case rel => exact ⟨k + 1, by omega, by simp, by rw [ht, ← w16]⟩
      case measure => simp [intOf]; omega
    · have hk1 : ¬ (k : Int) < n := by omega
      obtain rfl : k = n := by omega
      rw [List.take_of_length_le (by omega)] at r0 r1 ⊢
      go_wp2_with fail
      go_at_call 158
      refine (HH.out a _ h0 h1).mono ?_
      rintro e w' ⟨rfl, rfl⟩
      go_wp2_with fail
      go_at_call 79
      refine (HW.out (accu a L % 256) (a / 256) _ (by omega) (by omega) (by omega) (by omega)).mono ?_
      rintro e w' ⟨rfl, rfl⟩
      go_wp2
      go_ret2
      exact ⟨rfl, rfl⟩
theorem cell1 (w : World) (x : Int) (t : TypeId) (h0 : 0 ≤ x) (h1 : x < 65536) : ∀ j, j < 1 → (w.alloc (.cells #[.int .u16 x] t)).cell? ⟨w.heap.size, j, none⟩ = some (.int .u16 (([x] : List Int).getD j 0)) ∧ 0 ≤ ([x] : List Int).getD j 0 ∧ ([x] : List Int).getD j 0 < 65536 := by
  intro j hj
  obtain rfl : j = 0 := by omega
  exact ⟨by simp [go_sem], h0, h1⟩
theorem cell2 (w : World) (x y : Int) (t : TypeId) (h0 : 0 ≤ x) (h1 : x < 65536) (h2 : 0 ≤ y) (h3 : y < 65536) : ∀ j, j < 2 → (w.alloc (.cells #[.int .u16 x, .int .u16 y] t)).cell? ⟨w.heap.size, j, none⟩ = some (.int .u16 (([x, y] : List Int).getD j 0)) ∧ 0 ≤ ([x, y] : List Int).getD j 0 ∧ ([x, y] : List Int).getD j 0 < 65536 := by
  intro j hj
  match j, hj with
  | 0, _ => exact ⟨by simp [go_sem], h0, h1⟩
  | 1, _ => exact ⟨by simp [go_sem], h2, h3⟩
def roughV (a s : Int) : Int := a / 256 * 256 + (a + s) % 65536 % 256
def rightV (a s : Int) : Int := (a + s) % 65536
theorem index_any (a x : Int) (w : World) (h0 : 0 ≤ a) (h1 : a < 65536) (h2 : 0 ≤ x) (h3 : x < 256) :
    Calls Tryz.prog 185 #[.int .u16 a, .int .u8 x] w fun e w' => e = .returned (.tuple #[.int .u16 (roughV a x), .int .u16 (rightV a x)]) ∧ Below w.heap.size w w' := by
  have HS := Lib.hid (fun L b n w hn hn2 hc => sum_any a L b n w h0 h1 hn hn2 hc)
  have HC := Lib.hid (cell1 w x 42 h2 (by omega))
  go_enter Tryz.func185, Tryz.ntmps185
  go_wp2_with fail
  go_at_call 184
  refine (HS.out [x] _ 1 _ rfl (by decide) HC.out).mono ?_
  rintro e w' ⟨rfl, rfl⟩
  go_wp2
  go_ret2
  exact ⟨rfl, (Below.refl _ _).alloc (Nat.le_refl _) _⟩
theorem zero_any (a x : Int) (w : World) (h0 : 0 ≤ a) (h1 : a < 256) (h2 : 0 ≤ x) (h3 : x < 256) :
    Calls Tryz.prog 162 #[.int .u8 a, .int .u8 x] w fun e w' => e = .returned (.int .u16 ((a + x) % 256)) ∧ Below w.heap.size w w' := by
  have HS := Lib.hid (fun L b n w hn hn2 hc => sum_any a L b n w h0 (by omega) hn hn2 hc)
  have HC := Lib.hid (cell1 w x 42 h2 (by omega))
  have e1 : a / 256 * 256 + accu a [x] % 256 = (a + x) % 256 := by
    show a / 256 * 256 + (a + x) % 65536 % 256 = _
    omega
  go_enter Tryz.func162, Tryz.ntmps162
  go_wp2_with fail
  go_at_call 184
  refine (HS.out [x] _ 1 _ rfl (by decide) HC.out).mono ?_
  rintro e w' ⟨rfl, rfl⟩
  rw [e1]
  go_wp2
  go_ret
  exact ⟨rfl, (Below.refl _ _).alloc (Nat.le_refl _) _⟩
theorem next_any (a : Int) (w : World) (h0 : 0 ≤ a) (h1 : a < 65536) :
    Calls Tryz.prog 188 #[.int .u16 a] w fun e w' => e = .returned (.int .u16 (roughV a 1)) ∧ Below w.heap.size w w' := by
  have HS := Lib.hid (fun L b n w hn hn2 hc => sum_any a L b n w h0 h1 hn hn2 hc)
  have HC := Lib.hid (cell1 w 1 42 (by decide) (by decide))
  go_enter Tryz.func188, Tryz.ntmps188
  go_wp2_with fail
  go_at_call 184
  refine (HS.out [1] _ 1 _ rfl (by decide) HC.out).mono ?_
  rintro e w' ⟨rfl, rfl⟩
  go_wp2
  go_ret
  exact ⟨rfl, (Below.refl _ _).alloc (Nat.le_refl _) _⟩
theorem branch_any (a x : Int) (w : World) (h0 : 0 ≤ a) (h1 : a < 65536) (h2 : 0 ≤ x) (h3 : x < 256) :
    Calls Tryz.prog 167 #[.int .u16 a, .int .u8 x] w fun e w' => e = .returned (.tuple #[.int .u16 (roughV a (if x > 127 then x + 65280 else x)), .int .u16 (rightV a (if x > 127 then x + 65280 else x))]) ∧ Below w.heap.size w w' := by
  have HS := Lib.hid (fun L b n w hn hn2 hc => sum_any a L b n w h0 h1 hn hn2 hc)
  by_cases hx : x > 127
  · have HC := Lib.hid (cell2 w x 65280 42 h2 (by omega) (by decide) (by decide))
    have e1 : accu a [x, 65280] = rightV a (x + 65280) := by
      show ((a + x) % 65536 + 65280) % 65536 = (a + (x + 65280)) % 65536
      omega
    rw [if_pos hx]
    go_enter Tryz.func167, Tryz.ntmps167
    go_wp2_with fail
    go_at_call 184
    refine (HS.out [x, 65280] _ 2 _ rfl (by decide) HC.out).mono ?_
    rintro e w' ⟨rfl, rfl⟩
    rw [e1]
    go_wp2
    go_ret2
    exact ⟨rfl, (Below.refl _ _).alloc (Nat.le_refl _) _⟩
  · have HC := Lib.hid (cell1 w x 42 h2 (by omega))
    rw [if_neg hx]
    go_enter Tryz.func167, Tryz.ntmps167
    go_wp2_with fail
    go_at_call 184
    refine (HS.out [x] _ 1 _ rfl (by decide) HC.out).mono ?_
    rintro e w' ⟨rfl, rfl⟩
    go_wp2
    go_ret2
    exact ⟨rfl, (Below.refl _ _).alloc (Nat.le_refl _) _⟩
theorem rough_range (a s : Int) (h0 : 0 ≤ a) (h1 : a < 65536) : 0 ≤ roughV a s ∧ roughV a s < 65536 := by unfold roughV; omega
theorem right_range (a s : Int) : 0 ≤ rightV a s ∧ rightV a s < 65536 := by unfold rightV; omega
end Go.Proofs.YtifajfjiloajfaaGreatDoor.OwnAddr
namespace Go.Proofs.YtifajfjiloajfaaGreatDoor.OwnCpu
open Go.RowKit Go.Proofs.YtifajfjiloajfaaGreatDoor.Own Go.Proofs.YtifajfjiloajfaaGreatDoor.OwnEff Go.Proofs.YtifajfjiloajfaaGreatDoor.OwnAddr

/-- What a processor holds, but for its plan. -/
structure C where
  r : R
  name : ByteArray
  mode : Int
  kind : Int
  at_ : Nat
  low : Int
  m : Int
  base : Int
  rough : Int
  place : Int
  vector : Int
  quiet : Bool
  soft : Bool
  was : Bool
  latch : Bool
  due : Bool
  jammed : Bool
def C.cells (c : C) (plan : Value) : Array Value :=
  #[.int .u8 c.r.a, .int .u8 c.r.x, .int .u8 c.r.y, .int .u8 c.r.s, .int .u8 c.r.p, .int .u16 c.r.pc, .string c.name, .int .i64 c.mode, .int .i64 c.kind, plan, .int .i64 c.at_, .int .u8 c.low, .int .u8 c.m,
    .int .u16 c.base, .int .u16 c.rough, .int .u16 c.place, .int .u16 c.vector, .bool c.quiet, .bool c.soft, .bool c.was, .bool c.latch, .bool c.due, .bool c.jammed]
def CAt (w : World) (g : Nat) (c : C) (plan : Value) : Prop := Blk w g 96 (c.cells plan)
set_option maxHeartbeats 3200000 in
theorem pc_any (g : Nat) (c : C) (plan : Value) (w : World) (h : CAt w g c plan) : Calls Tryz.prog 55 #[.pointer (some ⟨g, 0, none⟩)] w fun e w' => e = .returned (.agg #[.int .u16 (c.r.pc), .int .u8 0, .bool false]) ∧ Below w.heap.size w w' := by
  have hc : w.cell? ⟨g, 5, none⟩ = some (.int .u16 c.r.pc) := (Blk.cell h 5).trans rfl
  have hlt := Blk.lt h
  clear h
  go_enter Tryz.func55, Tryz.ntmps55
  go_wp2
  refine bodyPost_ret (v := .agg #[.int .u16 (c.r.pc), .int .u8 0, .bool false]) ?_ rfl ⟨rfl, (Below.refl _ _).alloc (Nat.le_refl _) _⟩
  simp [results, Tryz.results55, go_sem]
set_option maxHeartbeats 3200000 in
theorem pointer_any (g : Nat) (c : C) (plan : Value) (w : World) (h : CAt w g c plan) (hl : By c.low) : Calls Tryz.prog 123 #[.pointer (some ⟨g, 0, none⟩)] w fun e w' => e = .returned (.agg #[.int .u16 (c.low), .int .u8 0, .bool false]) ∧ Below w.heap.size w w' := by
  have hc : w.cell? ⟨g, 11, none⟩ = some (.int .u8 c.low) := (Blk.cell h 11).trans rfl
  have hlt := Blk.lt h
  have q0 := hl.1
  have q1 := hl.2
  clear h
  go_enter Tryz.func123, Tryz.ntmps123
  go_wp2
  refine bodyPost_ret (v := .agg #[.int .u16 (c.low), .int .u8 0, .bool false]) ?_ rfl ⟨rfl, (Below.refl _ _).alloc (Nat.le_refl _) _⟩
  simp [results, Tryz.results123, go_sem]
set_option maxHeartbeats 3200000 in
theorem roughly_any (g : Nat) (c : C) (plan : Value) (w : World) (h : CAt w g c plan) : Calls Tryz.prog 129 #[.pointer (some ⟨g, 0, none⟩)] w fun e w' => e = .returned (.agg #[.int .u16 (c.rough), .int .u8 0, .bool false]) ∧ Below w.heap.size w w' := by
  have hc : w.cell? ⟨g, 14, none⟩ = some (.int .u16 c.rough) := (Blk.cell h 14).trans rfl
  have hlt := Blk.lt h
  clear h
  go_enter Tryz.func129, Tryz.ntmps129
  go_wp2
  refine bodyPost_ret (v := .agg #[.int .u16 (c.rough), .int .u8 0, .bool false]) ?_ rfl ⟨rfl, (Below.refl _ _).alloc (Nat.le_refl _) _⟩
  simp [results, Tryz.results129, go_sem]
set_option maxHeartbeats 3200000 in
theorem there_any (g : Nat) (c : C) (plan : Value) (w : World) (h : CAt w g c plan) : Calls Tryz.prog 117 #[.pointer (some ⟨g, 0, none⟩)] w fun e w' => e = .returned (.agg #[.int .u16 (c.place), .int .u8 0, .bool false]) ∧ Below w.heap.size w w' := by
  have hc : w.cell? ⟨g, 15, none⟩ = some (.int .u16 c.place) := (Blk.cell h 15).trans rfl
  have hlt := Blk.lt h
  clear h
  go_enter Tryz.func117, Tryz.ntmps117
  go_wp2
  refine bodyPost_ret (v := .agg #[.int .u16 (c.place), .int .u8 0, .bool false]) ?_ rfl ⟨rfl, (Below.refl _ _).alloc (Nat.le_refl _) _⟩
  simp [results, Tryz.results117, go_sem]
set_option maxHeartbeats 3200000 in
theorem vectorLow_any (g : Nat) (c : C) (plan : Value) (w : World) (h : CAt w g c plan) : Calls Tryz.prog 58 #[.pointer (some ⟨g, 0, none⟩)] w fun e w' => e = .returned (.agg #[.int .u16 (c.vector), .int .u8 0, .bool false]) ∧ Below w.heap.size w w' := by
  have hc : w.cell? ⟨g, 16, none⟩ = some (.int .u16 c.vector) := (Blk.cell h 16).trans rfl
  have hlt := Blk.lt h
  clear h
  go_enter Tryz.func58, Tryz.ntmps58
  go_wp2
  refine bodyPost_ret (v := .agg #[.int .u16 (c.vector), .int .u8 0, .bool false]) ?_ rfl ⟨rfl, (Below.refl _ _).alloc (Nat.le_refl _) _⟩
  simp [results, Tryz.results58, go_sem]
set_option maxHeartbeats 3200000 in
theorem vectorHigh_any (g : Nat) (c : C) (plan : Value) (w : World) (h : CAt w g c plan) : Calls Tryz.prog 60 #[.pointer (some ⟨g, 0, none⟩)] w fun e w' => e = .returned (.agg #[.int .u16 (IntKind.u16.wrap (c.vector + 1)), .int .u8 0, .bool false]) ∧ Below w.heap.size w w' := by
  have hc : w.cell? ⟨g, 16, none⟩ = some (.int .u16 c.vector) := (Blk.cell h 16).trans rfl
  have hlt := Blk.lt h
  clear h
  go_enter Tryz.func60, Tryz.ntmps60
  go_wp2
  refine bodyPost_ret (v := .agg #[.int .u16 (IntKind.u16.wrap (c.vector + 1)), .int .u8 0, .bool false]) ?_ rfl ⟨rfl, (Below.refl _ _).alloc (Nat.le_refl _) _⟩
  simp [results, Tryz.results60, go_sem]
end Go.Proofs.YtifajfjiloajfaaGreatDoor.OwnCpu
namespace Go.Proofs.YtifajfjiloajfaaGreatDoor.OwnCpu
open Go.RowKit Go.Proofs.YtifajfjiloajfaaGreatDoor.Own Go.Proofs.YtifajfjiloajfaaGreatDoor.OwnEff Go.Proofs.YtifajfjiloajfaaGreatDoor.OwnAddr

theorem only_set {a w : World} {g i : Nat} (h : a.grownBy w (some g)) (u : Value) : a.grownBy (w.setCell ⟨g, i, none⟩ u) (some g) :=
  ⟨h.os, h.tape, h.output, by simpa [World.setCell] using h.size, fun k hk hne => (Below.heap_setCell w _ u k (by
    rintro rfl
    exact hne rfl)).trans (h.block k hk hne)⟩
set_option maxHeartbeats 3200000 in
theorem skip_any (g : Nat) (c : C) (plan : Value) (d : Int) (w : World) (h : CAt w g c plan) : Calls Tryz.prog 56 #[.pointer (some ⟨g, 0, none⟩), .int .u8 d] w fun e w' => e = .returned (.tuple #[]) ∧ CAt w' g c plan ∧ w.grownBy w' (some g) := by
  go_enter Tryz.func56, Tryz.ntmps56
  go_wp2
  go_end0
  exact ⟨rfl, h, World.grownBy.refl _ _⟩
set_option maxHeartbeats 3200000 in
theorem next_any (g : Nat) (c : C) (plan : Value) (d : Int) (w : World) (h : CAt w g c plan) : Calls Tryz.prog 173 #[.pointer (some ⟨g, 0, none⟩), .int .u8 d] w fun e w' => e = .returned (.tuple #[]) ∧ CAt w' g ({ c with r := { c.r with pc := IntKind.u16.wrap (c.r.pc + 1) } }) plan ∧ w.grownBy w' (some g) := by
  have c5 : w.cell? ⟨g, 5, none⟩ = some (.int .u16 c.r.pc) := (Blk.cell h 5).trans rfl
  have f5 := Blk.frozen h 5
  go_enter Tryz.func173, Tryz.ntmps173
  go_wp2
  go_end0
  exact ⟨rfl, (Blk.set_ h 5 (.int .u16 (IntKind.u16.wrap (c.r.pc + 1)))), only_set (World.grownBy.refl _ _) _⟩
set_option maxHeartbeats 3200000 in
theorem drop_any (g : Nat) (c : C) (plan : Value) (d : Int) (w : World) (h : CAt w g c plan) : Calls Tryz.prog 54 #[.pointer (some ⟨g, 0, none⟩), .int .u8 d] w fun e w' => e = .returned (.tuple #[]) ∧ CAt w' g ({ c with r := { c.r with s := (c.r.s - 1) % 256 } }) plan ∧ w.grownBy w' (some g) := by
  have c3 : w.cell? ⟨g, 3, none⟩ = some (.int .u8 c.r.s) := (Blk.cell h 3).trans rfl
  have f3 := Blk.frozen h 3
  go_enter Tryz.func54, Tryz.ntmps54
  go_wp2
  go_end0
  exact ⟨rfl, (Blk.set_ h 3 (.int .u8 ((c.r.s - 1) % 256))), only_set (World.grownBy.refl _ _) _⟩
set_option maxHeartbeats 3200000 in
theorem lift_any (g : Nat) (c : C) (plan : Value) (d : Int) (w : World) (h : CAt w g c plan) : Calls Tryz.prog 132 #[.pointer (some ⟨g, 0, none⟩), .int .u8 d] w fun e w' => e = .returned (.tuple #[]) ∧ CAt w' g ({ c with r := { c.r with s := (c.r.s + 1) % 256 } }) plan ∧ w.grownBy w' (some g) := by
  have c3 : w.cell? ⟨g, 3, none⟩ = some (.int .u8 c.r.s) := (Blk.cell h 3).trans rfl
  have f3 := Blk.frozen h 3
  go_enter Tryz.func132, Tryz.ntmps132
  go_wp2
  go_end0
  exact ⟨rfl, (Blk.set_ h 3 (.int .u8 ((c.r.s + 1) % 256))), only_set (World.grownBy.refl _ _) _⟩
set_option maxHeartbeats 3200000 in
theorem keepLow_any (g : Nat) (c : C) (plan : Value) (d : Int) (w : World) (h : CAt w g c plan) : Calls Tryz.prog 59 #[.pointer (some ⟨g, 0, none⟩), .int .u8 d] w fun e w' => e = .returned (.tuple #[]) ∧ CAt w' g ({ c with low := d }) plan ∧ w.grownBy w' (some g) := by
  have c11 : w.cell? ⟨g, 11, none⟩ = some (.int .u8 c.low) := (Blk.cell h 11).trans rfl
  have f11 := Blk.frozen h 11
  go_enter Tryz.func59, Tryz.ntmps59
  go_wp2
  go_end0
  exact ⟨rfl, (Blk.set_ h 11 (.int .u8 d)), only_set (World.grownBy.refl _ _) _⟩
set_option maxHeartbeats 3200000 in
theorem keep_any (g : Nat) (c : C) (plan : Value) (d : Int) (w : World) (h : CAt w g c plan) : Calls Tryz.prog 140 #[.pointer (some ⟨g, 0, none⟩), .int .u8 d] w fun e w' => e = .returned (.tuple #[]) ∧ CAt w' g ({ c with m := d }) plan ∧ w.grownBy w' (some g) := by
  have c12 : w.cell? ⟨g, 12, none⟩ = some (.int .u8 c.m) := (Blk.cell h 12).trans rfl
  have f12 := Blk.frozen h 12
  go_enter Tryz.func140, Tryz.ntmps140
  go_wp2
  go_end0
  exact ⟨rfl, (Blk.set_ h 12 (.int .u8 d)), only_set (World.grownBy.refl _ _) _⟩
set_option maxHeartbeats 3200000 in
theorem nextLow_any (g : Nat) (c : C) (plan : Value) (d : Int) (w : World) (h : CAt w g c plan) : Calls Tryz.prog 115 #[.pointer (some ⟨g, 0, none⟩), .int .u8 d] w fun e w' => e = .returned (.tuple #[]) ∧ CAt w' g ({ c with low := d, r := { c.r with pc := IntKind.u16.wrap (c.r.pc + 1) } }) plan ∧ w.grownBy w' (some g) := by
  have c5 : w.cell? ⟨g, 5, none⟩ = some (.int .u16 c.r.pc) := (Blk.cell h 5).trans rfl
  have f5 := Blk.frozen h 5
  have c11 : w.cell? ⟨g, 11, none⟩ = some (.int .u8 c.low) := (Blk.cell h 11).trans rfl
  have f11 := Blk.frozen h 11
  go_enter Tryz.func115, Tryz.ntmps115
  go_wp2
  go_end0
  exact ⟨rfl, (Blk.set_ (Blk.set_ h 11 (.int .u8 d)) 5 (.int .u16 (IntKind.u16.wrap (c.r.pc + 1)))), only_set (only_set (World.grownBy.refl _ _) _) _⟩
set_option maxHeartbeats 3200000 in
theorem liftLow_any (g : Nat) (c : C) (plan : Value) (d : Int) (w : World) (h : CAt w g c plan) : Calls Tryz.prog 172 #[.pointer (some ⟨g, 0, none⟩), .int .u8 d] w fun e w' => e = .returned (.tuple #[]) ∧ CAt w' g ({ c with low := d, r := { c.r with s := (c.r.s + 1) % 256 } }) plan ∧ w.grownBy w' (some g) := by
  have c3 : w.cell? ⟨g, 3, none⟩ = some (.int .u8 c.r.s) := (Blk.cell h 3).trans rfl
  have f3 := Blk.frozen h 3
  have c11 : w.cell? ⟨g, 11, none⟩ = some (.int .u8 c.low) := (Blk.cell h 11).trans rfl
  have f11 := Blk.frozen h 11
  go_enter Tryz.func172, Tryz.ntmps172
  go_wp2
  go_end0
  exact ⟨rfl, (Blk.set_ (Blk.set_ h 11 (.int .u8 d)) 3 (.int .u8 ((c.r.s + 1) % 256))), only_set (only_set (World.grownBy.refl _ _) _) _⟩
set_option maxHeartbeats 3200000 in
theorem zeroPlace_any (g : Nat) (c : C) (plan : Value) (d : Int) (w : World) (h : CAt w g c plan) (hd : By d) : Calls Tryz.prog 116 #[.pointer (some ⟨g, 0, none⟩), .int .u8 d] w fun e w' => e = .returned (.tuple #[]) ∧ CAt w' g ({ c with place := d, r := { c.r with pc := IntKind.u16.wrap (c.r.pc + 1) } }) plan ∧ w.grownBy w' (some g) := by
  have c5 : w.cell? ⟨g, 5, none⟩ = some (.int .u16 c.r.pc) := (Blk.cell h 5).trans rfl
  have f5 := Blk.frozen h 5
  have c15 : w.cell? ⟨g, 15, none⟩ = some (.int .u16 c.place) := (Blk.cell h 15).trans rfl
  have f15 := Blk.frozen h 15
  have q0 := hd.1
  have q1 := hd.2
  go_enter Tryz.func116, Tryz.ntmps116
  go_wp2
  go_end0
  exact ⟨rfl, (Blk.set_ (Blk.set_ h 5 (.int .u16 (IntKind.u16.wrap (c.r.pc + 1)))) 15 (.int .u16 d)), only_set (only_set (World.grownBy.refl _ _) _) _⟩
set_option maxHeartbeats 3200000 in
theorem jams_any (g : Nat) (c : C) (plan : Value) (d : Int) (w : World) (h : CAt w g c plan) : Calls Tryz.prog 135 #[.pointer (some ⟨g, 0, none⟩), .int .u8 d] w fun e w' => e = .returned (.tuple #[]) ∧ CAt w' g ({ c with jammed := true }) plan ∧ w.grownBy w' (some g) := by
  have c22 : w.cell? ⟨g, 22, none⟩ = some (.bool c.jammed) := (Blk.cell h 22).trans rfl
  have f22 := Blk.frozen h 22
  go_enter Tryz.func135, Tryz.ntmps135
  go_wp2
  go_end0
  exact ⟨rfl, (Blk.set_ h 22 (.bool true)), only_set (World.grownBy.refl _ _) _⟩
set_option maxHeartbeats 3200000 in
theorem masks_any (g : Nat) (c : C) (plan : Value) (d : Int) (w : World) (h : CAt w g c plan) : Calls Tryz.prog 57 #[.pointer (some ⟨g, 0, none⟩), .int .u8 d] w fun e w' => e = .returned (.tuple #[]) ∧ CAt w' g ({ c with vector := 65532, r := { c.r with s := (c.r.s - 1) % 256, p := Go.bits .or .u8 c.r.p 4 } }) plan ∧ w.grownBy w' (some g) := by
  have c3 : w.cell? ⟨g, 3, none⟩ = some (.int .u8 c.r.s) := (Blk.cell h 3).trans rfl
  have f3 := Blk.frozen h 3
  have c4 : w.cell? ⟨g, 4, none⟩ = some (.int .u8 c.r.p) := (Blk.cell h 4).trans rfl
  have f4 := Blk.frozen h 4
  have c16 : w.cell? ⟨g, 16, none⟩ = some (.int .u16 c.vector) := (Blk.cell h 16).trans rfl
  have f16 := Blk.frozen h 16
  go_enter Tryz.func57, Tryz.ntmps57
  go_wp2
  go_end0
  exact ⟨rfl, (Blk.set_ (Blk.set_ (Blk.set_ h 3 (.int .u8 ((c.r.s - 1) % 256))) 4 (.int .u8 (Go.bits .or .u8 c.r.p 4))) 16 (.int .u16 65532)), only_set (only_set (only_set (World.grownBy.refl _ _) _) _) _⟩
end Go.Proofs.YtifajfjiloajfaaGreatDoor.OwnCpu
namespace Go.Proofs.YtifajfjiloajfaaGreatDoor.OwnCpu
open Go.RowKit Go.Proofs.YtifajfjiloajfaaGreatDoor.Own Go.Proofs.YtifajfjiloajfaaGreatDoor.OwnEff Go.Proofs.YtifajfjiloajfaaGreatDoor.OwnAddr

set_option maxHeartbeats 3200000 in
theorem jump_any (g : Nat) (c : C) (plan : Value) (d : Int) (w : World) (h : CAt w g c plan) (hl : By c.low) (hd : By d) : Calls Tryz.prog 61 #[.pointer (some ⟨g, 0, none⟩), .int .u8 d] w fun e w' => e = .returned (.tuple #[]) ∧ CAt w' g ({ c with r := { c.r with pc := d * 256 + c.low } }) plan ∧ w.grownBy w' (some g) := by
  have c5 : w.cell? ⟨g, 5, none⟩ = some (.int .u16 c.r.pc) := (Blk.cell h 5).trans rfl
  have f5 := Blk.frozen h 5
  have c11 : w.cell? ⟨g, 11, none⟩ = some (.int .u8 c.low) := (Blk.cell h 11).trans rfl
  have f11 := Blk.frozen h 11
  have HW := Lib.hid (fun w => word_any c.low d w hl.1 hl.2 hd.1 hd.2)
  go_enter Tryz.func61, Tryz.ntmps61
  go_wp2_with fail
  go_at_call 79
  refine (HW.out _).mono ?_
  rintro e w' ⟨rfl, rfl⟩
  go_wp2
  go_end0
  exact ⟨rfl, (Blk.set_ h 5 (.int .u16 (d * 256 + c.low))), only_set (World.grownBy.refl _ _) _⟩
set_option maxHeartbeats 3200000 in
theorem nextPlace_any (g : Nat) (c : C) (plan : Value) (d : Int) (w : World) (h : CAt w g c plan) (hl : By c.low) (hd : By d) : Calls Tryz.prog 120 #[.pointer (some ⟨g, 0, none⟩), .int .u8 d] w fun e w' => e = .returned (.tuple #[]) ∧ CAt w' g ({ c with place := d * 256 + c.low, r := { c.r with pc := IntKind.u16.wrap (c.r.pc + 1) } }) plan ∧ w.grownBy w' (some g) := by
  have c5 : w.cell? ⟨g, 5, none⟩ = some (.int .u16 c.r.pc) := (Blk.cell h 5).trans rfl
  have f5 := Blk.frozen h 5
  have c11 : w.cell? ⟨g, 11, none⟩ = some (.int .u8 c.low) := (Blk.cell h 11).trans rfl
  have f11 := Blk.frozen h 11
  have c15 : w.cell? ⟨g, 15, none⟩ = some (.int .u16 c.place) := (Blk.cell h 15).trans rfl
  have f15 := Blk.frozen h 15
  have HW := Lib.hid (fun w => word_any c.low d w hl.1 hl.2 hd.1 hd.2)
  go_enter Tryz.func120, Tryz.ntmps120
  go_wp2_with fail
  go_at_call 79
  refine (HW.out _).mono ?_
  rintro e w' ⟨rfl, rfl⟩
  go_wp2
  go_end0
  exact ⟨rfl, (Blk.set_ (Blk.set_ h 5 (.int .u16 (IntKind.u16.wrap (c.r.pc + 1)))) 15 (.int .u16 (d * 256 + c.low))), only_set (only_set (World.grownBy.refl _ _) _) _⟩
set_option maxHeartbeats 3200000 in
theorem pointPlace_any (g : Nat) (c : C) (plan : Value) (d : Int) (w : World) (h : CAt w g c plan) (hl : By c.low) (hd : By d) : Calls Tryz.prog 127 #[.pointer (some ⟨g, 0, none⟩), .int .u8 d] w fun e w' => e = .returned (.tuple #[]) ∧ CAt w' g ({ c with place := d * 256 + c.low }) plan ∧ w.grownBy w' (some g) := by
  have c11 : w.cell? ⟨g, 11, none⟩ = some (.int .u8 c.low) := (Blk.cell h 11).trans rfl
  have f11 := Blk.frozen h 11
  have c15 : w.cell? ⟨g, 15, none⟩ = some (.int .u16 c.place) := (Blk.cell h 15).trans rfl
  have f15 := Blk.frozen h 15
  have HW := Lib.hid (fun w => word_any c.low d w hl.1 hl.2 hd.1 hd.2)
  go_enter Tryz.func127, Tryz.ntmps127
  go_wp2_with fail
  go_at_call 79
  refine (HW.out _).mono ?_
  rintro e w' ⟨rfl, rfl⟩
  go_wp2
  go_end0
  exact ⟨rfl, (Blk.set_ h 15 (.int .u16 (d * 256 + c.low))), only_set (World.grownBy.refl _ _) _⟩
end Go.Proofs.YtifajfjiloajfaaGreatDoor.OwnCpu

/- What the processor's cycles take: those whose order is drawn. Conditions: the processor is a block of its cells; bytes are bytes. · What the processor's cycles ask for, further. Conditions: the processor is a block of its cells; bytes are bytes. · What the processor's cycles write to the stack. Conditions: the processor is a block of its cells; bytes are bytes. -/
import Derived.Test.YtifajfjiloajfaaGreatDoorMAddr
import Derived.Deep.RegionHeld3
import Derived.Deep.RegionLaw
namespace Go.Proofs.YtifajfjiloajfaaGreatDoor.OwnCpu
open Go.RowKit Go.Proofs.YtifajfjiloajfaaGreatDoor.Own Go.Proofs.YtifajfjiloajfaaGreatDoor.OwnEff Go.Proofs.YtifajfjiloajfaaGreatDoor.OwnAddr

theorem below_only {w w' : World} {g : Nat} (h : Below w.heap.size w w') : w.grownBy w' (some g) := ⟨h.os, h.tape, h.output, h.size, fun k hk _ => h.block k hk⟩
theorem only_trans {a b c : World} {row : Option Nat} (h : a.grownBy b row) (k : b.grownBy c row) : a.grownBy c row :=
  ⟨k.os.trans h.os, k.tape.trans h.tape, k.output.trans h.output, Nat.le_trans h.size k.size, fun j hj hne => (k.block j (Nat.lt_of_lt_of_le hj h.size) hne).trans (h.block j hj hne)⟩
theorem w8 (n : Int) : IntKind.u8.wrap n = n % 256 := by simp [IntKind.wrap, IntKind.bits, IntKind.signed]
set_option maxHeartbeats 3200000 in
theorem zeroX_any (g : Nat) (c : C) (plan : Value) (d : Int) (w : World) (h : CAt w g c plan) (hx : By c.r.x) : Calls Tryz.prog 118 #[.pointer (some ⟨g, 0, none⟩), .int .u8 d] w fun e w' => e = .returned (.tuple #[]) ∧ CAt w' g { c with place := (IntKind.u8.wrap c.place + c.r.x) % 256 } plan ∧ w.grownBy w' (some g) := by
  have c15 : w.cell? ⟨g, 15, none⟩ = some (.int .u16 c.place) := (Blk.cell h 15).trans rfl
  have c1 : w.cell? ⟨g, 1, none⟩ = some (.int .u8 c.r.x) := (Blk.cell h 1).trans rfl
  have hlt := Blk.lt h
  have q := w8 c.place
  have HZ := Lib.hid (fun w => zero_any (IntKind.u8.wrap c.place) c.r.x w (by omega) (by omega) hx.1 hx.2)
  clear q
  have HX : Hid (∀ w3, Below w.heap.size w w3 → w3.cell? ⟨g, 15, none⟩ = some (.int .u16 c.place) ∧ w3.cell? ⟨g, 1, none⟩ = some (.int .u8 c.r.x)) := Lib.hid (fun w3 hb => ⟨(hb.cell hlt).trans c15, (hb.cell hlt).trans c1⟩)
  go_enter Tryz.func118, Tryz.ntmps118
  go_wp2_with fail
  go_region_with (go_at_call 162; refine (HZ.out _).mono ?_; rintro e w3 ⟨rfl, hb3⟩; have hb3' : Below w.heap.size w w3 := ⟨hb3.os, hb3.tape, hb3.output, hb3.size, hb3.block⟩; have K := (HX.out w3 hb3').1; have F := (Blk.below h hb3' hlt).frozen 15)
  all_goals
    go_wp2
    go_end0
    exact ⟨rfl, Blk.set_ (Blk.below h hb3' hlt) 15 _, only_set (below_only hb3') _⟩
end Go.Proofs.YtifajfjiloajfaaGreatDoor.OwnCpu
namespace Go.Proofs.YtifajfjiloajfaaGreatDoor.OwnCpu
open Go.RowKit Go.Proofs.YtifajfjiloajfaaGreatDoor.Own Go.Proofs.YtifajfjiloajfaaGreatDoor.OwnEff Go.Proofs.YtifajfjiloajfaaGreatDoor.OwnAddr

theorem lays_any (a v : Int) (w : World) : Calls Tryz.prog 157 #[.int .u16 a, .int .u8 v] w fun e w' => e = .returned (.agg #[.int .u16 a, .int .u8 v, .bool true]) ∧ Below w.heap.size w w' := by
  go_enter Tryz.func157, Tryz.ntmps157
  go_wp2
  refine bodyPost_ret (v := .agg #[.int .u16 a, .int .u8 v, .bool true]) ?_ rfl ⟨rfl, (Below.refl _ _).alloc (Nat.le_refl _) _⟩
  simp [results, Tryz.results157, go_sem]
theorem last_any (g : Nat) (w : World) : Calls Tryz.prog 136 #[.pointer (some ⟨g, 0, none⟩)] w fun e w' => e = .returned (.agg #[.int .u16 65535, .int .u8 0, .bool false]) ∧ Below w.heap.size w w' := by
  go_enter Tryz.func136, Tryz.ntmps136
  go_wp2
  refine bodyPost_ret (v := .agg #[.int .u16 65535, .int .u8 0, .bool false]) ?_ rfl ⟨rfl, (Below.refl _ _).alloc (Nat.le_refl _) _⟩
  simp [results, Tryz.results136, go_sem]
theorem stackW_any (g : Nat) (c : C) (plan : Value) (w : World) (h : CAt w g c plan) (hs : By c.r.s) : Calls Tryz.prog 53 #[.pointer (some ⟨g, 0, none⟩)] w fun e w' => e = .returned (.agg #[.int .u16 (256 + c.r.s), .int .u8 0, .bool false]) ∧ Below w.heap.size w w' := by
  have hc : w.cell? ⟨g, 3, none⟩ = some (.int .u8 c.r.s) := (Blk.cell h 3).trans rfl
  have hlt := Blk.lt h
  have HS := Lib.hid (fun w => stack_any c.r.s w hs.1 hs.2)
  clear h
  go_enter Tryz.func53, Tryz.ntmps53
  go_wp2_with (go_at_call 78; refine (HS.out _).mono ?_; rintro e w' ⟨rfl, rfl⟩)
  refine bodyPost_ret (v := .agg #[.int .u16 (256 + c.r.s), .int .u8 0, .bool false]) ?_ rfl ⟨rfl, (Below.refl _ _).alloc (Nat.le_refl _) _⟩
  simp [results, Tryz.results53, go_sem]
theorem res_keeps (w w3 : World) (hb3 : Below (w.alloc (.cells #[.int .u16 0, .int .u8 0, .bool false] 44)).heap.size (w.alloc (.cells #[.int .u16 0, .int .u8 0, .bool false] 44)) w3) :
    w3.cell? ⟨w.heap.size, 0, none⟩ = some (.int .u16 0) ∧ w3.cell? ⟨w.heap.size, 1, none⟩ = some (.int .u8 0) ∧ w3.cell? ⟨w.heap.size, 2, none⟩ = some (.bool false) ∧ w3.frozen? ⟨w.heap.size, 0, none⟩ = false ∧ w3.frozen? ⟨w.heap.size, 1, none⟩ = false ∧ w3.frozen? ⟨w.heap.size, 2, none⟩ = false ∧ Below w.heap.size w w3 := by
  have hlt : w.heap.size < (w.alloc (.cells #[.int .u16 0, .int .u8 0, .bool false] 44)).heap.size := by simp
  have B3 := (Blk.new w 44 #[.int .u16 0, .int .u8 0, .bool false]).below hb3 hlt
  exact ⟨(B3.cell 0).trans rfl, (B3.cell 1).trans rfl, (B3.cell 2).trans rfl, B3.frozen 0, B3.frozen 1, B3.frozen 2, ((Below.refl w.heap.size w).alloc (Nat.le_refl _) _).trans (hb3.mono (Nat.le_of_lt hlt))⟩
set_option maxHeartbeats 3200000 in
theorem old_any (g : Nat) (c : C) (plan : Value) (w : World) (h : CAt w g c plan) : Calls Tryz.prog 141 #[.pointer (some ⟨g, 0, none⟩)] w fun e w' => e = .returned (.agg #[.int .u16 c.place, .int .u8 c.m, .bool true]) ∧ Below w.heap.size w w' := by
  have h15 : w.cell? ⟨g, 15, none⟩ = some (.int .u16 c.place) := (Blk.cell h 15).trans rfl
  have h12 : w.cell? ⟨g, 12, none⟩ = some (.int .u8 c.m) := (Blk.cell h 12).trans rfl
  have hlt := Blk.lt h
  have HL := Lib.hid (fun w => lays_any c.place c.m w)
  have HR := Lib.hid (res_keeps w)
  clear h
  go_enter Tryz.func141, Tryz.ntmps141
  go_wp2_with fail
  go_region_with (go_at_call 157; refine (HL.out _).mono ?_; rintro e w3 ⟨rfl, hb3⟩; obtain ⟨K0, K1, K2, F0, F1, F2, hb⟩ := HR.out w3 ⟨hb3.os, hb3.tape, hb3.output, hb3.size, hb3.block⟩)
  all_goals
    go_wp2
    refine bodyPost_ret (v := .agg #[.int .u16 c.place, .int .u8 c.m, .bool true]) ?_ rfl ⟨rfl, ((hb.setCell (Nat.le_refl _) _).setCell (Nat.le_refl _) _).setCell (Nat.le_refl _) _⟩
    simp [results, Tryz.results141, go_sem, K0, K1, K2]
end Go.Proofs.YtifajfjiloajfaaGreatDoor.OwnCpu
namespace Go.Proofs.YtifajfjiloajfaaGreatDoor.OwnCpu
open Go.RowKit Go.Proofs.YtifajfjiloajfaaGreatDoor.Own Go.Proofs.YtifajfjiloajfaaGreatDoor.OwnEff Go.Proofs.YtifajfjiloajfaaGreatDoor.OwnAddr

set_option maxHeartbeats 6400000 in
theorem pushHigh_any (g : Nat) (c : C) (plan : Value) (w : World) (h : CAt w g c plan) (hs : By c.r.s) (p0 : 0 ≤ c.r.pc) (p1 : c.r.pc < 65536) : Calls Tryz.prog 107 #[.pointer (some ⟨g, 0, none⟩)] w fun e w' => e = .returned (.agg #[.int .u16 (256 + c.r.s), .int .u8 (c.r.pc / 256), .bool true]) ∧ Below w.heap.size w w' := by
  have h3 : w.cell? ⟨g, 3, none⟩ = some (.int .u8 c.r.s) := (Blk.cell h 3).trans rfl
  have h5 : w.cell? ⟨g, 5, none⟩ = some (.int .u16 c.r.pc) := (Blk.cell h 5).trans rfl
  have hlt := Blk.lt h
  have HL := Lib.hid (fun w => lays_any (256 + c.r.s) (c.r.pc / 256) w)
  have HS := Lib.hid (fun w => stack_any c.r.s w hs.1 hs.2)
  have HH := Lib.hid (fun w => high_any c.r.pc w p0 p1)
  have HR := Lib.hid (res_keeps w)
  clear h
  go_enter Tryz.func107, Tryz.ntmps107
  go_wp2_with fail
  go_region_with (first
    | (go_at_call 157; refine (HL.out _).mono ?_; rintro e w3 ⟨rfl, hb3⟩; obtain ⟨K0, K1, K2, F0, F1, F2, hb⟩ := HR.out w3 ⟨hb3.os, hb3.tape, hb3.output, hb3.size, hb3.block⟩)
    | (go_at_call 78; refine (HS.out _).mono ?_; rintro e w' ⟨rfl, rfl⟩)
    | (go_at_call 158; refine (HH.out _).mono ?_; rintro e w' ⟨rfl, rfl⟩))
  all_goals
    go_wp2
    refine bodyPost_ret (v := .agg #[.int .u16 (256 + c.r.s), .int .u8 (c.r.pc / 256), .bool true]) ?_ rfl ⟨rfl, ((hb.setCell (Nat.le_refl _) _).setCell (Nat.le_refl _) _).setCell (Nat.le_refl _) _⟩
    simp [results, Tryz.results107, go_sem, K0, K1, K2]
end Go.Proofs.YtifajfjiloajfaaGreatDoor.OwnCpu

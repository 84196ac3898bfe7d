/- What the processor's cycles write: a changed byte. Conditions: the processor is a block of its cells; bytes are bytes. · What the processor's cycles ask for, the rest. Conditions: the processor is a block of its cells; bytes are bytes. · What the processor's cycles take: those that change all registers. Conditions: the processor is a block of its cells; bytes are bytes. · What the processor's cycles take, further. Conditions: the processor is a block of its cells; bytes are bytes. · What the processor's cycles take: behind a byte that was written, or changed. Conditions: the processor is a block of its cells; bytes are bytes. -/
import Derived.Test.YtifajfjiloajfaaGreatDoorMTakeC
import Derived.Test.YtifajfjiloajfaaGreatDoorEffJ
import Derived.Test.YtifajfjiloajfaaGreatDoorMKit
import Derived.Deep.CutRange
namespace Go.Proofs.YtifajfjiloajfaaGreatDoor.OwnCpu
open Go.RowKit Go.Proofs.YtifajfjiloajfaaGreatDoor.Own Go.Proofs.YtifajfjiloajfaaGreatDoor.OwnEff Go.Proofs.YtifajfjiloajfaaGreatDoor.OwnAddr

theorem lays_x (a v : Int) (w : World) : Calls Tryz.prog 157 #[.int .u16 a, .int .u8 v] w fun e w' => e = .returned (.agg #[.int .u16 a, .int .u8 v, .bool true]) ∧ w.alloc (.cells #[.int .u16 a, .int .u8 v, .bool true] 44) = w' := by
  go_enter Tryz.func157, Tryz.ntmps157
  go_wp2
  refine bodyPost_ret (v := .agg #[.int .u16 a, .int .u8 v, .bool true]) ?_ rfl ⟨rfl, rfl⟩
  simp [results, Tryz.results157, go_sem]
theorem res_keeps2 (w w3 : World) (hb3 : Below ((w.alloc (.cells #[.int .u16 0, .int .u8 0, .bool false] 44)).alloc (.cells #[.int .u8 0, .int .u8 0, .int .u8 0, .int .u8 0, .int .u8 0, .int .u16 0] 57)).heap.size ((w.alloc (.cells #[.int .u16 0, .int .u8 0, .bool false] 44)).alloc (.cells #[.int .u8 0, .int .u8 0, .int .u8 0, .int .u8 0, .int .u8 0, .int .u16 0] 57)) w3) :
    (w3.cell? ⟨w.heap.size, 0, none⟩ = some (.int .u16 0) ∧ w3.cell? ⟨w.heap.size, 1, none⟩ = some (.int .u8 0) ∧ w3.cell? ⟨w.heap.size, 2, none⟩ = some (.bool false) ∧ w3.frozen? ⟨w.heap.size, 0, none⟩ = false ∧ w3.frozen? ⟨w.heap.size, 1, none⟩ = false ∧ w3.frozen? ⟨w.heap.size, 2, none⟩ = false) ∧
    Blk w3 (w.heap.size + 1) 57 #[.int .u8 0, .int .u8 0, .int .u8 0, .int .u8 0, .int .u8 0, .int .u16 0] ∧ Below w.heap.size w w3 := by
  have B3 := ((Blk.new w 44 #[.int .u16 0, .int .u8 0, .bool false]).alloc (.cells #[.int .u8 0, .int .u8 0, .int .u8 0, .int .u8 0, .int .u8 0, .int .u16 0] 57)).below hb3 (by simp; omega)
  have B4 : Blk w3 (w.heap.size + 1) 57 #[.int .u8 0, .int .u8 0, .int .u8 0, .int .u8 0, .int .u8 0, .int .u16 0] := by
    have h := Blk.new (w.alloc (.cells #[.int .u16 0, .int .u8 0, .bool false] 44)) 57 #[.int .u8 0, .int .u8 0, .int .u8 0, .int .u8 0, .int .u8 0, .int .u16 0]
    simp only [World.size_alloc] at h
    exact h.below hb3 (by simp)
  exact ⟨⟨(B3.cell 0).trans rfl, (B3.cell 1).trans rfl, (B3.cell 2).trans rfl, B3.frozen 0, B3.frozen 1, B3.frozen 2⟩, B4, (((Below.refl w.heap.size w).alloc (Nat.le_refl _) _).alloc (by simp) _).trans (hb3.mono (by simp; omega))⟩
theorem res_blk (w w3 : World) (hb3 : Below (w.alloc (.cells #[.int .u16 0, .int .u8 0, .bool false] 44)).heap.size (w.alloc (.cells #[.int .u16 0, .int .u8 0, .bool false] 44)) w3) : Blk w3 w.heap.size 44 #[.int .u16 0, .int .u8 0, .bool false] :=
  (Blk.new w 44 #[.int .u16 0, .int .u8 0, .bool false]).below hb3 (by simp)
theorem res_blk2 (w w3 : World) (o : Obj) (hb3 : Below ((w.alloc (.cells #[.int .u16 0, .int .u8 0, .bool false] 44)).alloc o).heap.size ((w.alloc (.cells #[.int .u16 0, .int .u8 0, .bool false] 44)).alloc o) w3) : Blk w3 w.heap.size 44 #[.int .u16 0, .int .u8 0, .bool false] :=
  ((Blk.new w 44 #[.int .u16 0, .int .u8 0, .bool false]).alloc o).below hb3 (by simp; omega)
theorem cat_keeps {w w3 : World} {g : Nat} {c : C} {plan : Value} (h : CAt w g c plan) (hb : Below w.heap.size w w3) : CAt w3 g c plan := Blk.below h hb (Blk.lt h)
set_option maxHeartbeats 6400000 in
set_option maxRecDepth 100000 in
theorem changed_any (g : Nat) (c : C) (plan : Value) (w : World) (h : CAt w g c plan) (hr : c.r.ok) (hm : By c.m) : Calls Tryz.prog 142 #[.pointer (some ⟨g, 0, none⟩)] w fun e w' => e = .returned (.agg #[.int .u16 c.place, .int .u8 (modR c.name.toList c.r c.m).2, .bool true]) ∧ Below w.heap.size w w' := by
  have h0 : w.cell? ⟨g, 0, none⟩ = some (.int .u8 c.r.a) := (Blk.cell h 0).trans rfl
  have h1 : w.cell? ⟨g, 1, none⟩ = some (.int .u8 c.r.x) := (Blk.cell h 1).trans rfl
  have h2 : w.cell? ⟨g, 2, none⟩ = some (.int .u8 c.r.y) := (Blk.cell h 2).trans rfl
  have h3 : w.cell? ⟨g, 3, none⟩ = some (.int .u8 c.r.s) := (Blk.cell h 3).trans rfl
  have h4 : w.cell? ⟨g, 4, none⟩ = some (.int .u8 c.r.p) := (Blk.cell h 4).trans rfl
  have h5 : w.cell? ⟨g, 5, none⟩ = some (.int .u16 c.r.pc) := (Blk.cell h 5).trans rfl
  have h6 : w.cell? ⟨g, 6, none⟩ = some (.string c.name) := (Blk.cell h 6).trans rfl
  have h12 : w.cell? ⟨g, 12, none⟩ = some (.int .u8 c.m) := (Blk.cell h 12).trans rfl
  have h15 : w.cell? ⟨g, 15, none⟩ = some (.int .u16 c.place) := (Blk.cell h 15).trans rfl
  have hlt := Blk.lt h
  obtain ⟨q, hq⟩ : ∃ q, q = modR c.name.toList c.r c.m := ⟨_, rfl⟩
  have HM : Hid (∀ w, Calls Tryz.prog 170 #[.string c.name, .agg #[.int .u8 c.r.a, .int .u8 c.r.x, .int .u8 c.r.y, .int .u8 c.r.s, .int .u8 c.r.p, .int .u16 c.r.pc], .int .u8 c.m] w fun e w' => e = .returned (.tuple #[.agg #[.int .u8 q.1.a, .int .u8 q.1.x, .int .u8 q.1.y, .int .u8 q.1.s, .int .u8 q.1.p, .int .u16 q.1.pc], .int .u8 q.2]) ∧ Below w.heap.size w w') := Lib.hid (fun w => by have h := modifies_any c.name c.r c.m w hr hm; rw [← hq] at h; exact h)
  rw [← hq]
  clear hq
  have HL := Lib.hid (fun w => lays_any c.place q.2 w)
  have HR := Lib.hid (res_keeps2 w)
  have HR1 := Lib.hid (res_keeps w)
  have HB := Lib.hid (res_blk w)
  have HB2 := Lib.hid (res_blk2 w)
  have HC : Hid (∀ w3, Below w.heap.size w w3 → w3.cell? ⟨g, 15, none⟩ = some (.int .u16 c.place) ∧ (w3.cell? ⟨g, 0, none⟩ = some (.int .u8 c.r.a) ∧ w3.cell? ⟨g, 1, none⟩ = some (.int .u8 c.r.x) ∧ w3.cell? ⟨g, 2, none⟩ = some (.int .u8 c.r.y) ∧ w3.cell? ⟨g, 3, none⟩ = some (.int .u8 c.r.s) ∧ w3.cell? ⟨g, 4, none⟩ = some (.int .u8 c.r.p) ∧ w3.cell? ⟨g, 5, none⟩ = some (.int .u16 c.r.pc) ∧ w3.cell? ⟨g, 6, none⟩ = some (.string c.name) ∧ w3.cell? ⟨g, 12, none⟩ = some (.int .u8 c.m))) := Lib.hid (fun w3 hb => ⟨((Blk.below h hb hlt).cell 15).trans rfl, ((Blk.below h hb hlt).cell 0).trans rfl, ((Blk.below h hb hlt).cell 1).trans rfl, ((Blk.below h hb hlt).cell 2).trans rfl, ((Blk.below h hb hlt).cell 3).trans rfl, ((Blk.below h hb hlt).cell 4).trans rfl, ((Blk.below h hb hlt).cell 5).trans rfl, ((Blk.below h hb hlt).cell 6).trans rfl, ((Blk.below h hb hlt).cell 12).trans rfl⟩)
  have HK6 : Hid (∀ (w' : World) (v0 v1 v2 v3 v4 v5 : Value), (w'.cell? ⟨g, 0, none⟩ = some (.int .u8 c.r.a) ∧ w'.cell? ⟨g, 1, none⟩ = some (.int .u8 c.r.x) ∧ w'.cell? ⟨g, 2, none⟩ = some (.int .u8 c.r.y) ∧ w'.cell? ⟨g, 3, none⟩ = some (.int .u8 c.r.s) ∧ w'.cell? ⟨g, 4, none⟩ = some (.int .u8 c.r.p) ∧ w'.cell? ⟨g, 5, none⟩ = some (.int .u16 c.r.pc) ∧ w'.cell? ⟨g, 6, none⟩ = some (.string c.name) ∧ w'.cell? ⟨g, 12, none⟩ = some (.int .u8 c.m)) → (((((((w'.setCell ⟨w.heap.size + 1, 0, none⟩ v0).setCell ⟨w.heap.size + 1, 1, none⟩ v1).setCell ⟨w.heap.size + 1, 2, none⟩ v2).setCell ⟨w.heap.size + 1, 3, none⟩ v3).setCell ⟨w.heap.size + 1, 4, none⟩ v4).setCell ⟨w.heap.size + 1, 5, none⟩ v5).cell? ⟨g, 0, none⟩ = some (.int .u8 c.r.a) ∧ ((((((w'.setCell ⟨w.heap.size + 1, 0, none⟩ v0).setCell ⟨w.heap.size + 1, 1, none⟩ v1).setCell ⟨w.heap.size + 1, 2, none⟩ v2).setCell ⟨w.heap.size + 1, 3, none⟩ v3).setCell ⟨w.heap.size + 1, 4, none⟩ v4).setCell ⟨w.heap.size + 1, 5, none⟩ v5).cell? ⟨g, 1, none⟩ = some (.int .u8 c.r.x) ∧ ((((((w'.setCell ⟨w.heap.size + 1, 0, none⟩ v0).setCell ⟨w.heap.size + 1, 1, none⟩ v1).setCell ⟨w.heap.size + 1, 2, none⟩ v2).setCell ⟨w.heap.size + 1, 3, none⟩ v3).setCell ⟨w.heap.size + 1, 4, none⟩ v4).setCell ⟨w.heap.size + 1, 5, none⟩ v5).cell? ⟨g, 2, none⟩ = some (.int .u8 c.r.y) ∧ ((((((w'.setCell ⟨w.heap.size + 1, 0, none⟩ v0).setCell ⟨w.heap.size + 1, 1, none⟩ v1).setCell ⟨w.heap.size + 1, 2, none⟩ v2).setCell ⟨w.heap.size + 1, 3, none⟩ v3).setCell ⟨w.heap.size + 1, 4, none⟩ v4).setCell ⟨w.heap.size + 1, 5, none⟩ v5).cell? ⟨g, 3, none⟩ = some (.int .u8 c.r.s) ∧ ((((((w'.setCell ⟨w.heap.size + 1, 0, none⟩ v0).setCell ⟨w.heap.size + 1, 1, none⟩ v1).setCell ⟨w.heap.size + 1, 2, none⟩ v2).setCell ⟨w.heap.size + 1, 3, none⟩ v3).setCell ⟨w.heap.size + 1, 4, none⟩ v4).setCell ⟨w.heap.size + 1, 5, none⟩ v5).cell? ⟨g, 4, none⟩ = some (.int .u8 c.r.p) ∧ ((((((w'.setCell ⟨w.heap.size + 1, 0, none⟩ v0).setCell ⟨w.heap.size + 1, 1, none⟩ v1).setCell ⟨w.heap.size + 1, 2, none⟩ v2).setCell ⟨w.heap.size + 1, 3, none⟩ v3).setCell ⟨w.heap.size + 1, 4, none⟩ v4).setCell ⟨w.heap.size + 1, 5, none⟩ v5).cell? ⟨g, 5, none⟩ = some (.int .u16 c.r.pc) ∧ ((((((w'.setCell ⟨w.heap.size + 1, 0, none⟩ v0).setCell ⟨w.heap.size + 1, 1, none⟩ v1).setCell ⟨w.heap.size + 1, 2, none⟩ v2).setCell ⟨w.heap.size + 1, 3, none⟩ v3).setCell ⟨w.heap.size + 1, 4, none⟩ v4).setCell ⟨w.heap.size + 1, 5, none⟩ v5).cell? ⟨g, 6, none⟩ = some (.string c.name) ∧ ((((((w'.setCell ⟨w.heap.size + 1, 0, none⟩ v0).setCell ⟨w.heap.size + 1, 1, none⟩ v1).setCell ⟨w.heap.size + 1, 2, none⟩ v2).setCell ⟨w.heap.size + 1, 3, none⟩ v3).setCell ⟨w.heap.size + 1, 4, none⟩ v4).setCell ⟨w.heap.size + 1, 5, none⟩ v5).cell? ⟨g, 12, none⟩ = some (.int .u8 c.m))) := Lib.hid (fun w' v0 v1 v2 v3 v4 v5 hs => by
    have e : ∀ i, ((((((w'.setCell ⟨w.heap.size + 1, 0, none⟩ v0).setCell ⟨w.heap.size + 1, 1, none⟩ v1).setCell ⟨w.heap.size + 1, 2, none⟩ v2).setCell ⟨w.heap.size + 1, 3, none⟩ v3).setCell ⟨w.heap.size + 1, 4, none⟩ v4).setCell ⟨w.heap.size + 1, 5, none⟩ v5).cell? ⟨g, i, none⟩ = w'.cell? ⟨g, i, none⟩ := fun i => by
      have hne : ∀ j, (⟨w.heap.size + 1, j, none⟩ : Addr) ≠ ⟨g, i, none⟩ := fun j e => by have := congrArg Addr.block e; simp at this; omega
      rw [World.cell?_setCell_other _ _ _ _ (hne _), World.cell?_setCell_other _ _ _ _ (hne _), World.cell?_setCell_other _ _ _ _ (hne _), World.cell?_setCell_other _ _ _ _ (hne _), World.cell?_setCell_other _ _ _ _ (hne _), World.cell?_setCell_other _ _ _ _ (hne _)]
    simpa only [e] using hs)
  have HMA : Hid (Calls Tryz.prog 170 #[.string c.name, .agg #[.int .u8 c.r.a, .int .u8 c.r.x, .int .u8 c.r.y, .int .u8 c.r.s, .int .u8 c.r.p, .int .u16 c.r.pc], .int .u8 c.m] ((w.alloc (.cells #[.int .u16 0, .int .u8 0, .bool false] 44)).alloc (.cells #[.int .u8 0, .int .u8 0, .int .u8 0, .int .u8 0, .int .u8 0, .int .u16 0] 57)).drew fun e w3 => e = .returned (.tuple #[.agg #[.int .u8 q.1.a, .int .u8 q.1.x, .int .u8 q.1.y, .int .u8 q.1.s, .int .u8 q.1.p, .int .u16 q.1.pc], .int .u8 q.2]) ∧ Below ((w.alloc (.cells #[.int .u16 0, .int .u8 0, .bool false] 44)).alloc (.cells #[.int .u8 0, .int .u8 0, .int .u8 0, .int .u8 0, .int .u8 0, .int .u16 0] 57)).drew.heap.size ((w.alloc (.cells #[.int .u16 0, .int .u8 0, .bool false] 44)).alloc (.cells #[.int .u8 0, .int .u8 0, .int .u8 0, .int .u8 0, .int .u8 0, .int .u16 0] 57)).drew w3) := Lib.hid (HM.out _)
  have HMB : Hid (Calls Tryz.prog 170 #[.string c.name, .agg #[.int .u8 c.r.a, .int .u8 c.r.x, .int .u8 c.r.y, .int .u8 c.r.s, .int .u8 c.r.p, .int .u16 c.r.pc], .int .u8 c.m] (w.alloc (.cells #[.int .u16 0, .int .u8 0, .bool false] 44)).drew fun e w3 => e = .returned (.tuple #[.agg #[.int .u8 q.1.a, .int .u8 q.1.x, .int .u8 q.1.y, .int .u8 q.1.s, .int .u8 q.1.p, .int .u16 q.1.pc], .int .u8 q.2]) ∧ Below (w.alloc (.cells #[.int .u16 0, .int .u8 0, .bool false] 44)).drew.heap.size (w.alloc (.cells #[.int .u16 0, .int .u8 0, .bool false] 44)).drew w3) := Lib.hid (HM.out _)
  have hs0 := (HC.out w (Below.refl _ _)).2
  clear h
  go_enter Tryz.func142, Tryz.ntmps142
  go_upto_region 1 with (fail)
  go_cut [3, 4] from 5 to 27 (fun _ v wx => v = .int .u8 q.2 ∧ Blk wx w.heap.size 44 #[.int .u16 0, .int .u8 0, .bool false] ∧ Below w.heap.size w wx)
  case first =>
    go_region_held3 (fun w' => w'.cell? ⟨g, 0, none⟩ = some (.int .u8 c.r.a) ∧ w'.cell? ⟨g, 1, none⟩ = some (.int .u8 c.r.x) ∧ w'.cell? ⟨g, 2, none⟩ = some (.int .u8 c.r.y) ∧ w'.cell? ⟨g, 3, none⟩ = some (.int .u8 c.r.s) ∧ w'.cell? ⟨g, 4, none⟩ = some (.int .u8 c.r.p) ∧ w'.cell? ⟨g, 5, none⟩ = some (.int .u16 c.r.pc) ∧ w'.cell? ⟨g, 6, none⟩ = some (.string c.name) ∧ w'.cell? ⟨g, 12, none⟩ = some (.int .u8 c.m)) (first | (with_reducible exact hs3) | (with_reducible exact hs0) | (with_reducible exact HK6.out _ _ _ _ _ _ _ hs3) | go_keep)
      ((go_at_call 170; first
        | ((with_reducible refine HMA.out.mono ?_); rintro e w3 ⟨rfl, hb3⟩; obtain ⟨⟨K0, K1, K2, F0, F1, F2⟩, B4, hb⟩ := HR.out w3 ⟨hb3.os, hb3.tape, hb3.output, hb3.size, hb3.block⟩; obtain ⟨⟨Z0, Z1, Z2, Z3, Z4, Z5⟩, G0, G1, G2, G3, G4, G5⟩ := cells6 B4; obtain ⟨K15, hs3⟩ := HC.out w3 hb; have hb6 := Lib.hid hb; have BR := Lib.hid (HB2.out w3 _ ⟨hb3.os, hb3.tape, hb3.output, hb3.size, hb3.block⟩); clear B4 hb)
        | ((with_reducible refine HMB.out.mono ?_); rintro e w3 ⟨rfl, hb3⟩; obtain ⟨K0, K1, K2, F0, F1, F2, hb⟩ := HR1.out w3 ⟨hb3.os, hb3.tape, hb3.output, hb3.size, hb3.block⟩; obtain ⟨K15, hs3⟩ := HC.out w3 hb; have hb6 := Lib.hid hb; have BR := Lib.hid (HB.out w3 ⟨hb3.os, hb3.tape, hb3.output, hb3.size, hb3.block⟩); clear hb; have hg3 : g < w3.heap.size := World.block_lt_of_cell? _ _ K15; have hH3 : w.heap.size < w3.heap.size := World.block_lt_of_cell? _ _ K0)))
    all_goals
      go_wp2_with fail
      go_meet
    · exact ⟨rfl, BR.out.alloc _, hb6.out.alloc hb6.out.size _⟩
    · exact ⟨rfl, ((((((BR.out.far (by simp) _).far (by simp) _).far (by simp) _).far (by simp) _).far (by simp) _).far (by simp) _), (((((hb6.out.setCell (Nat.le_succ _) _).setCell (Nat.le_succ _) _).setCell (Nat.le_succ _) _).setCell (Nat.le_succ _) _).setCell (Nat.le_succ _) _).setCell (Nat.le_succ _) _⟩
  case rest =>
    obtain ⟨rfl, B1, hb⟩ := hcut
    have K15 := (HC.out wc hb).1
    have hbb := Lib.hid hb
    have HB1 := Lib.hid B1
    clear B1 hb
    have HF : Hid (∀ w4, Below wc.heap.size wc w4 → ((w4.cell? ⟨w.heap.size, 0, none⟩ = some (.int .u16 0) ∧ w4.cell? ⟨w.heap.size, 1, none⟩ = some (.int .u8 0) ∧ w4.cell? ⟨w.heap.size, 2, none⟩ = some (.bool false)) ∧ w4.frozen? ⟨w.heap.size, 0, none⟩ = false ∧ w4.frozen? ⟨w.heap.size, 1, none⟩ = false ∧ w4.frozen? ⟨w.heap.size, 2, none⟩ = false) ∧ Below w.heap.size w w4) := Lib.hid (fun w4 h4 => by
      have B := HB1.out.below h4 HB1.out.lt
      exact ⟨⟨⟨(B.cell 0).trans rfl, (B.cell 1).trans rfl, (B.cell 2).trans rfl⟩, B.frozen 0, B.frozen 1, B.frozen 2⟩, hbb.out.trans (h4.mono hbb.out.size)⟩)
    go_wp2_with (go_at_call 157; refine (HL.out _).mono ?_; rintro e w4 ⟨rfl, hb4⟩; obtain ⟨⟨⟨K0, K1, K2⟩, F0, F1, F2⟩, hb⟩ := HF.out w4 hb4)
    refine bodyPost_ret (v := .agg #[.int .u16 c.place, .int .u8 q.2, .bool true]) ?_ rfl ⟨rfl, ((hb.setCell (Nat.le_refl _) _).setCell (Nat.le_refl _) _).setCell (Nat.le_refl _) _⟩
    simp [results, Tryz.results142, go_sem, K0, K1, K2]
end Go.Proofs.YtifajfjiloajfaaGreatDoor.OwnCpu
namespace Go.Proofs.YtifajfjiloajfaaGreatDoor.OwnCpu
open Go.RowKit Go.Proofs.YtifajfjiloajfaaGreatDoor.Own Go.Proofs.YtifajfjiloajfaaGreatDoor.OwnEff Go.Proofs.YtifajfjiloajfaaGreatDoor.OwnAddr

/-- Behind the result's own block nothing old has changed, and the result is still empty. -/
def Gd (w w' : World) : Prop := Below (w.heap.size + 1) (w.alloc (.cells #[.int .u16 0, .int .u8 0, .bool false] 44)) w'
theorem Gd.start (w : World) : Gd w (w.alloc (.cells #[.int .u16 0, .int .u8 0, .bool false] 44)) := Below.refl _ _
theorem Gd.drew {w w' : World} (h : Gd w w') : Gd w w'.drew := Below.drew h
theorem Gd.next {w w' w2 : World} (h : Gd w w') (k : Below w'.heap.size w' w2) : Gd w w2 := Below.trans h (k.mono (by have := h.size; simpa using this))
theorem Gd.below {w w' : World} (h : Gd w w') : Below w.heap.size w w' := ((Below.refl w.heap.size w).alloc (Nat.le_refl _) _).trans (Below.mono h (Nat.le_succ _))
theorem Gd.res {w w' : World} (h : Gd w w') : (w'.cell? ⟨w.heap.size, 0, none⟩ = some (.int .u16 0) ∧ w'.cell? ⟨w.heap.size, 1, none⟩ = some (.int .u8 0) ∧ w'.cell? ⟨w.heap.size, 2, none⟩ = some (.bool false)) ∧ w'.frozen? ⟨w.heap.size, 0, none⟩ = false ∧ w'.frozen? ⟨w.heap.size, 1, none⟩ = false ∧ w'.frozen? ⟨w.heap.size, 2, none⟩ = false := by
  have B : Blk w' w.heap.size 44 #[.int .u16 0, .int .u8 0, .bool false] := (Blk.new w 44 _).below h (Nat.lt_succ_self _)
  exact ⟨⟨(B.cell 0).trans rfl, (B.cell 1).trans rfl, (B.cell 2).trans rfl⟩, B.frozen 0, B.frozen 1, B.frozen 2⟩
theorem lift_gd {f : FuncId} {args : Array Value} {r : Ending} (H : ∀ w, Calls Tryz.prog f args w fun e w' => e = r ∧ Below w.heap.size w w') (w W : World) (h : Gd w W) : Calls Tryz.prog f args W fun e w' => e = r ∧ Gd w w' :=
  (H W).mono fun _ _ k => ⟨k.1, h.next k.2⟩
set_option maxHeartbeats 6400000 in
set_option maxRecDepth 100000 in
theorem behind_any (g : Nat) (c : C) (plan : Value) (w : World) (h : CAt w g c plan) (p0 : 0 ≤ c.place) (p1 : c.place < 65536) : Calls Tryz.prog 171 #[.pointer (some ⟨g, 0, none⟩)] w fun e w' => e = .returned (.agg #[.int .u16 (roughV c.place 1), .int .u8 (0), .bool false]) ∧ Below w.heap.size w w' := by
  have h15 : w.cell? ⟨g, 15, none⟩ = some (.int .u16 c.place) := (Blk.cell h 15).trans rfl
  have hlt := Blk.lt h
  have HN := Lib.hid (lift_gd (fun w => OwnAddr.next_any c.place w p0 p1) w _ (Gd.start w))
  clear h p0 p1
  obtain ⟨v, hv⟩ : ∃ v, v = roughV c.place 1 := ⟨_, rfl⟩
  rw [← hv] at HN ⊢
  clear hv
  go_enter Tryz.func171, Tryz.ntmps171
  go_wp2_with (go_at_call 188; refine HN.out.mono ?_; rintro e w3 ⟨rfl, g3⟩; obtain ⟨⟨R0, R1, R2⟩, Q0, Q1, Q2⟩ := Gd.res g3; have gg := Lib.hid g3; clear g3)
  refine bodyPost_ret (v := .agg #[.int .u16 (v), .int .u8 (0), .bool false]) ?_ rfl ⟨rfl, (((Gd.below gg.out).setCell (Nat.le_refl _) _).setCell (Nat.le_refl _) _).setCell (Nat.le_refl _) _⟩
  simp [results, Tryz.results171, go_sem, *]
set_option maxHeartbeats 6400000 in
set_option maxRecDepth 100000 in
theorem pointed_any (g : Nat) (c : C) (plan : Value) (w : World) (h : CAt w g c plan) : Calls Tryz.prog 126 #[.pointer (some ⟨g, 0, none⟩)] w fun e w' => e = .returned (.agg #[.int .u16 ((IntKind.u8.wrap c.base + 1) % 256), .int .u8 (0), .bool false]) ∧ Below w.heap.size w w' := by
  have h13 : w.cell? ⟨g, 13, none⟩ = some (.int .u16 c.base) := (Blk.cell h 13).trans rfl
  have hlt := Blk.lt h
  have q := w8 c.base
  have HN := Lib.hid (lift_gd (fun w => zero_any (IntKind.u8.wrap c.base) 1 w (by omega) (by omega) (by decide) (by decide)) w _ (Gd.start w))
  clear h q
  obtain ⟨v, hv⟩ : ∃ v, v = (IntKind.u8.wrap c.base + 1) % 256 := ⟨_, rfl⟩
  rw [← hv] at HN ⊢
  clear hv
  go_enter Tryz.func126, Tryz.ntmps126
  go_wp2_with (go_at_call 162; refine HN.out.mono ?_; rintro e w3 ⟨rfl, g3⟩; obtain ⟨⟨R0, R1, R2⟩, Q0, Q1, Q2⟩ := Gd.res g3; have gg := Lib.hid g3; clear g3)
  refine bodyPost_ret (v := .agg #[.int .u16 (v), .int .u8 (0), .bool false]) ?_ rfl ⟨rfl, (((Gd.below gg.out).setCell (Nat.le_refl _) _).setCell (Nat.le_refl _) _).setCell (Nat.le_refl _) _⟩
  simp [results, Tryz.results126, go_sem, *]
set_option maxHeartbeats 6400000 in
set_option maxRecDepth 100000 in
theorem pushLow_any (g : Nat) (c : C) (plan : Value) (w : World) (h : CAt w g c plan) (hs : By c.r.s) : Calls Tryz.prog 108 #[.pointer (some ⟨g, 0, none⟩)] w fun e w' => e = .returned (.agg #[.int .u16 (256 + c.r.s), .int .u8 (IntKind.u8.wrap c.r.pc), .bool true]) ∧ Below w.heap.size w w' := by
  have hlt := Blk.lt h
  have HS := Lib.hid (fun w => stack_any c.r.s w hs.1 hs.2)
  have HL := Lib.hid (lift_gd (fun w => lays_any (256 + c.r.s) (IntKind.u8.wrap c.r.pc) w) w)
  have HC : Hid (∀ w', Gd w w' → (w'.cell? ⟨g, 3, none⟩ = some (.int .u8 c.r.s) ∧ w'.cell? ⟨g, 5, none⟩ = some (.int .u16 c.r.pc))) := Lib.hid (fun w' hg => ⟨((Blk.below h (Gd.below hg) hlt).cell 3).trans rfl, ((Blk.below h (Gd.below hg) hlt).cell 5).trans rfl⟩)
  have HK3 : Hid (∀ (w' : World) (v0 v1 v2 : Value), (w'.cell? ⟨g, 3, none⟩ = some (.int .u8 c.r.s) ∧ w'.cell? ⟨g, 5, none⟩ = some (.int .u16 c.r.pc)) → ((((w'.setCell ⟨w.heap.size, 0, none⟩ v0).setCell ⟨w.heap.size, 1, none⟩ v1).setCell ⟨w.heap.size, 2, none⟩ v2).cell? ⟨g, 3, none⟩ = some (.int .u8 c.r.s) ∧ (((w'.setCell ⟨w.heap.size, 0, none⟩ v0).setCell ⟨w.heap.size, 1, none⟩ v1).setCell ⟨w.heap.size, 2, none⟩ v2).cell? ⟨g, 5, none⟩ = some (.int .u16 c.r.pc))) := Lib.hid (fun w' v0 v1 v2 hs => by
    have e : ∀ i, (((w'.setCell ⟨w.heap.size, 0, none⟩ v0).setCell ⟨w.heap.size, 1, none⟩ v1).setCell ⟨w.heap.size, 2, none⟩ v2).cell? ⟨g, i, none⟩ = w'.cell? ⟨g, i, none⟩ := fun i => by
      have hne : ∀ j, (⟨w.heap.size, j, none⟩ : Addr) ≠ ⟨g, i, none⟩ := fun j e => by have := congrArg Addr.block e; simp at this; omega
      rw [World.cell?_setCell_other _ _ _ _ (hne _), World.cell?_setCell_other _ _ _ _ (hne _), World.cell?_setCell_other _ _ _ _ (hne _)]
    simpa only [e] using hs)
  have g0 := (Gd.start w).drew
  have hs0 := HC.out _ g0
  clear h
  go_enter Tryz.func108, Tryz.ntmps108
  go_wp2_with fail
  go_region_held3 (fun w' => w'.cell? ⟨g, 3, none⟩ = some (.int .u8 c.r.s) ∧ w'.cell? ⟨g, 5, none⟩ = some (.int .u16 c.r.pc)) (first | (with_reducible exact hs3) | (with_reducible exact hs0) | (with_reducible exact HK3.out _ _ _ _ hs3) | go_keep)
    (first
      | (go_at_call 78; refine (HS.out _).mono ?_; rintro e w' ⟨rfl, rfl⟩)
      | (go_at_call 157; refine (HL.out _ ?_).mono ?_; (focus assumption); rintro e w3 ⟨rfl, g3⟩; obtain ⟨⟨R0, R1, R2⟩, Q0, Q1, Q2⟩ := Gd.res g3; have hs3 := HC.out w3 g3; have gg := Lib.hid g3))
  all_goals
    go_wp2
    refine bodyPost_ret (v := .agg #[.int .u16 (256 + c.r.s), .int .u8 (IntKind.u8.wrap c.r.pc), .bool true]) ?_ rfl ⟨rfl, (((Gd.below gg.out).setCell (Nat.le_refl _) _).setCell (Nat.le_refl _) _).setCell (Nat.le_refl _) _⟩
    simp [results, Tryz.results108, go_sem, *]
set_option maxHeartbeats 6400000 in
set_option maxRecDepth 100000 in
theorem pushReg_any (g : Nat) (c : C) (plan : Value) (w : World) (h : CAt w g c plan) (hs : By c.r.s) : Calls Tryz.prog 131 #[.pointer (some ⟨g, 0, none⟩)] w fun e w' => e = .returned (.agg #[.int .u16 (256 + c.r.s), .int .u8 (pushesV c.name.toList c.r), .bool true]) ∧ Below w.heap.size w w' := by
  have hlt := Blk.lt h
  have HS := Lib.hid (fun w => stack_any c.r.s w hs.1 hs.2)
  obtain ⟨v, hv⟩ : ∃ v, v = pushesV c.name.toList c.r := ⟨_, rfl⟩
  have HP := Lib.hid (lift_gd (f := 159) (args := #[.string c.name, .agg #[.int .u8 c.r.a, .int .u8 c.r.x, .int .u8 c.r.y, .int .u8 c.r.s, .int .u8 c.r.p, .int .u16 c.r.pc]]) (r := .returned (.int .u8 v)) (fun w => by have h := pushes_any c.name c.r w; rw [← hv] at h; exact h) w)
  rw [← hv]
  clear hv
  have HL := Lib.hid (lift_gd (fun w => lays_any (256 + c.r.s) v w) w)
  have HC : Hid (∀ w', Gd w w' → (w'.cell? ⟨g, 0, none⟩ = some (.int .u8 c.r.a) ∧ w'.cell? ⟨g, 1, none⟩ = some (.int .u8 c.r.x) ∧ w'.cell? ⟨g, 2, none⟩ = some (.int .u8 c.r.y) ∧ w'.cell? ⟨g, 3, none⟩ = some (.int .u8 c.r.s) ∧ w'.cell? ⟨g, 4, none⟩ = some (.int .u8 c.r.p) ∧ w'.cell? ⟨g, 5, none⟩ = some (.int .u16 c.r.pc) ∧ w'.cell? ⟨g, 6, none⟩ = some (.string c.name))) := Lib.hid (fun w' hg => ⟨((Blk.below h (Gd.below hg) hlt).cell 0).trans rfl, ((Blk.below h (Gd.below hg) hlt).cell 1).trans rfl, ((Blk.below h (Gd.below hg) hlt).cell 2).trans rfl, ((Blk.below h (Gd.below hg) hlt).cell 3).trans rfl, ((Blk.below h (Gd.below hg) hlt).cell 4).trans rfl, ((Blk.below h (Gd.below hg) hlt).cell 5).trans rfl, ((Blk.below h (Gd.below hg) hlt).cell 6).trans rfl⟩)
  have HK3 : Hid (∀ (w' : World) (v0 v1 v2 : Value), (w'.cell? ⟨g, 0, none⟩ = some (.int .u8 c.r.a) ∧ w'.cell? ⟨g, 1, none⟩ = some (.int .u8 c.r.x) ∧ w'.cell? ⟨g, 2, none⟩ = some (.int .u8 c.r.y) ∧ w'.cell? ⟨g, 3, none⟩ = some (.int .u8 c.r.s) ∧ w'.cell? ⟨g, 4, none⟩ = some (.int .u8 c.r.p) ∧ w'.cell? ⟨g, 5, none⟩ = some (.int .u16 c.r.pc) ∧ w'.cell? ⟨g, 6, none⟩ = some (.string c.name)) → ((((w'.setCell ⟨w.heap.size, 0, none⟩ v0).setCell ⟨w.heap.size, 1, none⟩ v1).setCell ⟨w.heap.size, 2, none⟩ v2).cell? ⟨g, 0, none⟩ = some (.int .u8 c.r.a) ∧ (((w'.setCell ⟨w.heap.size, 0, none⟩ v0).setCell ⟨w.heap.size, 1, none⟩ v1).setCell ⟨w.heap.size, 2, none⟩ v2).cell? ⟨g, 1, none⟩ = some (.int .u8 c.r.x) ∧ (((w'.setCell ⟨w.heap.size, 0, none⟩ v0).setCell ⟨w.heap.size, 1, none⟩ v1).setCell ⟨w.heap.size, 2, none⟩ v2).cell? ⟨g, 2, none⟩ = some (.int .u8 c.r.y) ∧ (((w'.setCell ⟨w.heap.size, 0, none⟩ v0).setCell ⟨w.heap.size, 1, none⟩ v1).setCell ⟨w.heap.size, 2, none⟩ v2).cell? ⟨g, 3, none⟩ = some (.int .u8 c.r.s) ∧ (((w'.setCell ⟨w.heap.size, 0, none⟩ v0).setCell ⟨w.heap.size, 1, none⟩ v1).setCell ⟨w.heap.size, 2, none⟩ v2).cell? ⟨g, 4, none⟩ = some (.int .u8 c.r.p) ∧ (((w'.setCell ⟨w.heap.size, 0, none⟩ v0).setCell ⟨w.heap.size, 1, none⟩ v1).setCell ⟨w.heap.size, 2, none⟩ v2).cell? ⟨g, 5, none⟩ = some (.int .u16 c.r.pc) ∧ (((w'.setCell ⟨w.heap.size, 0, none⟩ v0).setCell ⟨w.heap.size, 1, none⟩ v1).setCell ⟨w.heap.size, 2, none⟩ v2).cell? ⟨g, 6, none⟩ = some (.string c.name))) := Lib.hid (fun w' v0 v1 v2 hs => by
    have e : ∀ i, (((w'.setCell ⟨w.heap.size, 0, none⟩ v0).setCell ⟨w.heap.size, 1, none⟩ v1).setCell ⟨w.heap.size, 2, none⟩ v2).cell? ⟨g, i, none⟩ = w'.cell? ⟨g, i, none⟩ := fun i => by
      have hne : ∀ j, (⟨w.heap.size, j, none⟩ : Addr) ≠ ⟨g, i, none⟩ := fun j e => by have := congrArg Addr.block e; simp at this; omega
      rw [World.cell?_setCell_other _ _ _ _ (hne _), World.cell?_setCell_other _ _ _ _ (hne _), World.cell?_setCell_other _ _ _ _ (hne _)]
    simpa only [e] using hs)
  have g0 := (Gd.start w).drew
  have hs0 := HC.out _ g0
  clear h
  go_enter Tryz.func131, Tryz.ntmps131
  go_wp2_with fail
  go_region_held3 (fun w' => w'.cell? ⟨g, 0, none⟩ = some (.int .u8 c.r.a) ∧ w'.cell? ⟨g, 1, none⟩ = some (.int .u8 c.r.x) ∧ w'.cell? ⟨g, 2, none⟩ = some (.int .u8 c.r.y) ∧ w'.cell? ⟨g, 3, none⟩ = some (.int .u8 c.r.s) ∧ w'.cell? ⟨g, 4, none⟩ = some (.int .u8 c.r.p) ∧ w'.cell? ⟨g, 5, none⟩ = some (.int .u16 c.r.pc) ∧ w'.cell? ⟨g, 6, none⟩ = some (.string c.name)) (first | (with_reducible exact hs3) | (with_reducible exact hs0) | (with_reducible exact HK3.out _ _ _ _ hs3) | go_keep)
    (first
      | (go_at_call 78; refine (HS.out _).mono ?_; rintro e w' ⟨rfl, rfl⟩)
      | (go_at_call 159; refine (HP.out _ ?_).mono ?_; (focus assumption); rintro e w3 ⟨rfl, g3⟩; obtain ⟨⟨R0, R1, R2⟩, Q0, Q1, Q2⟩ := Gd.res g3; have hs3 := HC.out w3 g3; have gg := Lib.hid g3)
      | (go_at_call 157; refine (HL.out _ ?_).mono ?_; (focus assumption); rintro e w3 ⟨rfl, g3⟩; obtain ⟨⟨R0, R1, R2⟩, Q0, Q1, Q2⟩ := Gd.res g3; have hs3 := HC.out w3 g3; have gg := Lib.hid g3))
  all_goals
    go_wp2
    refine bodyPost_ret (v := .agg #[.int .u16 (256 + c.r.s), .int .u8 v, .bool true]) ?_ rfl ⟨rfl, (((Gd.below gg.out).setCell (Nat.le_refl _) _).setCell (Nat.le_refl _) _).setCell (Nat.le_refl _) _⟩
    simp [results, Tryz.results131, go_sem, *]
set_option maxHeartbeats 6400000 in
set_option maxRecDepth 100000 in
theorem pushFlags_true_any (g : Nat) (c : C) (plan : Value) (w : World) (h : CAt w g c plan) (hs : By c.r.s) (hv : c.soft = true) : Calls Tryz.prog 109 #[.pointer (some ⟨g, 0, none⟩)] w fun e w' => e = .returned (.agg #[.int .u16 (256 + c.r.s), .int .u8 (Go.bits .or .u8 (Go.bits .or .u8 c.r.p 16) 32), .bool true]) ∧ Below w.heap.size w w' := by
  have hlt := Blk.lt h
  have h0 : w.cell? ⟨g, 0, none⟩ = some (.int .u8 c.r.a) := (Blk.cell h 0).trans rfl
  have h1 : w.cell? ⟨g, 1, none⟩ = some (.int .u8 c.r.x) := (Blk.cell h 1).trans rfl
  have h2 : w.cell? ⟨g, 2, none⟩ = some (.int .u8 c.r.y) := (Blk.cell h 2).trans rfl
  have h3 : w.cell? ⟨g, 3, none⟩ = some (.int .u8 c.r.s) := (Blk.cell h 3).trans rfl
  have h4 : w.cell? ⟨g, 4, none⟩ = some (.int .u8 c.r.p) := (Blk.cell h 4).trans rfl
  have h5 : w.cell? ⟨g, 5, none⟩ = some (.int .u16 c.r.pc) := (Blk.cell h 5).trans rfl
  have h18 : w.cell? ⟨g, 18, none⟩ = some (.bool true) := by rw [← hv]; exact (Blk.cell h 18).trans rfl
  have HS := Lib.hid (fun w => stack_any c.r.s w hs.1 hs.2)
  have HP := Lib.hid (lift_gd (f := 159) (args := #[.string ⟨#[80, 72, 80]⟩, .agg #[.int .u8 c.r.a, .int .u8 c.r.x, .int .u8 c.r.y, .int .u8 c.r.s, .int .u8 c.r.p, .int .u16 c.r.pc]]) (r := .returned (.int .u8 (Go.bits .or .u8 (Go.bits .or .u8 c.r.p 16) 32))) (fun w => by have h := pushes_any ⟨#[80, 72, 80]⟩ c.r w; rw [Lib.toList_data] at h; exact h) w)
  have HL := Lib.hid (lift_gd (fun w => lays_any (256 + c.r.s) (Go.bits .or .u8 (Go.bits .or .u8 c.r.p 16) 32) w) w)
  have HC : Hid (∀ w', Gd w w' → w'.cell? ⟨g, 3, none⟩ = some (.int .u8 c.r.s) ∧ w'.cell? ⟨g, 18, none⟩ = some (.bool true)) := Lib.hid (fun w' hg => ⟨((Blk.below h (Gd.below hg) hlt).cell 3).trans rfl, ((Gd.below hg).cell hlt).trans h18⟩)
  have g0 := Gd.start w
  clear h hv
  go_enter Tryz.func109, Tryz.ntmps109
  go_wp2_with (first
    | (go_at_call 78; refine (HS.out _).mono ?_; rintro e w' ⟨rfl, rfl⟩)
    | (go_at_call 159; refine (HP.out _ ?_).mono ?_; (focus assumption); rintro e w3 ⟨rfl, g3⟩; obtain ⟨k3, k18⟩ := HC.out w3 g3)
    | (go_at_call 157; refine (HL.out _ ?_).mono ?_; (focus assumption); rintro e w4 ⟨rfl, g4⟩; obtain ⟨⟨R0, R1, R2⟩, Q0, Q1, Q2⟩ := Gd.res g4; have gg := Lib.hid g4))
  refine bodyPost_ret (v := .agg #[.int .u16 (256 + c.r.s), .int .u8 (Go.bits .or .u8 (Go.bits .or .u8 c.r.p 16) 32), .bool true]) ?_ rfl ⟨rfl, (((Gd.below gg.out).setCell (Nat.le_refl _) _).setCell (Nat.le_refl _) _).setCell (Nat.le_refl _) _⟩
  simp [results, Tryz.results109, go_sem, *]
set_option maxHeartbeats 6400000 in
set_option maxRecDepth 100000 in
theorem pushFlags_false_any (g : Nat) (c : C) (plan : Value) (w : World) (h : CAt w g c plan) (hs : By c.r.s) (hv : c.soft = false) : Calls Tryz.prog 109 #[.pointer (some ⟨g, 0, none⟩)] w fun e w' => e = .returned (.agg #[.int .u16 (256 + c.r.s), .int .u8 (Go.bits .andNot .u8 (Go.bits .or .u8 (Go.bits .or .u8 c.r.p 16) 32) 16), .bool true]) ∧ Below w.heap.size w w' := by
  have hlt := Blk.lt h
  have h0 : w.cell? ⟨g, 0, none⟩ = some (.int .u8 c.r.a) := (Blk.cell h 0).trans rfl
  have h1 : w.cell? ⟨g, 1, none⟩ = some (.int .u8 c.r.x) := (Blk.cell h 1).trans rfl
  have h2 : w.cell? ⟨g, 2, none⟩ = some (.int .u8 c.r.y) := (Blk.cell h 2).trans rfl
  have h3 : w.cell? ⟨g, 3, none⟩ = some (.int .u8 c.r.s) := (Blk.cell h 3).trans rfl
  have h4 : w.cell? ⟨g, 4, none⟩ = some (.int .u8 c.r.p) := (Blk.cell h 4).trans rfl
  have h5 : w.cell? ⟨g, 5, none⟩ = some (.int .u16 c.r.pc) := (Blk.cell h 5).trans rfl
  have h18 : w.cell? ⟨g, 18, none⟩ = some (.bool false) := by rw [← hv]; exact (Blk.cell h 18).trans rfl
  have HS := Lib.hid (fun w => stack_any c.r.s w hs.1 hs.2)
  have HP := Lib.hid (lift_gd (f := 159) (args := #[.string ⟨#[80, 72, 80]⟩, .agg #[.int .u8 c.r.a, .int .u8 c.r.x, .int .u8 c.r.y, .int .u8 c.r.s, .int .u8 c.r.p, .int .u16 c.r.pc]]) (r := .returned (.int .u8 (Go.bits .or .u8 (Go.bits .or .u8 c.r.p 16) 32))) (fun w => by have h := pushes_any ⟨#[80, 72, 80]⟩ c.r w; rw [Lib.toList_data] at h; exact h) w)
  have HL := Lib.hid (lift_gd (fun w => lays_any (256 + c.r.s) (Go.bits .andNot .u8 (Go.bits .or .u8 (Go.bits .or .u8 c.r.p 16) 32) 16) w) w)
  have HC : Hid (∀ w', Gd w w' → w'.cell? ⟨g, 3, none⟩ = some (.int .u8 c.r.s) ∧ w'.cell? ⟨g, 18, none⟩ = some (.bool false)) := Lib.hid (fun w' hg => ⟨((Blk.below h (Gd.below hg) hlt).cell 3).trans rfl, ((Gd.below hg).cell hlt).trans h18⟩)
  have g0 := Gd.start w
  clear h hv
  go_enter Tryz.func109, Tryz.ntmps109
  go_wp2_with (first
    | (go_at_call 78; refine (HS.out _).mono ?_; rintro e w' ⟨rfl, rfl⟩)
    | (go_at_call 159; refine (HP.out _ ?_).mono ?_; (focus assumption); rintro e w3 ⟨rfl, g3⟩; obtain ⟨k3, k18⟩ := HC.out w3 g3)
    | (go_at_call 157; refine (HL.out _ ?_).mono ?_; (focus assumption); rintro e w4 ⟨rfl, g4⟩; obtain ⟨⟨R0, R1, R2⟩, Q0, Q1, Q2⟩ := Gd.res g4; have gg := Lib.hid g4))
  refine bodyPost_ret (v := .agg #[.int .u16 (256 + c.r.s), .int .u8 (Go.bits .andNot .u8 (Go.bits .or .u8 (Go.bits .or .u8 c.r.p 16) 32) 16), .bool true]) ?_ rfl ⟨rfl, (((Gd.below gg.out).setCell (Nat.le_refl _) _).setCell (Nat.le_refl _) _).setCell (Nat.le_refl _) _⟩
  simp [results, Tryz.results109, go_sem, *]
def flagsV (c : C) : Int := if c.soft = true then Go.bits .or .u8 (Go.bits .or .u8 c.r.p 16) 32 else Go.bits .andNot .u8 (Go.bits .or .u8 (Go.bits .or .u8 c.r.p 16) 32) 16
set_option maxHeartbeats 6400000 in
set_option maxRecDepth 100000 in
theorem pushFlags_any (g : Nat) (c : C) (plan : Value) (w : World) (h : CAt w g c plan) (hs : By c.r.s) : Calls Tryz.prog 109 #[.pointer (some ⟨g, 0, none⟩)] w fun e w' => e = .returned (.agg #[.int .u16 (256 + c.r.s), .int .u8 (flagsV c), .bool true]) ∧ Below w.heap.size w w' := by
  unfold flagsV
  cases hv : c.soft
  · exact pushFlags_false_any g c plan w h hs hv
  · exact pushFlags_true_any g c plan w h hs hv
end Go.Proofs.YtifajfjiloajfaaGreatDoor.OwnCpu
namespace Go.Proofs.YtifajfjiloajfaaGreatDoor.OwnCpu
open Go.RowKit Go.Proofs.YtifajfjiloajfaaGreatDoor.Own Go.Proofs.YtifajfjiloajfaaGreatDoor.OwnEff Go.Proofs.YtifajfjiloajfaaGreatDoor.OwnAddr

theorem regs_store {w3 : World} {g : Nat} {c : C} {plan : Value} (q : R) (B : CAt w3 g c plan) : CAt ((((((w3.setCell ⟨g, 0, none⟩ (.int .u8 q.a)).setCell ⟨g, 1, none⟩ (.int .u8 q.x)).setCell ⟨g, 2, none⟩ (.int .u8 q.y)).setCell ⟨g, 3, none⟩ (.int .u8 q.s)).setCell ⟨g, 4, none⟩ (.int .u8 q.p)).setCell ⟨g, 5, none⟩ (.int .u16 q.pc)) g { c with r := q } plan :=
  ((((((Blk.set_ B 0 (.int .u8 q.a)).set_ 1 (.int .u8 q.x)).set_ 2 (.int .u8 q.y)).set_ 3 (.int .u8 q.s)).set_ 4 (.int .u8 q.p)).set_ 5 (.int .u16 q.pc))
theorem regs_only {a w3 : World} {g : Nat} (q : R) (B : a.grownBy w3 (some g)) : a.grownBy ((((((w3.setCell ⟨g, 0, none⟩ (.int .u8 q.a)).setCell ⟨g, 1, none⟩ (.int .u8 q.x)).setCell ⟨g, 2, none⟩ (.int .u8 q.y)).setCell ⟨g, 3, none⟩ (.int .u8 q.s)).setCell ⟨g, 4, none⟩ (.int .u8 q.p)).setCell ⟨g, 5, none⟩ (.int .u16 q.pc)) (some g) :=
  only_set (only_set (only_set (only_set (only_set (only_set B _) _) _) _) _) _
theorem regs_facts {w3 : World} {g : Nat} {c : C} {plan : Value} (B : CAt w3 g c plan) :
    (w3.cell? ⟨g, 0, none⟩ = some (.int .u8 c.r.a) ∧ w3.cell? ⟨g, 1, none⟩ = some (.int .u8 c.r.x) ∧ w3.cell? ⟨g, 2, none⟩ = some (.int .u8 c.r.y) ∧ w3.cell? ⟨g, 3, none⟩ = some (.int .u8 c.r.s) ∧ w3.cell? ⟨g, 4, none⟩ = some (.int .u8 c.r.p) ∧ w3.cell? ⟨g, 5, none⟩ = some (.int .u16 c.r.pc)) ∧
    w3.frozen? ⟨g, 0, none⟩ = false ∧ w3.frozen? ⟨g, 1, none⟩ = false ∧ w3.frozen? ⟨g, 2, none⟩ = false ∧ w3.frozen? ⟨g, 3, none⟩ = false ∧ w3.frozen? ⟨g, 4, none⟩ = false ∧ w3.frozen? ⟨g, 5, none⟩ = false :=
  ⟨⟨(Blk.cell B 0).trans rfl, (Blk.cell B 1).trans rfl, (Blk.cell B 2).trans rfl, (Blk.cell B 3).trans rfl, (Blk.cell B 4).trans rfl, (Blk.cell B 5).trans rfl⟩, Blk.frozen B 0, Blk.frozen B 1, Blk.frozen B 2, Blk.frozen B 3, Blk.frozen B 4, Blk.frozen B 5⟩
set_option maxHeartbeats 6400000 in
set_option maxRecDepth 100000 in
theorem inner_any (g : Nat) (c : C) (plan : Value) (d : Int) (w : World) (h : CAt w g c plan) (hr : c.r.ok) : Calls Tryz.prog 130 #[.pointer (some ⟨g, 0, none⟩), .int .u8 d] w fun e w' => e = .returned (.tuple #[]) ∧ CAt w' g { c with r := innerR c.name.toList c.r } plan ∧ w.grownBy w' (some g) := by
  obtain ⟨⟨h0, h1, h2, h3, h4, h5⟩, _⟩ := regs_facts h
  have h6 : w.cell? ⟨g, 6, none⟩ = some (.string c.name) := (Blk.cell h 6).trans rfl
  have hlt := Blk.lt h
  obtain ⟨q, hq⟩ : ∃ q, q = innerR c.name.toList c.r := ⟨_, rfl⟩
  have HM : Hid (∀ w, Calls Tryz.prog 164 #[.string c.name, .agg #[.int .u8 c.r.a, .int .u8 c.r.x, .int .u8 c.r.y, .int .u8 c.r.s, .int .u8 c.r.p, .int .u16 c.r.pc]] w fun e w' => e = .returned (.agg #[.int .u8 q.a, .int .u8 q.x, .int .u8 q.y, .int .u8 q.s, .int .u8 q.p, .int .u16 q.pc]) ∧ Below w.heap.size w w') := Lib.hid (fun w => by have h := OwnEff.inner_any c.name c.r w hr; rw [← hq] at h; exact h)
  rw [← hq]
  clear hq
  have HC : Hid (∀ w3, Below w.heap.size w w3 → CAt w3 g c plan) := Lib.hid (fun w3 hb => Blk.below h hb hlt)
  clear h
  go_enter Tryz.func130, Tryz.ntmps130
  go_wp2_with fail
  go_region_with (go_at_call 164; refine (HM.out _).mono ?_; rintro e w3 ⟨rfl, hb3⟩; have hb := Lib.hid (show Below w.heap.size w w3 from ⟨hb3.os, hb3.tape, hb3.output, hb3.size, hb3.block⟩); obtain ⟨⟨K0, K1, K2, K3, K4, K5⟩, F0, F1, F2, F3, F4, F5⟩ := regs_facts (HC.out w3 hb.out); clear hb3)
  all_goals
    go_wp2
    go_end0
    exact ⟨rfl, regs_store q (HC.out w3 hb.out), regs_only q (below_only hb.out)⟩
set_option maxHeartbeats 6400000 in
set_option maxRecDepth 100000 in
theorem reads_any (g : Nat) (c : C) (plan : Value) (d : Int) (w : World) (h : CAt w g c plan) (hr : c.r.ok) (hd : By d) : Calls Tryz.prog 147 #[.pointer (some ⟨g, 0, none⟩), .int .u8 d] w fun e w' => e = .returned (.tuple #[]) ∧ CAt w' g { c with r := readsR c.name.toList c.r d } plan ∧ w.grownBy w' (some g) := by
  obtain ⟨⟨h0, h1, h2, h3, h4, h5⟩, _⟩ := regs_facts h
  have h6 : w.cell? ⟨g, 6, none⟩ = some (.string c.name) := (Blk.cell h 6).trans rfl
  have hlt := Blk.lt h
  obtain ⟨q, hq⟩ : ∃ q, q = readsR c.name.toList c.r d := ⟨_, rfl⟩
  have HM : Hid (∀ w, Calls Tryz.prog 175 #[.string c.name, .agg #[.int .u8 c.r.a, .int .u8 c.r.x, .int .u8 c.r.y, .int .u8 c.r.s, .int .u8 c.r.p, .int .u16 c.r.pc], .int .u8 d] w fun e w' => e = .returned (.agg #[.int .u8 q.a, .int .u8 q.x, .int .u8 q.y, .int .u8 q.s, .int .u8 q.p, .int .u16 q.pc]) ∧ Below w.heap.size w w') := Lib.hid (fun w => by have h := OwnEff.reads_any c.name c.r d w hr hd; rw [← hq] at h; exact h)
  rw [← hq]
  clear hq
  have HC : Hid (∀ w3, Below w.heap.size w w3 → CAt w3 g c plan) := Lib.hid (fun w3 hb => Blk.below h hb hlt)
  clear h
  go_enter Tryz.func147, Tryz.ntmps147
  go_wp2_with fail
  go_region_with (go_at_call 175; refine (HM.out _).mono ?_; rintro e w3 ⟨rfl, hb3⟩; have hb := Lib.hid (show Below w.heap.size w w3 from ⟨hb3.os, hb3.tape, hb3.output, hb3.size, hb3.block⟩); obtain ⟨⟨K0, K1, K2, K3, K4, K5⟩, F0, F1, F2, F3, F4, F5⟩ := regs_facts (HC.out w3 hb.out); clear hb3)
  all_goals
    go_wp2
    go_end0
    exact ⟨rfl, regs_store q (HC.out w3 hb.out), regs_only q (below_only hb.out)⟩
set_option maxHeartbeats 6400000 in
set_option maxRecDepth 100000 in
theorem pulls_any (g : Nat) (c : C) (plan : Value) (d : Int) (w : World) (h : CAt w g c plan) (hr : c.r.ok) : Calls Tryz.prog 133 #[.pointer (some ⟨g, 0, none⟩), .int .u8 d] w fun e w' => e = .returned (.tuple #[]) ∧ CAt w' g { c with r := pullsR c.name.toList c.r d } plan ∧ w.grownBy w' (some g) := by
  obtain ⟨⟨h0, h1, h2, h3, h4, h5⟩, _⟩ := regs_facts h
  have h6 : w.cell? ⟨g, 6, none⟩ = some (.string c.name) := (Blk.cell h 6).trans rfl
  have hlt := Blk.lt h
  obtain ⟨q, hq⟩ : ∃ q, q = pullsR c.name.toList c.r d := ⟨_, rfl⟩
  have HM : Hid (∀ w, Calls Tryz.prog 165 #[.string c.name, .agg #[.int .u8 c.r.a, .int .u8 c.r.x, .int .u8 c.r.y, .int .u8 c.r.s, .int .u8 c.r.p, .int .u16 c.r.pc], .int .u8 d] w fun e w' => e = .returned (.agg #[.int .u8 q.a, .int .u8 q.x, .int .u8 q.y, .int .u8 q.s, .int .u8 q.p, .int .u16 q.pc]) ∧ Below w.heap.size w w') := Lib.hid (fun w => by have h := OwnEff.pulls_any c.name c.r d w hr; rw [← hq] at h; exact h)
  rw [← hq]
  clear hq
  have HC : Hid (∀ w3, Below w.heap.size w w3 → CAt w3 g c plan) := Lib.hid (fun w3 hb => Blk.below h hb hlt)
  clear h
  go_enter Tryz.func133, Tryz.ntmps133
  go_wp2_with fail
  go_region_with (go_at_call 165; refine (HM.out _).mono ?_; rintro e w3 ⟨rfl, hb3⟩; have hb := Lib.hid (show Below w.heap.size w w3 from ⟨hb3.os, hb3.tape, hb3.output, hb3.size, hb3.block⟩); obtain ⟨⟨K0, K1, K2, K3, K4, K5⟩, F0, F1, F2, F3, F4, F5⟩ := regs_facts (HC.out w3 hb.out); clear hb3)
  all_goals
    go_wp2
    go_end0
    exact ⟨rfl, regs_store q (HC.out w3 hb.out), regs_only q (below_only hb.out)⟩
end Go.Proofs.YtifajfjiloajfaaGreatDoor.OwnCpu
namespace Go.Proofs.YtifajfjiloajfaaGreatDoor.OwnCpu
open Go.RowKit Go.Proofs.YtifajfjiloajfaaGreatDoor.Own Go.Proofs.YtifajfjiloajfaaGreatDoor.OwnEff Go.Proofs.YtifajfjiloajfaaGreatDoor.OwnAddr

set_option maxHeartbeats 6400000 in
set_option maxRecDepth 100000 in
theorem pointLow_any (g : Nat) (c : C) (plan : Value) (d : Int) (w : World) (h : CAt w g c plan) (hl : By c.low) : Calls Tryz.prog 125 #[.pointer (some ⟨g, 0, none⟩), .int .u8 d] w fun e w' => e = .returned (.tuple #[]) ∧ CAt w' g ({ c with base := c.low, low := d }) plan ∧ w.grownBy w' (some g) := by
  have c11 : w.cell? ⟨g, 11, none⟩ = some (.int .u8 c.low) := (Blk.cell h 11).trans rfl
  have f11 := Blk.frozen h 11
  have c13 : w.cell? ⟨g, 13, none⟩ = some (.int .u16 c.base) := (Blk.cell h 13).trans rfl
  have f13 := Blk.frozen h 13
  have q0 := hl.1
  have q1 := hl.2
  go_enter Tryz.func125, Tryz.ntmps125
  go_wp2
  go_end0
  exact ⟨rfl, (Blk.set_ (Blk.set_ h 13 (.int .u16 c.low)) 11 (.int .u8 d)), (only_set (only_set (World.grownBy.refl _ _) _) _)⟩
set_option maxHeartbeats 6400000 in
set_option maxRecDepth 100000 in
theorem stays_any (g : Nat) (c : C) (plan : Value) (d : Int) (w : World) (h : CAt w g c plan) (n : Nat) (hn : c.at_ = n + 1) (hm : n < 1000000) : Calls Tryz.prog 137 #[.pointer (some ⟨g, 0, none⟩), .int .u8 d] w fun e w' => e = .returned (.tuple #[]) ∧ CAt w' g ({ c with at_ := n }) plan ∧ w.grownBy w' (some g) := by
  have c10 : w.cell? ⟨g, 10, none⟩ = some (.int .i64 ((n : Int) + 1)) := by
    have := (Blk.cell h 10).trans rfl
    rw [this]
    show some (Value.int .i64 (c.at_ : Int)) = _
    rw [hn]; rfl
  have f10 := Blk.frozen h 10
  clear hn
  go_enter Tryz.func137, Tryz.ntmps137
  go_wp2
  go_end0
  exact ⟨rfl, (Blk.set_ h 10 (.int .i64 n)), (only_set (World.grownBy.refl _ _) _)⟩
set_option maxHeartbeats 6400000 in
set_option maxRecDepth 100000 in
theorem flags_nmi_any (g : Nat) (c : C) (plan : Value) (d : Int) (w : World) (h : CAt w g c plan) (hv : c.latch = true) : Calls Tryz.prog 110 #[.pointer (some ⟨g, 0, none⟩), .int .u8 d] w fun e w' => e = .returned (.tuple #[]) ∧ CAt w' g ({ c with vector := 65530, latch := false, r := { c.r with s := (c.r.s - 1) % 256, p := Go.bits .or .u8 c.r.p 4 } }) plan ∧ w.grownBy w' (some g) := by
  have c3 : w.cell? ⟨g, 3, none⟩ = some (.int .u8 c.r.s) := (Blk.cell h 3).trans rfl
  have f3 := Blk.frozen h 3
  have c4 : w.cell? ⟨g, 4, none⟩ = some (.int .u8 c.r.p) := (Blk.cell h 4).trans rfl
  have f4 := Blk.frozen h 4
  have c16 : w.cell? ⟨g, 16, none⟩ = some (.int .u16 c.vector) := (Blk.cell h 16).trans rfl
  have f16 := Blk.frozen h 16
  have c20 : w.cell? ⟨g, 20, none⟩ = some (.bool true) := by rw [← hv]; exact (Blk.cell h 20).trans rfl
  have f20 := Blk.frozen h 20
  go_enter Tryz.func110, Tryz.ntmps110
  go_wp2
  go_end0
  exact ⟨rfl, (Blk.set_ (Blk.set_ (Blk.set_ (Blk.set_ (Blk.set_ h 3 (.int .u8 ((c.r.s - 1) % 256))) 4 (.int .u8 (Go.bits .or .u8 c.r.p 4))) 16 (.int .u16 65534)) 16 (.int .u16 65530)) 20 (.bool false)), (only_set (only_set (only_set (only_set (only_set (World.grownBy.refl _ _) _) _) _) _) _)⟩
set_option maxHeartbeats 6400000 in
set_option maxRecDepth 100000 in
theorem flags_irq_any (g : Nat) (c : C) (plan : Value) (d : Int) (w : World) (h : CAt w g c plan) (hv : c.latch = false) : Calls Tryz.prog 110 #[.pointer (some ⟨g, 0, none⟩), .int .u8 d] w fun e w' => e = .returned (.tuple #[]) ∧ CAt w' g ({ c with vector := 65534, latch := false, r := { c.r with s := (c.r.s - 1) % 256, p := Go.bits .or .u8 c.r.p 4 } }) plan ∧ w.grownBy w' (some g) := by
  have c3 : w.cell? ⟨g, 3, none⟩ = some (.int .u8 c.r.s) := (Blk.cell h 3).trans rfl
  have f3 := Blk.frozen h 3
  have c4 : w.cell? ⟨g, 4, none⟩ = some (.int .u8 c.r.p) := (Blk.cell h 4).trans rfl
  have f4 := Blk.frozen h 4
  have c16 : w.cell? ⟨g, 16, none⟩ = some (.int .u16 c.vector) := (Blk.cell h 16).trans rfl
  have f16 := Blk.frozen h 16
  have c20 : w.cell? ⟨g, 20, none⟩ = some (.bool false) := by rw [← hv]; exact (Blk.cell h 20).trans rfl
  have f20 := Blk.frozen h 20
  go_enter Tryz.func110, Tryz.ntmps110
  go_wp2
  go_end0
  have hc : c.latch = false := hv
  have hz := (Blk.set_ (Blk.set_ (Blk.set_ h 3 (.int .u8 ((c.r.s - 1) % 256))) 4 (.int .u8 (Go.bits .or .u8 c.r.p 4))) 16 (.int .u16 65534))
  refine ⟨rfl, ?_, (only_set (only_set (only_set (World.grownBy.refl _ _) _) _) _)⟩
  rw [← hc]
  exact hz
/-- What behind P that was pushed is. -/
def flagsC (c : C) : C := { c with vector := if c.latch = true then 65530 else 65534, latch := false, r := { c.r with s := (c.r.s - 1) % 256, p := Go.bits .or .u8 c.r.p 4 } }
set_option maxHeartbeats 6400000 in
set_option maxRecDepth 100000 in
theorem flags_any (g : Nat) (c : C) (plan : Value) (d : Int) (w : World) (h : CAt w g c plan) : Calls Tryz.prog 110 #[.pointer (some ⟨g, 0, none⟩), .int .u8 d] w fun e w' => e = .returned (.tuple #[]) ∧ CAt w' g (flagsC c) plan ∧ w.grownBy w' (some g) := by
  cases hv : c.latch
  · have e : flagsC c = { c with vector := 65534, latch := false, r := { c.r with s := (c.r.s - 1) % 256, p := Go.bits .or .u8 c.r.p 4 } } := by simp [flagsC, hv]
    rw [e]; exact flags_irq_any g c plan d w h hv
  · have e : flagsC c = { c with vector := 65530, latch := false, r := { c.r with s := (c.r.s - 1) % 256, p := Go.bits .or .u8 c.r.p 4 } } := by simp [flagsC, hv]
    rw [e]; exact flags_nmi_any g c plan d w h hv
set_option maxHeartbeats 6400000 in
set_option maxRecDepth 100000 in
theorem zeroY_any (g : Nat) (c : C) (plan : Value) (d : Int) (w : World) (h : CAt w g c plan) (hx : By c.r.y) : Calls Tryz.prog 119 #[.pointer (some ⟨g, 0, none⟩), .int .u8 d] w fun e w' => e = .returned (.tuple #[]) ∧ CAt w' g ({ c with place := (IntKind.u8.wrap c.place + c.r.y) % 256 }) plan ∧ w.grownBy w' (some g) := by
  have c15 : w.cell? ⟨g, 15, none⟩ = some (.int .u16 c.place) := (Blk.cell h 15).trans rfl
  have c2 : w.cell? ⟨g, 2, none⟩ = some (.int .u8 c.r.y) := (Blk.cell h 2).trans rfl
  have hlt := Blk.lt h
  have q := w8 c.place
  have HZ := Lib.hid (fun w => zero_any (IntKind.u8.wrap c.place) c.r.y w (by omega) (by omega) hx.1 hx.2)
  clear q
  have HX : Hid (∀ w3, Below w.heap.size w w3 → w3.cell? ⟨g, 15, none⟩ = some (.int .u16 c.place) ∧ w3.cell? ⟨g, 2, none⟩ = some (.int .u8 c.r.y)) := Lib.hid (fun w3 hb => ⟨(hb.cell hlt).trans c15, (hb.cell hlt).trans c2⟩)
  go_enter Tryz.func119, Tryz.ntmps119
  go_wp2_with fail
  go_region_with (go_at_call 162; refine (HZ.out _).mono ?_; rintro e w3 ⟨rfl, hb3⟩; have hb3' : Below w.heap.size w w3 := ⟨hb3.os, hb3.tape, hb3.output, hb3.size, hb3.block⟩; have K := (HX.out w3 hb3').1; have F := (Blk.below h hb3' hlt).frozen 15)
  all_goals
    go_wp2
    go_end0
    exact ⟨rfl, Blk.set_ (Blk.below h hb3' hlt) 15 _, only_set (below_only hb3') _⟩
set_option maxHeartbeats 6400000 in
set_option maxRecDepth 100000 in
theorem pointerX_any (g : Nat) (c : C) (plan : Value) (d : Int) (w : World) (h : CAt w g c plan) (hl : By c.low) (hx : By c.r.x) : Calls Tryz.prog 124 #[.pointer (some ⟨g, 0, none⟩), .int .u8 d] w fun e w' => e = .returned (.tuple #[]) ∧ CAt w' g ({ c with low := (c.low + c.r.x) % 256 }) plan ∧ w.grownBy w' (some g) := by
  have c11 : w.cell? ⟨g, 11, none⟩ = some (.int .u8 c.low) := (Blk.cell h 11).trans rfl
  have c1 : w.cell? ⟨g, 1, none⟩ = some (.int .u8 c.r.x) := (Blk.cell h 1).trans rfl
  have hlt := Blk.lt h
  have HZ := Lib.hid (fun w => zero_any c.low c.r.x w hl.1 hl.2 hx.1 hx.2)
  have HX : Hid (∀ w3, Below w.heap.size w w3 → w3.cell? ⟨g, 11, none⟩ = some (.int .u8 c.low) ∧ w3.cell? ⟨g, 1, none⟩ = some (.int .u8 c.r.x)) := Lib.hid (fun w3 hb => ⟨(hb.cell hlt).trans c11, (hb.cell hlt).trans c1⟩)
  have q0 : 0 ≤ (c.low + c.r.x) % 256 := by omega
  have q1 : (c.low + c.r.x) % 256 < 256 := by omega
  obtain ⟨z, hz⟩ : ∃ z, z = (c.low + c.r.x) % 256 := ⟨_, rfl⟩
  rw [← hz] at HZ q0 q1 ⊢
  clear hz
  have HWZ : Hid (IntKind.u8.wrap z = z) := Lib.hid (by rw [w8]; omega)
  go_enter Tryz.func124, Tryz.ntmps124
  go_wp2_with fail
  go_region_with (go_at_call 162; refine (HZ.out _).mono ?_; rintro e w3 ⟨rfl, hb3⟩; have hb3' : Below w.heap.size w w3 := ⟨hb3.os, hb3.tape, hb3.output, hb3.size, hb3.block⟩; have K := (HX.out w3 hb3').1; have F := (Blk.below h hb3' hlt).frozen 11)
  all_goals
    go_wp2
    go_end0
    refine ⟨rfl, ?_, only_set (below_only hb3') _⟩
    rw [HWZ.out]
    exact Blk.set_ (Blk.below h hb3' hlt) 11 (.int .u8 z)
set_option maxHeartbeats 6400000 in
set_option maxRecDepth 100000 in
theorem indexM_any (g : Nat) (c : C) (plan : Value) (hi x : Int) (w : World) (h : CAt w g c plan) (hl : By c.low) (hh : By hi) (hx : By x) : Calls Tryz.prog 163 #[.pointer (some ⟨g, 0, none⟩), .int .u8 hi, .int .u8 x] w fun e w' => e = .returned (.tuple #[]) ∧ CAt w' g ({ c with base := hi * 256 + c.low, rough := roughV (hi * 256 + c.low) x, place := rightV (hi * 256 + c.low) x }) plan ∧ w.grownBy w' (some g) := by
  have c11 : w.cell? ⟨g, 11, none⟩ = some (.int .u8 c.low) := (Blk.cell h 11).trans rfl
  have f11 := Blk.frozen h 11
  have c13 : w.cell? ⟨g, 13, none⟩ = some (.int .u16 c.base) := (Blk.cell h 13).trans rfl
  have f13 := Blk.frozen h 13
  have HW := Lib.hid (fun w => word_any c.low hi w hl.1 hl.2 hh.1 hh.2)
  have HI : Hid (∀ w, Calls Tryz.prog 185 #[.int .u16 (hi * 256 + c.low), .int .u8 x] w fun e w' => e = .returned (.tuple #[.int .u16 (roughV (hi * 256 + c.low) x), .int .u16 (rightV (hi * 256 + c.low) x)]) ∧ Below w.heap.size w w') := Lib.hid (fun w => index_any (hi * 256 + c.low) x w (by have := hl.1; have := hh.1; omega) (by have := hl.2; have := hh.2; omega) hx.1 hx.2)
  have HB : Hid (∀ b : Int, CAt (w.setCell ⟨g, 13, none⟩ (.int .u16 b)) g { c with base := b } plan) := Lib.hid (fun b => Blk.set_ h 13 (.int .u16 b))
  have hlt := Blk.lt h
  have hsz : (w.setCell ⟨g, 13, none⟩ (.int .u16 (hi * 256 + c.low))).heap.size = w.heap.size := by simp [World.setCell]
  have hl0 := Lib.hid hsz
  clear hsz h
  obtain ⟨v, hv⟩ : ∃ v, v = hi * 256 + c.low := ⟨_, rfl⟩
  obtain ⟨a, ha⟩ : ∃ a, a = roughV (hi * 256 + c.low) x := ⟨_, rfl⟩
  obtain ⟨b, hb⟩ : ∃ b, b = rightV (hi * 256 + c.low) x := ⟨_, rfl⟩
  rw [← ha, ← hb] at HI ⊢
  rw [← hv] at HI HW hl0 ⊢
  clear ha hb hv
  go_enter Tryz.func163, Tryz.ntmps163
  go_wp2_with (first
    | (go_at_call 79; refine (HW.out _).mono ?_; rintro e w' ⟨rfl, rfl⟩)
    | (go_at_call 185; refine (HI.out _).mono ?_; rintro e w3 ⟨rfl, hb3⟩; have B3 := Blk.below (HB.out v) hb3 (hl0.out ▸ hlt); have k14 := (Blk.cell B3 14).trans rfl; have kf14 := Blk.frozen B3 14; have k15 := (Blk.cell B3 15).trans rfl; have kf15 := Blk.frozen B3 15; have BB := Lib.hid B3; have hbb := Lib.hid hb3; clear B3 hb3))
  go_end0
  exact ⟨rfl, Blk.set_ (Blk.set_ BB.out 14 (.int .u16 a)) 15 (.int .u16 b), only_set (only_set (only_trans (only_set (World.grownBy.refl _ _) _) (below_only hbb.out)) _) _⟩
set_option maxHeartbeats 6400000 in
set_option maxRecDepth 100000 in
theorem pointY_any (g : Nat) (c : C) (plan : Value) (d : Int) (w : World) (h : CAt w g c plan) (hl : By c.low) (hx : By c.r.y) (hd : By d) : Calls Tryz.prog 128 #[.pointer (some ⟨g, 0, none⟩), .int .u8 d] w fun e w' => e = .returned (.tuple #[]) ∧ CAt w' g ({ c with base := d * 256 + c.low, rough := roughV (d * 256 + c.low) c.r.y, place := rightV (d * 256 + c.low) c.r.y }) plan ∧ w.grownBy w' (some g) := by
  have c2 : w.cell? ⟨g, 2, none⟩ = some (.int .u8 c.r.y) := (Blk.cell h 2).trans rfl
  have f2 := Blk.frozen h 2
  have HI := Lib.hid (indexM_any g c plan d c.r.y w h hl hd hx)
  clear h
  go_enter Tryz.func128, Tryz.ntmps128
  go_wp2_with (go_at_call 163; refine HI.out.mono ?_; rintro e w3 ⟨rfl, hB, ho⟩; have BB := Lib.hid hB; have oo := Lib.hid ho; clear hB ho)
  go_end0
  exact ⟨rfl, BB.out, oo.out⟩
set_option maxHeartbeats 6400000 in
set_option maxRecDepth 100000 in
theorem baseX_any (g : Nat) (c : C) (plan : Value) (d : Int) (w : World) (h : CAt w g c plan) (hl : By c.low) (hx : By c.r.x) (hd : By d) : Calls Tryz.prog 121 #[.pointer (some ⟨g, 0, none⟩), .int .u8 d] w fun e w' => e = .returned (.tuple #[]) ∧ CAt w' g ({ c with r := { c.r with pc := IntKind.u16.wrap (c.r.pc + 1) }, base := d * 256 + c.low, rough := roughV (d * 256 + c.low) c.r.x, place := rightV (d * 256 + c.low) c.r.x }) plan ∧ w.grownBy w' (some g) := by
  have c1 : w.cell? ⟨g, 1, none⟩ = some (.int .u8 c.r.x) := (Blk.cell h 1).trans rfl
  have f1 := Blk.frozen h 1
  have c5 : w.cell? ⟨g, 5, none⟩ = some (.int .u16 c.r.pc) := (Blk.cell h 5).trans rfl
  have f5 := Blk.frozen h 5
  have HI := Lib.hid (indexM_any g { c with r := { c.r with pc := IntKind.u16.wrap (c.r.pc + 1) } } plan d c.r.x (w.setCell ⟨g, 5, none⟩ (.int .u16 (IntKind.u16.wrap (c.r.pc + 1)))) (Blk.set_ h 5 _) hl hd hx)
  clear h
  go_enter Tryz.func121, Tryz.ntmps121
  go_wp2_with (go_at_call 163; refine HI.out.mono ?_; rintro e w3 ⟨rfl, hB, ho⟩; have BB := Lib.hid hB; have oo := Lib.hid ho; clear hB ho)
  go_end0
  exact ⟨rfl, BB.out, only_trans (only_set (World.grownBy.refl _ _) _) oo.out⟩
set_option maxHeartbeats 6400000 in
set_option maxRecDepth 100000 in
theorem baseY_any (g : Nat) (c : C) (plan : Value) (d : Int) (w : World) (h : CAt w g c plan) (hl : By c.low) (hx : By c.r.y) (hd : By d) : Calls Tryz.prog 122 #[.pointer (some ⟨g, 0, none⟩), .int .u8 d] w fun e w' => e = .returned (.tuple #[]) ∧ CAt w' g ({ c with r := { c.r with pc := IntKind.u16.wrap (c.r.pc + 1) }, base := d * 256 + c.low, rough := roughV (d * 256 + c.low) c.r.y, place := rightV (d * 256 + c.low) c.r.y }) plan ∧ w.grownBy w' (some g) := by
  have c2 : w.cell? ⟨g, 2, none⟩ = some (.int .u8 c.r.y) := (Blk.cell h 2).trans rfl
  have f2 := Blk.frozen h 2
  have c5 : w.cell? ⟨g, 5, none⟩ = some (.int .u16 c.r.pc) := (Blk.cell h 5).trans rfl
  have f5 := Blk.frozen h 5
  have HI := Lib.hid (indexM_any g { c with r := { c.r with pc := IntKind.u16.wrap (c.r.pc + 1) } } plan d c.r.y (w.setCell ⟨g, 5, none⟩ (.int .u16 (IntKind.u16.wrap (c.r.pc + 1)))) (Blk.set_ h 5 _) hl hd hx)
  clear h
  go_enter Tryz.func122, Tryz.ntmps122
  go_wp2_with (go_at_call 163; refine HI.out.mono ?_; rintro e w3 ⟨rfl, hB, ho⟩; have BB := Lib.hid hB; have oo := Lib.hid ho; clear hB ho)
  go_end0
  exact ⟨rfl, BB.out, only_trans (only_set (World.grownBy.refl _ _) _) oo.out⟩
set_option maxHeartbeats 6400000 in
set_option maxRecDepth 100000 in
theorem nextReads_any (g : Nat) (c : C) (plan : Value) (d : Int) (w : World) (h : CAt w g c plan) (hr : c.r.ok) (hd : By d) : Calls Tryz.prog 145 #[.pointer (some ⟨g, 0, none⟩), .int .u8 d] w fun e w' => e = .returned (.tuple #[]) ∧ CAt w' g ({ c with r := readsR c.name.toList { c.r with pc := IntKind.u16.wrap (c.r.pc + 1) } d }) plan ∧ w.grownBy w' (some g) := by
  have c5 : w.cell? ⟨g, 5, none⟩ = some (.int .u16 c.r.pc) := (Blk.cell h 5).trans rfl
  have f5 := Blk.frozen h 5
  have hr2 : R.ok { c.r with pc := IntKind.u16.wrap (c.r.pc + 1) } := ⟨hr.1, hr.2.1, hr.2.2.1, hr.2.2.2.1, hr.2.2.2.2.1, by show 0 ≤ IntKind.u16.wrap _; rw [w16]; omega, by show IntKind.u16.wrap _ < 65536; rw [w16]; omega⟩
  have HI := Lib.hid (reads_any g { c with r := { c.r with pc := IntKind.u16.wrap (c.r.pc + 1) } } plan d (w.setCell ⟨g, 5, none⟩ (.int .u16 (IntKind.u16.wrap (c.r.pc + 1)))) (Blk.set_ h 5 _) hr2 hd)
  clear h hr2 hr
  go_enter Tryz.func145, Tryz.ntmps145
  go_wp2_with (go_at_call 147; refine HI.out.mono ?_; rintro e w3 ⟨rfl, hB, ho⟩; have BB := Lib.hid hB; have oo := Lib.hid ho; clear hB ho)
  go_end0
  exact ⟨rfl, BB.out, only_trans (only_set (World.grownBy.refl _ _) _) oo.out⟩
set_option maxHeartbeats 6400000 in
set_option maxRecDepth 100000 in
theorem unflags_any (g : Nat) (c : C) (plan : Value) (d : Int) (w : World) (h : CAt w g c plan) (hr : c.r.ok) (_hd : By d) : Calls Tryz.prog 174 #[.pointer (some ⟨g, 0, none⟩), .int .u8 d] w fun e w' => e = .returned (.tuple #[]) ∧ CAt w' g ({ c with r := pullsR [80, 76, 80] { c.r with s := (c.r.s + 1) % 256 } d }) plan ∧ w.grownBy w' (some g) := by
  obtain ⟨⟨h0, h1, h2, h3, h4, h5⟩, f0, f1, f2, f3, f4, f5⟩ := regs_facts h
  have hr2 : R.ok { c.r with s := (c.r.s + 1) % 256 } := ⟨hr.1, hr.2.1, hr.2.2.1, mod_by _, hr.2.2.2.2.1, hr.2.2.2.2.2⟩
  obtain ⟨q, hq⟩ : ∃ q, q = pullsR [80, 76, 80] { c.r with s := (c.r.s + 1) % 256 } d := ⟨_, rfl⟩
  have HM : Hid (∀ w, Calls Tryz.prog 165 #[.string ⟨#[80, 76, 80]⟩, .agg #[.int .u8 c.r.a, .int .u8 c.r.x, .int .u8 c.r.y, .int .u8 ((c.r.s + 1) % 256), .int .u8 c.r.p, .int .u16 c.r.pc], .int .u8 d] w fun e w' => e = .returned (.agg #[.int .u8 q.a, .int .u8 q.x, .int .u8 q.y, .int .u8 q.s, .int .u8 q.p, .int .u16 q.pc]) ∧ Below w.heap.size w w') := Lib.hid (fun w => by have h := OwnEff.pulls_any ⟨#[80, 76, 80]⟩ { c.r with s := (c.r.s + 1) % 256 } d w hr2; rw [Lib.toList_data, ← hq] at h; exact h)
  rw [← hq]
  clear hq hr2 hr
  have HC : Hid (∀ w3, Below w.heap.size (w.setCell ⟨g, 3, none⟩ (.int .u8 ((c.r.s + 1) % 256))) w3 → CAt w3 g { c with r := { c.r with s := (c.r.s + 1) % 256 } } plan) := Lib.hid (fun w3 hb => Blk.below (Blk.set_ h 3 (.int .u8 ((c.r.s + 1) % 256))) hb h.lt)
  have hsz : (w.setCell ⟨g, 3, none⟩ (.int .u8 ((c.r.s + 1) % 256))).heap.size = w.heap.size := by simp [World.setCell]
  have hl0 := Lib.hid hsz
  clear hsz h
  go_enter Tryz.func174, Tryz.ntmps174
  go_wp2_with (go_at_call 165; refine (HM.out _).mono ?_; rintro e w3 ⟨rfl, hb3⟩; have hb := Lib.hid (hl0.out ▸ hb3); obtain ⟨⟨K0, K1, K2, K3, K4, K5⟩, F0, F1, F2, F3, F4, F5⟩ := regs_facts (HC.out w3 hb.out); have hb4 := Lib.hid hb3; clear hb3)
  go_end0
  exact ⟨rfl, regs_store (c := { c with r := { c.r with s := (c.r.s + 1) % 256 } }) q (HC.out w3 hb.out), regs_only q (only_trans (only_set (World.grownBy.refl _ _) _) (below_only hb4.out))⟩
end Go.Proofs.YtifajfjiloajfaaGreatDoor.OwnCpu
namespace Go.Proofs.YtifajfjiloajfaaGreatDoor.OwnCpu
open Go.RowKit Go.Proofs.YtifajfjiloajfaaGreatDoor.Own Go.Proofs.YtifajfjiloajfaaGreatDoor.OwnEff Go.Proofs.YtifajfjiloajfaaGreatDoor.OwnAddr

theorem chg_a {a w3 : World} {g : Nat} {c : C} {plan : Value} (q : R) (m : Int) (h : CAt w3 g c plan) (o : a.grownBy w3 (some g)) : (Ending.returned (.tuple #[]) = Ending.returned (.tuple #[])) ∧ CAt (((((((w3.setCell ⟨g, 0, none⟩ (.int .u8 q.a)).setCell ⟨g, 1, none⟩ (.int .u8 q.x)).setCell ⟨g, 2, none⟩ (.int .u8 q.y)).setCell ⟨g, 3, none⟩ (.int .u8 q.s)).setCell ⟨g, 4, none⟩ (.int .u8 q.p)).setCell ⟨g, 5, none⟩ (.int .u16 q.pc)).setCell ⟨g, 12, none⟩ (.int .u8 m)) g { c with r := q, m := m } plan ∧ a.grownBy (((((((w3.setCell ⟨g, 0, none⟩ (.int .u8 q.a)).setCell ⟨g, 1, none⟩ (.int .u8 q.x)).setCell ⟨g, 2, none⟩ (.int .u8 q.y)).setCell ⟨g, 3, none⟩ (.int .u8 q.s)).setCell ⟨g, 4, none⟩ (.int .u8 q.p)).setCell ⟨g, 5, none⟩ (.int .u16 q.pc)).setCell ⟨g, 12, none⟩ (.int .u8 m)) (some g) :=
  ⟨rfl, Blk.set_ (regs_store q h) 12 (.int .u8 m), only_set (regs_only q o) _⟩
theorem chg_b {a w3 : World} {g : Nat} {c : C} {plan : Value} (q : R) (m : Int) (h : CAt w3 g c plan) (o : a.grownBy w3 (some g)) : (Ending.returned (.tuple #[]) = Ending.returned (.tuple #[])) ∧ CAt (((((((w3.setCell ⟨g, 12, none⟩ (.int .u8 m)).setCell ⟨g, 0, none⟩ (.int .u8 q.a)).setCell ⟨g, 1, none⟩ (.int .u8 q.x)).setCell ⟨g, 2, none⟩ (.int .u8 q.y)).setCell ⟨g, 3, none⟩ (.int .u8 q.s)).setCell ⟨g, 4, none⟩ (.int .u8 q.p)).setCell ⟨g, 5, none⟩ (.int .u16 q.pc)) g { c with r := q, m := m } plan ∧ a.grownBy (((((((w3.setCell ⟨g, 12, none⟩ (.int .u8 m)).setCell ⟨g, 0, none⟩ (.int .u8 q.a)).setCell ⟨g, 1, none⟩ (.int .u8 q.x)).setCell ⟨g, 2, none⟩ (.int .u8 q.y)).setCell ⟨g, 3, none⟩ (.int .u8 q.s)).setCell ⟨g, 4, none⟩ (.int .u8 q.p)).setCell ⟨g, 5, none⟩ (.int .u16 q.pc)) (some g) :=
  ⟨rfl, regs_store (c := { c with m := m }) q (Blk.set_ h 12 (.int .u8 m)), regs_only q (only_set o _)⟩
set_option maxHeartbeats 6400000 in
set_option maxRecDepth 100000 in
theorem stores_any (g : Nat) (c : C) (plan : Value) (d : Int) (w : World) (h : CAt w g c plan) (b0 : 0 ≤ c.base) (b1 : c.base < 65536) : Calls Tryz.prog 139 #[.pointer (some ⟨g, 0, none⟩), .int .u8 d] w fun e w' => e = .returned (.tuple #[]) ∧ CAt w' g ({ c with r := writesR c.name.toList c.r }) plan ∧ w.grownBy w' (some g) := by
  obtain ⟨⟨h0, h1, h2, h3, h4, h5⟩, _⟩ := regs_facts h
  have h6 : w.cell? ⟨g, 6, none⟩ = some (.string c.name) := (Blk.cell h 6).trans rfl
  have h13 : w.cell? ⟨g, 13, none⟩ = some (.int .u16 c.base) := (Blk.cell h 13).trans rfl
  have hlt := Blk.lt h
  obtain ⟨q, hq⟩ : ∃ q, q = writesR c.name.toList c.r := ⟨_, rfl⟩
  obtain ⟨v, hv⟩ : ∃ v, v = writesV c.name.toList c.r (c.base / 256) := ⟨_, rfl⟩
  have HM : Hid (∀ w, Calls Tryz.prog 169 #[.string c.name, .agg #[.int .u8 c.r.a, .int .u8 c.r.x, .int .u8 c.r.y, .int .u8 c.r.s, .int .u8 c.r.p, .int .u16 c.r.pc], .int .u8 (c.base / 256)] w fun e w' => e = .returned (.tuple #[(.agg #[.int .u8 q.a, .int .u8 q.x, .int .u8 q.y, .int .u8 q.s, .int .u8 q.p, .int .u16 q.pc]), .int .u8 v]) ∧ Below w.heap.size w w') := Lib.hid (fun w => by have h := writes_any c.name c.r (c.base / 256) w; rw [← hq, ← hv] at h; exact h)
  have HH := Lib.hid (fun w => high_any c.base w b0 b1)
  rw [← hq]
  clear hq hv b0 b1
  have HC : Hid (∀ w3, Below w.heap.size w w3 → CAt w3 g c plan) := Lib.hid (fun w3 hb => Blk.below h hb hlt)
  clear h
  go_enter Tryz.func139, Tryz.ntmps139
  go_wp2_with fail
  go_region_with (first
    | (go_at_call 158; refine (HH.out _).mono ?_; rintro e w' ⟨rfl, rfl⟩)
    | (go_at_call 169; refine (HM.out _).mono ?_; rintro e w3 ⟨rfl, hb3⟩; have hb := Lib.hid (show Below w.heap.size w w3 from ⟨hb3.os, hb3.tape, hb3.output, hb3.size, hb3.block⟩); obtain ⟨⟨K0, K1, K2, K3, K4, K5⟩, F0, F1, F2, F3, F4, F5⟩ := regs_facts (HC.out w3 hb.out); clear hb3))
  all_goals
    go_wp2
    go_end0
    exact ⟨rfl, regs_store q (HC.out w3 hb.out), regs_only q (below_only hb.out)⟩
set_option maxHeartbeats 6400000 in
set_option maxRecDepth 100000 in
theorem changes_any (g : Nat) (c : C) (plan : Value) (d : Int) (w : World) (h : CAt w g c plan) (hr : c.r.ok) (hm : By c.m) : Calls Tryz.prog 143 #[.pointer (some ⟨g, 0, none⟩), .int .u8 d] w fun e w' => e = .returned (.tuple #[]) ∧ CAt w' g ({ c with r := (modR c.name.toList c.r c.m).1, m := (modR c.name.toList c.r c.m).2 }) plan ∧ w.grownBy w' (some g) := by
  obtain ⟨⟨h0, h1, h2, h3, h4, h5⟩, _⟩ := regs_facts h
  have h6 : w.cell? ⟨g, 6, none⟩ = some (.string c.name) := (Blk.cell h 6).trans rfl
  have h12 : w.cell? ⟨g, 12, none⟩ = some (.int .u8 c.m) := (Blk.cell h 12).trans rfl
  have hlt := Blk.lt h
  obtain ⟨q, hq⟩ : ∃ q, q = modR c.name.toList c.r c.m := ⟨_, rfl⟩
  have HM : Hid (∀ w, Calls Tryz.prog 170 #[.string c.name, .agg #[.int .u8 c.r.a, .int .u8 c.r.x, .int .u8 c.r.y, .int .u8 c.r.s, .int .u8 c.r.p, .int .u16 c.r.pc], .int .u8 c.m] w fun e w' => e = .returned (.tuple #[(.agg #[.int .u8 q.1.a, .int .u8 q.1.x, .int .u8 q.1.y, .int .u8 q.1.s, .int .u8 q.1.p, .int .u16 q.1.pc]), .int .u8 q.2]) ∧ Below w.heap.size w w') := Lib.hid (fun w => by have h := OwnEff.modifies_any c.name c.r c.m w hr hm; rw [← hq] at h; exact h)
  rw [← hq]
  clear hq
  have HC : Hid (∀ w3, Below w.heap.size w w3 → CAt w3 g c plan) := Lib.hid (fun w3 hb => Blk.below h hb hlt)
  clear h
  go_enter Tryz.func143, Tryz.ntmps143
  go_wp2_with fail
  go_region_with (go_at_call 170; refine (HM.out _).mono ?_; rintro e w3 ⟨rfl, hb3⟩; have hb := Lib.hid (show Below w.heap.size w w3 from ⟨hb3.os, hb3.tape, hb3.output, hb3.size, hb3.block⟩); obtain ⟨⟨K0, K1, K2, K3, K4, K5⟩, F0, F1, F2, F3, F4, F5⟩ := regs_facts (HC.out w3 hb.out); have K12 : w3.cell? ⟨g, 12, none⟩ = some (.int .u8 c.m) := (Blk.cell (HC.out w3 hb.out) 12).trans rfl; have F12 := Blk.frozen (HC.out w3 hb.out) 12; clear hb3)
  all_goals
    go_wp2
    go_end0
    first | (with_reducible exact chg_a q.1 q.2 (HC.out w3 hb.out) (below_only hb.out)) | (with_reducible exact chg_b q.1 q.2 (HC.out w3 hb.out) (below_only hb.out))
end Go.Proofs.YtifajfjiloajfaaGreatDoor.OwnCpu

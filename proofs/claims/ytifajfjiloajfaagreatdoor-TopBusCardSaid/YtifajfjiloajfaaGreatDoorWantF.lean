/- What the processor's cycles write: a stored byte. Conditions: the processor is a block of its cells; bytes are bytes. -/
import Derived.Test.YtifajfjiloajfaaGreatDoorMWantD
import Derived.BigQuiet
import Derived.Deep.QuietTactic
namespace Go.Proofs.YtifajfjiloajfaaGreatDoor.OwnCpu
open Go.RowKit Go.Proofs.YtifajfjiloajfaaGreatDoor.Own Go.Proofs.YtifajfjiloajfaaGreatDoor.OwnEff Go.Proofs.YtifajfjiloajfaaGreatDoor.OwnAddr

theorem Gd.drewN {w w' : World} (h : Gd w w') (n : Nat) : Gd w (w'.drewN n) := ⟨h.os, h.tape, h.output, h.size, h.block⟩
theorem gd_a {w w3 : World} (h : Gd w w3) (o : Obj) : Gd w (w3.alloc o) := Below.alloc h (by have := h.size; simpa using this) o
theorem gd_b {w w3 : World} (h : Gd w w3) (v0 v1 v2 v3 v4 v5 : Value) : Gd w ((((((w3.setCell ⟨w.heap.size + 1, 0, none⟩ v0).setCell ⟨w.heap.size + 1, 1, none⟩ v1).setCell ⟨w.heap.size + 1, 2, none⟩ v2).setCell ⟨w.heap.size + 1, 3, none⟩ v3).setCell ⟨w.heap.size + 1, 4, none⟩ v4).setCell ⟨w.heap.size + 1, 5, none⟩ v5) :=
  (((((Below.setCell h (Nat.le_refl _) _).setCell (Nat.le_refl _) _).setCell (Nat.le_refl _) _).setCell (Nat.le_refl _) _).setCell (Nat.le_refl _) _).setCell (Nat.le_refl _) _
theorem gd_new {w w3 : World} {cs : Array Value} {t : TypeId} (h3 : Below ((w.alloc (.cells #[.int .u16 0, .int .u8 0, .bool false] 44)).alloc (.cells cs t)).heap.size ((w.alloc (.cells #[.int .u16 0, .int .u8 0, .bool false] 44)).alloc (.cells cs t)) w3) : Gd w w3 ∧ Blk w3 (w.heap.size + 1) t cs := by
  have B := Blk.new (w.alloc (.cells #[.int .u16 0, .int .u8 0, .bool false] 44)) t cs
  simp only [World.size_alloc] at B
  exact ⟨Below.trans ((Below.refl _ _).alloc (by simp) _) (h3.mono (by simp)), B.below h3 (by simp)⟩
theorem stored_hc (g : Nat) (c : C) (plan : Value) (w : World) (h : CAt w g c plan) : ∀ w', Gd w w' → w'.cell? ⟨g, 15, none⟩ = some (.int .u16 c.place) ∧ w'.cell? ⟨g, 14, none⟩ = some (.int .u16 c.rough) ∧ w'.cell? ⟨g, 6, none⟩ = some (.string c.name) ∧ (w'.cell? ⟨g, 0, none⟩ = some (.int .u8 c.r.a) ∧ w'.cell? ⟨g, 1, none⟩ = some (.int .u8 c.r.x) ∧ w'.cell? ⟨g, 2, none⟩ = some (.int .u8 c.r.y) ∧ w'.cell? ⟨g, 3, none⟩ = some (.int .u8 c.r.s) ∧ w'.cell? ⟨g, 4, none⟩ = some (.int .u8 c.r.p) ∧ w'.cell? ⟨g, 5, none⟩ = some (.int .u16 c.r.pc) ∧ w'.cell? ⟨g, 6, none⟩ = some (.string c.name) ∧ w'.cell? ⟨g, 13, none⟩ = some (.int .u16 c.base)) :=
  have hlt := Blk.lt h
  fun _ hg => ⟨((Blk.below h (Gd.below hg) hlt).cell 15).trans rfl, ((Blk.below h (Gd.below hg) hlt).cell 14).trans rfl, ((Blk.below h (Gd.below hg) hlt).cell 6).trans rfl, ((Blk.below h (Gd.below hg) hlt).cell 0).trans rfl, ((Blk.below h (Gd.below hg) hlt).cell 1).trans rfl, ((Blk.below h (Gd.below hg) hlt).cell 2).trans rfl, ((Blk.below h (Gd.below hg) hlt).cell 3).trans rfl, ((Blk.below h (Gd.below hg) hlt).cell 4).trans rfl, ((Blk.below h (Gd.below hg) hlt).cell 5).trans rfl, ((Blk.below h (Gd.below hg) hlt).cell 6).trans rfl, ((Blk.below h (Gd.below hg) hlt).cell 13).trans rfl⟩
theorem stored_hk (g : Nat) (c : C) (w : World) (hlt : g < w.heap.size) : ∀ (w' : World) (v0 v1 v2 v3 v4 v5 : Value), (w'.cell? ⟨g, 0, none⟩ = some (.int .u8 c.r.a) ∧ w'.cell? ⟨g, 1, none⟩ = some (.int .u8 c.r.x) ∧ w'.cell? ⟨g, 2, none⟩ = some (.int .u8 c.r.y) ∧ w'.cell? ⟨g, 3, none⟩ = some (.int .u8 c.r.s) ∧ w'.cell? ⟨g, 4, none⟩ = some (.int .u8 c.r.p) ∧ w'.cell? ⟨g, 5, none⟩ = some (.int .u16 c.r.pc) ∧ w'.cell? ⟨g, 6, none⟩ = some (.string c.name) ∧ w'.cell? ⟨g, 13, none⟩ = some (.int .u16 c.base)) → (((((((w'.setCell ⟨w.heap.size + 1, 0, none⟩ v0).setCell ⟨w.heap.size + 1, 1, none⟩ v1).setCell ⟨w.heap.size + 1, 2, none⟩ v2).setCell ⟨w.heap.size + 1, 3, none⟩ v3).setCell ⟨w.heap.size + 1, 4, none⟩ v4).setCell ⟨w.heap.size + 1, 5, none⟩ v5).cell? ⟨g, 0, none⟩ = some (.int .u8 c.r.a) ∧ ((((((w'.setCell ⟨w.heap.size + 1, 0, none⟩ v0).setCell ⟨w.heap.size + 1, 1, none⟩ v1).setCell ⟨w.heap.size + 1, 2, none⟩ v2).setCell ⟨w.heap.size + 1, 3, none⟩ v3).setCell ⟨w.heap.size + 1, 4, none⟩ v4).setCell ⟨w.heap.size + 1, 5, none⟩ v5).cell? ⟨g, 1, none⟩ = some (.int .u8 c.r.x) ∧ ((((((w'.setCell ⟨w.heap.size + 1, 0, none⟩ v0).setCell ⟨w.heap.size + 1, 1, none⟩ v1).setCell ⟨w.heap.size + 1, 2, none⟩ v2).setCell ⟨w.heap.size + 1, 3, none⟩ v3).setCell ⟨w.heap.size + 1, 4, none⟩ v4).setCell ⟨w.heap.size + 1, 5, none⟩ v5).cell? ⟨g, 2, none⟩ = some (.int .u8 c.r.y) ∧ ((((((w'.setCell ⟨w.heap.size + 1, 0, none⟩ v0).setCell ⟨w.heap.size + 1, 1, none⟩ v1).setCell ⟨w.heap.size + 1, 2, none⟩ v2).setCell ⟨w.heap.size + 1, 3, none⟩ v3).setCell ⟨w.heap.size + 1, 4, none⟩ v4).setCell ⟨w.heap.size + 1, 5, none⟩ v5).cell? ⟨g, 3, none⟩ = some (.int .u8 c.r.s) ∧ ((((((w'.setCell ⟨w.heap.size + 1, 0, none⟩ v0).setCell ⟨w.heap.size + 1, 1, none⟩ v1).setCell ⟨w.heap.size + 1, 2, none⟩ v2).setCell ⟨w.heap.size + 1, 3, none⟩ v3).setCell ⟨w.heap.size + 1, 4, none⟩ v4).setCell ⟨w.heap.size + 1, 5, none⟩ v5).cell? ⟨g, 4, none⟩ = some (.int .u8 c.r.p) ∧ ((((((w'.setCell ⟨w.heap.size + 1, 0, none⟩ v0).setCell ⟨w.heap.size + 1, 1, none⟩ v1).setCell ⟨w.heap.size + 1, 2, none⟩ v2).setCell ⟨w.heap.size + 1, 3, none⟩ v3).setCell ⟨w.heap.size + 1, 4, none⟩ v4).setCell ⟨w.heap.size + 1, 5, none⟩ v5).cell? ⟨g, 5, none⟩ = some (.int .u16 c.r.pc) ∧ ((((((w'.setCell ⟨w.heap.size + 1, 0, none⟩ v0).setCell ⟨w.heap.size + 1, 1, none⟩ v1).setCell ⟨w.heap.size + 1, 2, none⟩ v2).setCell ⟨w.heap.size + 1, 3, none⟩ v3).setCell ⟨w.heap.size + 1, 4, none⟩ v4).setCell ⟨w.heap.size + 1, 5, none⟩ v5).cell? ⟨g, 6, none⟩ = some (.string c.name) ∧ ((((((w'.setCell ⟨w.heap.size + 1, 0, none⟩ v0).setCell ⟨w.heap.size + 1, 1, none⟩ v1).setCell ⟨w.heap.size + 1, 2, none⟩ v2).setCell ⟨w.heap.size + 1, 3, none⟩ v3).setCell ⟨w.heap.size + 1, 4, none⟩ v4).setCell ⟨w.heap.size + 1, 5, none⟩ v5).cell? ⟨g, 13, none⟩ = some (.int .u16 c.base)) := fun w' v0 v1 v2 v3 v4 v5 hs => by
    have e : ∀ i, ((((((w'.setCell ⟨w.heap.size + 1, 0, none⟩ v0).setCell ⟨w.heap.size + 1, 1, none⟩ v1).setCell ⟨w.heap.size + 1, 2, none⟩ v2).setCell ⟨w.heap.size + 1, 3, none⟩ v3).setCell ⟨w.heap.size + 1, 4, none⟩ v4).setCell ⟨w.heap.size + 1, 5, none⟩ v5).cell? ⟨g, i, none⟩ = w'.cell? ⟨g, i, none⟩ := fun i => by
      have hne : ∀ j, (⟨w.heap.size + 1, j, none⟩ : Addr) ≠ ⟨g, i, none⟩ := fun j e => by have := congrArg Addr.block e; simp at this; omega
      rw [World.cell?_setCell_other _ _ _ _ (hne _), World.cell?_setCell_other _ _ _ _ (hne _), World.cell?_setCell_other _ _ _ _ (hne _), World.cell?_setCell_other _ _ _ _ (hne _), World.cell?_setCell_other _ _ _ _ (hne _), World.cell?_setCell_other _ _ _ _ (hne _)]
    simpa only [e] using hs
set_option maxHeartbeats 6400000 in
set_option maxRecDepth 100000 in
theorem stored_no (g : Nat) (c : C) (plan : Value) (w : World) (h : CAt w g c plan) (b0 : 0 ≤ c.base) (b1 : c.base < 65536) (v : Int) (hv : v = writesV c.name.toList c.r (c.base / 256)) (n0 : (c.name.toList == [83, 72, 65]) = false) (n1 : (c.name.toList == [83, 72, 88]) = false) (n2 : (c.name.toList == [83, 72, 89]) = false) (n3 : (c.name.toList == [84, 65, 83]) = false) : Calls Tryz.prog 138 #[.pointer (some ⟨g, 0, none⟩)] w fun e w' => e = .returned (.agg #[.int .u16 (c.place), .int .u8 v, .bool true]) ∧ Below w.heap.size w w' := by
  have hlt := Blk.lt h
  obtain ⟨q, hq⟩ : ∃ q, q = writesR c.name.toList c.r := ⟨_, rfl⟩
  have HM : Hid (∀ w, Calls Tryz.prog 169 #[.string c.name, .agg #[.int .u8 c.r.a, .int .u8 c.r.x, .int .u8 c.r.y, .int .u8 c.r.s, .int .u8 c.r.p, .int .u16 c.r.pc], .int .u8 (c.base / 256)] w fun e w' => e = .returned (.tuple #[(.agg #[.int .u8 q.a, .int .u8 q.x, .int .u8 q.y, .int .u8 q.s, .int .u8 q.p, .int .u16 q.pc]), .int .u8 v]) ∧ Below w.heap.size w w') := Lib.hid (fun w => by have h := writes_any c.name c.r (c.base / 256) w; rw [← hq, ← hv] at h; exact h)
  have HH := Lib.hid (fun w => high_any c.base w b0 b1)
  have HL := Lib.hid (lift_gd (fun w => lays_any (c.place) v w) w)
  clear hq hv b0 b1
  have HC := Lib.hid (stored_hc g c plan w h)
  have HK6 := Lib.hid (stored_hk g c w hlt)
  have HMA := Lib.hid (HM.out (((w.alloc (.cells #[.int .u16 0, .int .u8 0, .bool false] 44)).alloc (.cells #[.int .u8 0, .int .u8 0, .int .u8 0, .int .u8 0, .int .u8 0, .int .u16 0] 57)).drew))
  have HMB := Lib.hid (HM.out ((w.alloc (.cells #[.int .u16 0, .int .u8 0, .bool false] 44)).drew))
  have HGA := Lib.hid (fun w3 => @gd_new w w3 #[.int .u8 0, .int .u8 0, .int .u8 0, .int .u8 0, .int .u8 0, .int .u16 0] 57)
  have HGB := Lib.hid (fun w3 => Gd.next (w := w) (w2 := w3) (Gd.start w))
  have hs1 := (HC.out _ (Gd.drew (Below.alloc (Gd.start w) (by simp) (.cells #[.int .u8 0, .int .u8 0, .int .u8 0, .int .u8 0, .int .u8 0, .int .u16 0] 57)))).2.2.2
  have hs0 := (HC.out _ (Gd.start w).drew).2.2.2
  clear h
  go_enter Tryz.func138, Tryz.ntmps138
  go_upto_region 1 with (fail)
  go_cut [3, 4] from 6 to 53 (fun _ x wx => x = .int .u8 v ∧ Gd w wx)
  case first =>
    go_region_held3 (fun w' => w'.cell? ⟨g, 0, none⟩ = some (.int .u8 c.r.a) ∧ w'.cell? ⟨g, 1, none⟩ = some (.int .u8 c.r.x) ∧ w'.cell? ⟨g, 2, none⟩ = some (.int .u8 c.r.y) ∧ w'.cell? ⟨g, 3, none⟩ = some (.int .u8 c.r.s) ∧ w'.cell? ⟨g, 4, none⟩ = some (.int .u8 c.r.p) ∧ w'.cell? ⟨g, 5, none⟩ = some (.int .u16 c.r.pc) ∧ w'.cell? ⟨g, 6, none⟩ = some (.string c.name) ∧ w'.cell? ⟨g, 13, none⟩ = some (.int .u16 c.base)) (first | (with_reducible exact hs3) | (with_reducible exact hs0) | (with_reducible exact hs1) | (with_reducible exact HK6.out _ _ _ _ _ _ _ hs3) | go_keep)
      (first
        | (go_at_call 158; refine (HH.out _).mono ?_; rintro e w' ⟨rfl, rfl⟩)
        | (go_at_call 169; ((with_reducible refine HMA.out.mono ?_); rintro e w3 ⟨rfl, hb3⟩; obtain ⟨g3, B4⟩ := HGA.out w3 ⟨hb3.os, hb3.tape, hb3.output, hb3.size, hb3.block⟩; obtain ⟨⟨Z0, Z1, Z2, Z3, Z4, Z5⟩, G0, G1, G2, G3, G4, G5⟩ := cells6 B4; have hs3 := (HC.out w3 g3).2.2.2; have gg := Lib.hid g3; clear B4 g3 hb3))
        | (go_at_call 169; ((with_reducible refine HMB.out.mono ?_); rintro e w3 ⟨rfl, hb3⟩; have g3 := HGB.out w3 ⟨hb3.os, hb3.tape, hb3.output, hb3.size, hb3.block⟩; have hs3 := (HC.out w3 g3).2.2.2; have gg := Lib.hid g3; clear g3 hb3)))
    all_goals
      go_wp2_with fail
      go_meet
    all_goals first | (with_reducible exact ⟨rfl, gd_a gg.out _⟩) | (with_reducible exact ⟨rfl, gd_b gg.out _ _ _ _ _ _⟩)
  case rest =>
    obtain ⟨rfl, gc⟩ := hcut
    obtain ⟨k15, k14, k6, _⟩ := HC.out wc gc
    have gcd := gc.drew

    go_wp2_with (go_at_call 157; refine (HL.out _ ?_).mono ?_; (focus (first | assumption | exact Gd.drewN gc _)); rintro e w4 ⟨rfl, g4⟩; obtain ⟨⟨R0, R1, R2⟩, Q0, Q1, Q2⟩ := Gd.res g4; have gg := Lib.hid g4)
    refine bodyPost_ret (v := .agg #[.int .u16 (c.place), .int .u8 v, .bool true]) ?_ rfl ⟨rfl, (((Gd.below gg.out).setCell (Nat.le_refl _) _).setCell (Nat.le_refl _) _).setCell (Nat.le_refl _) _⟩
    simp [results, Tryz.results138, go_sem, *]

set_option maxHeartbeats 6400000 in
set_option maxRecDepth 100000 in
theorem stored_eq0 (g : Nat) (c : C) (plan : Value) (w : World) (h : CAt w g c plan) (b0 : 0 ≤ c.base) (b1 : c.base < 65536) (v : Int) (hv : v = writesV c.name.toList c.r (c.base / 256)) (n0 : (c.name.toList == [83, 72, 65]) = true) (hb : (c.rough != c.place) = false) : Calls Tryz.prog 138 #[.pointer (some ⟨g, 0, none⟩)] w fun e w' => e = .returned (.agg #[.int .u16 (c.place), .int .u8 v, .bool true]) ∧ Below w.heap.size w w' := by
  have hlt := Blk.lt h
  obtain ⟨q, hq⟩ : ∃ q, q = writesR c.name.toList c.r := ⟨_, rfl⟩
  have HM : Hid (∀ w, Calls Tryz.prog 169 #[.string c.name, .agg #[.int .u8 c.r.a, .int .u8 c.r.x, .int .u8 c.r.y, .int .u8 c.r.s, .int .u8 c.r.p, .int .u16 c.r.pc], .int .u8 (c.base / 256)] w fun e w' => e = .returned (.tuple #[(.agg #[.int .u8 q.a, .int .u8 q.x, .int .u8 q.y, .int .u8 q.s, .int .u8 q.p, .int .u16 q.pc]), .int .u8 v]) ∧ Below w.heap.size w w') := Lib.hid (fun w => by have h := writes_any c.name c.r (c.base / 256) w; rw [← hq, ← hv] at h; exact h)
  have HH := Lib.hid (fun w => high_any c.base w b0 b1)
  have HL := Lib.hid (lift_gd (fun w => lays_any (c.place) v w) w)
  clear hq hv b0 b1
  have HC := Lib.hid (stored_hc g c plan w h)
  have HK6 := Lib.hid (stored_hk g c w hlt)
  have HMA := Lib.hid (HM.out (((w.alloc (.cells #[.int .u16 0, .int .u8 0, .bool false] 44)).alloc (.cells #[.int .u8 0, .int .u8 0, .int .u8 0, .int .u8 0, .int .u8 0, .int .u16 0] 57)).drew))
  have HMB := Lib.hid (HM.out ((w.alloc (.cells #[.int .u16 0, .int .u8 0, .bool false] 44)).drew))
  have HGA := Lib.hid (fun w3 => @gd_new w w3 #[.int .u8 0, .int .u8 0, .int .u8 0, .int .u8 0, .int .u8 0, .int .u16 0] 57)
  have HGB := Lib.hid (fun w3 => Gd.next (w := w) (w2 := w3) (Gd.start w))
  have hs1 := (HC.out _ (Gd.drew (Below.alloc (Gd.start w) (by simp) (.cells #[.int .u8 0, .int .u8 0, .int .u8 0, .int .u8 0, .int .u8 0, .int .u16 0] 57)))).2.2.2
  have hs0 := (HC.out _ (Gd.start w).drew).2.2.2
  clear h
  go_enter Tryz.func138, Tryz.ntmps138
  go_upto_region 1 with (fail)
  go_cut [3, 4] from 6 to 53 (fun _ x wx => x = .int .u8 v ∧ Gd w wx)
  case first =>
    go_region_held3 (fun w' => w'.cell? ⟨g, 0, none⟩ = some (.int .u8 c.r.a) ∧ w'.cell? ⟨g, 1, none⟩ = some (.int .u8 c.r.x) ∧ w'.cell? ⟨g, 2, none⟩ = some (.int .u8 c.r.y) ∧ w'.cell? ⟨g, 3, none⟩ = some (.int .u8 c.r.s) ∧ w'.cell? ⟨g, 4, none⟩ = some (.int .u8 c.r.p) ∧ w'.cell? ⟨g, 5, none⟩ = some (.int .u16 c.r.pc) ∧ w'.cell? ⟨g, 6, none⟩ = some (.string c.name) ∧ w'.cell? ⟨g, 13, none⟩ = some (.int .u16 c.base)) (first | (with_reducible exact hs3) | (with_reducible exact hs0) | (with_reducible exact hs1) | (with_reducible exact HK6.out _ _ _ _ _ _ _ hs3) | go_keep)
      (first
        | (go_at_call 158; refine (HH.out _).mono ?_; rintro e w' ⟨rfl, rfl⟩)
        | (go_at_call 169; ((with_reducible refine HMA.out.mono ?_); rintro e w3 ⟨rfl, hb3⟩; obtain ⟨g3, B4⟩ := HGA.out w3 ⟨hb3.os, hb3.tape, hb3.output, hb3.size, hb3.block⟩; obtain ⟨⟨Z0, Z1, Z2, Z3, Z4, Z5⟩, G0, G1, G2, G3, G4, G5⟩ := cells6 B4; have hs3 := (HC.out w3 g3).2.2.2; have gg := Lib.hid g3; clear B4 g3 hb3))
        | (go_at_call 169; ((with_reducible refine HMB.out.mono ?_); rintro e w3 ⟨rfl, hb3⟩; have g3 := HGB.out w3 ⟨hb3.os, hb3.tape, hb3.output, hb3.size, hb3.block⟩; have hs3 := (HC.out w3 g3).2.2.2; have gg := Lib.hid g3; clear g3 hb3)))
    all_goals
      go_wp2_with fail
      go_meet
    all_goals first | (with_reducible exact ⟨rfl, gd_a gg.out _⟩) | (with_reducible exact ⟨rfl, gd_b gg.out _ _ _ _ _ _⟩)
  case rest =>
    obtain ⟨rfl, gc⟩ := hcut
    obtain ⟨k15, k14, k6, _⟩ := HC.out wc gc
    have gcd := gc.drew

    go_wp2_with fail
    go_quiet (fail)
    go_wp2_with (go_at_call 157; refine (HL.out _ ?_).mono ?_; (focus (first | assumption | exact Gd.drewN gc _)); rintro e w4 ⟨rfl, g4⟩; obtain ⟨⟨R0, R1, R2⟩, Q0, Q1, Q2⟩ := Gd.res g4; have gg := Lib.hid g4)
    refine bodyPost_ret (v := .agg #[.int .u16 (c.place), .int .u8 v, .bool true]) ?_ rfl ⟨rfl, (((Gd.below gg.out).setCell (Nat.le_refl _) _).setCell (Nat.le_refl _) _).setCell (Nat.le_refl _) _⟩
    simp [results, Tryz.results138, go_sem, *]

set_option maxHeartbeats 6400000 in
set_option maxRecDepth 100000 in
theorem stored_ne0 (g : Nat) (c : C) (plan : Value) (w : World) (h : CAt w g c plan) (b0 : 0 ≤ c.base) (b1 : c.base < 65536) (v : Int) (hv : v = writesV c.name.toList c.r (c.base / 256)) (n0 : (c.name.toList == [83, 72, 65]) = true) (hb : (c.rough != c.place) = true) (hvb : By v) : Calls Tryz.prog 138 #[.pointer (some ⟨g, 0, none⟩)] w fun e w' => e = .returned (.agg #[.int .u16 (v * 256 + IntKind.u8.wrap c.place), .int .u8 v, .bool true]) ∧ Below w.heap.size w w' := by
  have hlt := Blk.lt h
  obtain ⟨q, hq⟩ : ∃ q, q = writesR c.name.toList c.r := ⟨_, rfl⟩
  have HM : Hid (∀ w, Calls Tryz.prog 169 #[.string c.name, .agg #[.int .u8 c.r.a, .int .u8 c.r.x, .int .u8 c.r.y, .int .u8 c.r.s, .int .u8 c.r.p, .int .u16 c.r.pc], .int .u8 (c.base / 256)] w fun e w' => e = .returned (.tuple #[(.agg #[.int .u8 q.a, .int .u8 q.x, .int .u8 q.y, .int .u8 q.s, .int .u8 q.p, .int .u16 q.pc]), .int .u8 v]) ∧ Below w.heap.size w w') := Lib.hid (fun w => by have h := writes_any c.name c.r (c.base / 256) w; rw [← hq, ← hv] at h; exact h)
  have HH := Lib.hid (fun w => high_any c.base w b0 b1)
  have HL := Lib.hid (lift_gd (fun w => lays_any (v * 256 + IntKind.u8.wrap c.place) v w) w)
  clear hq hv b0 b1
  have HC := Lib.hid (stored_hc g c plan w h)
  have HK6 := Lib.hid (stored_hk g c w hlt)
  have HMA := Lib.hid (HM.out (((w.alloc (.cells #[.int .u16 0, .int .u8 0, .bool false] 44)).alloc (.cells #[.int .u8 0, .int .u8 0, .int .u8 0, .int .u8 0, .int .u8 0, .int .u16 0] 57)).drew))
  have HMB := Lib.hid (HM.out ((w.alloc (.cells #[.int .u16 0, .int .u8 0, .bool false] 44)).drew))
  have HGA := Lib.hid (fun w3 => @gd_new w w3 #[.int .u8 0, .int .u8 0, .int .u8 0, .int .u8 0, .int .u8 0, .int .u16 0] 57)
  have HGB := Lib.hid (fun w3 => Gd.next (w := w) (w2 := w3) (Gd.start w))
  have hs1 := (HC.out _ (Gd.drew (Below.alloc (Gd.start w) (by simp) (.cells #[.int .u8 0, .int .u8 0, .int .u8 0, .int .u8 0, .int .u8 0, .int .u16 0] 57)))).2.2.2
  have hs0 := (HC.out _ (Gd.start w).drew).2.2.2
  clear h
  go_enter Tryz.func138, Tryz.ntmps138
  go_upto_region 1 with (fail)
  go_cut [3, 4] from 6 to 53 (fun _ x wx => x = .int .u8 v ∧ Gd w wx)
  case first =>
    go_region_held3 (fun w' => w'.cell? ⟨g, 0, none⟩ = some (.int .u8 c.r.a) ∧ w'.cell? ⟨g, 1, none⟩ = some (.int .u8 c.r.x) ∧ w'.cell? ⟨g, 2, none⟩ = some (.int .u8 c.r.y) ∧ w'.cell? ⟨g, 3, none⟩ = some (.int .u8 c.r.s) ∧ w'.cell? ⟨g, 4, none⟩ = some (.int .u8 c.r.p) ∧ w'.cell? ⟨g, 5, none⟩ = some (.int .u16 c.r.pc) ∧ w'.cell? ⟨g, 6, none⟩ = some (.string c.name) ∧ w'.cell? ⟨g, 13, none⟩ = some (.int .u16 c.base)) (first | (with_reducible exact hs3) | (with_reducible exact hs0) | (with_reducible exact hs1) | (with_reducible exact HK6.out _ _ _ _ _ _ _ hs3) | go_keep)
      (first
        | (go_at_call 158; refine (HH.out _).mono ?_; rintro e w' ⟨rfl, rfl⟩)
        | (go_at_call 169; ((with_reducible refine HMA.out.mono ?_); rintro e w3 ⟨rfl, hb3⟩; obtain ⟨g3, B4⟩ := HGA.out w3 ⟨hb3.os, hb3.tape, hb3.output, hb3.size, hb3.block⟩; obtain ⟨⟨Z0, Z1, Z2, Z3, Z4, Z5⟩, G0, G1, G2, G3, G4, G5⟩ := cells6 B4; have hs3 := (HC.out w3 g3).2.2.2; have gg := Lib.hid g3; clear B4 g3 hb3))
        | (go_at_call 169; ((with_reducible refine HMB.out.mono ?_); rintro e w3 ⟨rfl, hb3⟩; have g3 := HGB.out w3 ⟨hb3.os, hb3.tape, hb3.output, hb3.size, hb3.block⟩; have hs3 := (HC.out w3 g3).2.2.2; have gg := Lib.hid g3; clear g3 hb3)))
    all_goals
      go_wp2_with fail
      go_meet
    all_goals first | (with_reducible exact ⟨rfl, gd_a gg.out _⟩) | (with_reducible exact ⟨rfl, gd_b gg.out _ _ _ _ _ _⟩)
  case rest =>
    obtain ⟨rfl, gc⟩ := hcut
    obtain ⟨k15, k14, k6, _⟩ := HC.out wc gc
    have gcd := gc.drew
    have HW := Lib.hid (fun w => word_any (IntKind.u8.wrap c.place) v w (w8_by _).1 (w8_by _).2 hvb.1 hvb.2)
    clear hvb
    go_wp2_with fail
    go_quiet (fail)
    go_wp2_with (first
      | (go_at_call 79; refine (HW.out _).mono ?_; rintro e w' ⟨rfl, rfl⟩)
      | (go_at_call 157; refine (HL.out _ ?_).mono ?_; (focus (first | assumption | exact Gd.drewN gc _)); rintro e w4 ⟨rfl, g4⟩; obtain ⟨⟨R0, R1, R2⟩, Q0, Q1, Q2⟩ := Gd.res g4; have gg := Lib.hid g4))
    refine bodyPost_ret (v := .agg #[.int .u16 (v * 256 + IntKind.u8.wrap c.place), .int .u8 v, .bool true]) ?_ rfl ⟨rfl, (((Gd.below gg.out).setCell (Nat.le_refl _) _).setCell (Nat.le_refl _) _).setCell (Nat.le_refl _) _⟩
    simp [results, Tryz.results138, go_sem, w8, *]

set_option maxHeartbeats 6400000 in
set_option maxRecDepth 100000 in
theorem stored_eq1 (g : Nat) (c : C) (plan : Value) (w : World) (h : CAt w g c plan) (b0 : 0 ≤ c.base) (b1 : c.base < 65536) (v : Int) (hv : v = writesV c.name.toList c.r (c.base / 256)) (n0 : (c.name.toList == [83, 72, 65]) = false) (n1 : (c.name.toList == [83, 72, 88]) = true) (hb : (c.rough != c.place) = false) : Calls Tryz.prog 138 #[.pointer (some ⟨g, 0, none⟩)] w fun e w' => e = .returned (.agg #[.int .u16 (c.place), .int .u8 v, .bool true]) ∧ Below w.heap.size w w' := by
  have hlt := Blk.lt h
  obtain ⟨q, hq⟩ : ∃ q, q = writesR c.name.toList c.r := ⟨_, rfl⟩
  have HM : Hid (∀ w, Calls Tryz.prog 169 #[.string c.name, .agg #[.int .u8 c.r.a, .int .u8 c.r.x, .int .u8 c.r.y, .int .u8 c.r.s, .int .u8 c.r.p, .int .u16 c.r.pc], .int .u8 (c.base / 256)] w fun e w' => e = .returned (.tuple #[(.agg #[.int .u8 q.a, .int .u8 q.x, .int .u8 q.y, .int .u8 q.s, .int .u8 q.p, .int .u16 q.pc]), .int .u8 v]) ∧ Below w.heap.size w w') := Lib.hid (fun w => by have h := writes_any c.name c.r (c.base / 256) w; rw [← hq, ← hv] at h; exact h)
  have HH := Lib.hid (fun w => high_any c.base w b0 b1)
  have HL := Lib.hid (lift_gd (fun w => lays_any (c.place) v w) w)
  clear hq hv b0 b1
  have HC := Lib.hid (stored_hc g c plan w h)
  have HK6 := Lib.hid (stored_hk g c w hlt)
  have HMA := Lib.hid (HM.out (((w.alloc (.cells #[.int .u16 0, .int .u8 0, .bool false] 44)).alloc (.cells #[.int .u8 0, .int .u8 0, .int .u8 0, .int .u8 0, .int .u8 0, .int .u16 0] 57)).drew))
  have HMB := Lib.hid (HM.out ((w.alloc (.cells #[.int .u16 0, .int .u8 0, .bool false] 44)).drew))
  have HGA := Lib.hid (fun w3 => @gd_new w w3 #[.int .u8 0, .int .u8 0, .int .u8 0, .int .u8 0, .int .u8 0, .int .u16 0] 57)
  have HGB := Lib.hid (fun w3 => Gd.next (w := w) (w2 := w3) (Gd.start w))
  have hs1 := (HC.out _ (Gd.drew (Below.alloc (Gd.start w) (by simp) (.cells #[.int .u8 0, .int .u8 0, .int .u8 0, .int .u8 0, .int .u8 0, .int .u16 0] 57)))).2.2.2
  have hs0 := (HC.out _ (Gd.start w).drew).2.2.2
  clear h
  go_enter Tryz.func138, Tryz.ntmps138
  go_upto_region 1 with (fail)
  go_cut [3, 4] from 6 to 53 (fun _ x wx => x = .int .u8 v ∧ Gd w wx)
  case first =>
    go_region_held3 (fun w' => w'.cell? ⟨g, 0, none⟩ = some (.int .u8 c.r.a) ∧ w'.cell? ⟨g, 1, none⟩ = some (.int .u8 c.r.x) ∧ w'.cell? ⟨g, 2, none⟩ = some (.int .u8 c.r.y) ∧ w'.cell? ⟨g, 3, none⟩ = some (.int .u8 c.r.s) ∧ w'.cell? ⟨g, 4, none⟩ = some (.int .u8 c.r.p) ∧ w'.cell? ⟨g, 5, none⟩ = some (.int .u16 c.r.pc) ∧ w'.cell? ⟨g, 6, none⟩ = some (.string c.name) ∧ w'.cell? ⟨g, 13, none⟩ = some (.int .u16 c.base)) (first | (with_reducible exact hs3) | (with_reducible exact hs0) | (with_reducible exact hs1) | (with_reducible exact HK6.out _ _ _ _ _ _ _ hs3) | go_keep)
      (first
        | (go_at_call 158; refine (HH.out _).mono ?_; rintro e w' ⟨rfl, rfl⟩)
        | (go_at_call 169; ((with_reducible refine HMA.out.mono ?_); rintro e w3 ⟨rfl, hb3⟩; obtain ⟨g3, B4⟩ := HGA.out w3 ⟨hb3.os, hb3.tape, hb3.output, hb3.size, hb3.block⟩; obtain ⟨⟨Z0, Z1, Z2, Z3, Z4, Z5⟩, G0, G1, G2, G3, G4, G5⟩ := cells6 B4; have hs3 := (HC.out w3 g3).2.2.2; have gg := Lib.hid g3; clear B4 g3 hb3))
        | (go_at_call 169; ((with_reducible refine HMB.out.mono ?_); rintro e w3 ⟨rfl, hb3⟩; have g3 := HGB.out w3 ⟨hb3.os, hb3.tape, hb3.output, hb3.size, hb3.block⟩; have hs3 := (HC.out w3 g3).2.2.2; have gg := Lib.hid g3; clear g3 hb3)))
    all_goals
      go_wp2_with fail
      go_meet
    all_goals first | (with_reducible exact ⟨rfl, gd_a gg.out _⟩) | (with_reducible exact ⟨rfl, gd_b gg.out _ _ _ _ _ _⟩)
  case rest =>
    obtain ⟨rfl, gc⟩ := hcut
    obtain ⟨k15, k14, k6, _⟩ := HC.out wc gc
    have gcd := gc.drew

    go_wp2_with fail
    go_quiet (fail)
    go_wp2_with (go_at_call 157; refine (HL.out _ ?_).mono ?_; (focus (first | assumption | exact Gd.drewN gc _)); rintro e w4 ⟨rfl, g4⟩; obtain ⟨⟨R0, R1, R2⟩, Q0, Q1, Q2⟩ := Gd.res g4; have gg := Lib.hid g4)
    refine bodyPost_ret (v := .agg #[.int .u16 (c.place), .int .u8 v, .bool true]) ?_ rfl ⟨rfl, (((Gd.below gg.out).setCell (Nat.le_refl _) _).setCell (Nat.le_refl _) _).setCell (Nat.le_refl _) _⟩
    simp [results, Tryz.results138, go_sem, *]

set_option maxHeartbeats 6400000 in
set_option maxRecDepth 100000 in
theorem stored_ne1 (g : Nat) (c : C) (plan : Value) (w : World) (h : CAt w g c plan) (b0 : 0 ≤ c.base) (b1 : c.base < 65536) (v : Int) (hv : v = writesV c.name.toList c.r (c.base / 256)) (n0 : (c.name.toList == [83, 72, 65]) = false) (n1 : (c.name.toList == [83, 72, 88]) = true) (hb : (c.rough != c.place) = true) (hvb : By v) : Calls Tryz.prog 138 #[.pointer (some ⟨g, 0, none⟩)] w fun e w' => e = .returned (.agg #[.int .u16 (v * 256 + IntKind.u8.wrap c.place), .int .u8 v, .bool true]) ∧ Below w.heap.size w w' := by
  have hlt := Blk.lt h
  obtain ⟨q, hq⟩ : ∃ q, q = writesR c.name.toList c.r := ⟨_, rfl⟩
  have HM : Hid (∀ w, Calls Tryz.prog 169 #[.string c.name, .agg #[.int .u8 c.r.a, .int .u8 c.r.x, .int .u8 c.r.y, .int .u8 c.r.s, .int .u8 c.r.p, .int .u16 c.r.pc], .int .u8 (c.base / 256)] w fun e w' => e = .returned (.tuple #[(.agg #[.int .u8 q.a, .int .u8 q.x, .int .u8 q.y, .int .u8 q.s, .int .u8 q.p, .int .u16 q.pc]), .int .u8 v]) ∧ Below w.heap.size w w') := Lib.hid (fun w => by have h := writes_any c.name c.r (c.base / 256) w; rw [← hq, ← hv] at h; exact h)
  have HH := Lib.hid (fun w => high_any c.base w b0 b1)
  have HL := Lib.hid (lift_gd (fun w => lays_any (v * 256 + IntKind.u8.wrap c.place) v w) w)
  clear hq hv b0 b1
  have HC := Lib.hid (stored_hc g c plan w h)
  have HK6 := Lib.hid (stored_hk g c w hlt)
  have HMA := Lib.hid (HM.out (((w.alloc (.cells #[.int .u16 0, .int .u8 0, .bool false] 44)).alloc (.cells #[.int .u8 0, .int .u8 0, .int .u8 0, .int .u8 0, .int .u8 0, .int .u16 0] 57)).drew))
  have HMB := Lib.hid (HM.out ((w.alloc (.cells #[.int .u16 0, .int .u8 0, .bool false] 44)).drew))
  have HGA := Lib.hid (fun w3 => @gd_new w w3 #[.int .u8 0, .int .u8 0, .int .u8 0, .int .u8 0, .int .u8 0, .int .u16 0] 57)
  have HGB := Lib.hid (fun w3 => Gd.next (w := w) (w2 := w3) (Gd.start w))
  have hs1 := (HC.out _ (Gd.drew (Below.alloc (Gd.start w) (by simp) (.cells #[.int .u8 0, .int .u8 0, .int .u8 0, .int .u8 0, .int .u8 0, .int .u16 0] 57)))).2.2.2
  have hs0 := (HC.out _ (Gd.start w).drew).2.2.2
  clear h
  go_enter Tryz.func138, Tryz.ntmps138
  go_upto_region 1 with (fail)
  go_cut [3, 4] from 6 to 53 (fun _ x wx => x = .int .u8 v ∧ Gd w wx)
  case first =>
    go_region_held3 (fun w' => w'.cell? ⟨g, 0, none⟩ = some (.int .u8 c.r.a) ∧ w'.cell? ⟨g, 1, none⟩ = some (.int .u8 c.r.x) ∧ w'.cell? ⟨g, 2, none⟩ = some (.int .u8 c.r.y) ∧ w'.cell? ⟨g, 3, none⟩ = some (.int .u8 c.r.s) ∧ w'.cell? ⟨g, 4, none⟩ = some (.int .u8 c.r.p) ∧ w'.cell? ⟨g, 5, none⟩ = some (.int .u16 c.r.pc) ∧ w'.cell? ⟨g, 6, none⟩ = some (.string c.name) ∧ w'.cell? ⟨g, 13, none⟩ = some (.int .u16 c.base)) (first | (with_reducible exact hs3) | (with_reducible exact hs0) | (with_reducible exact hs1) | (with_reducible exact HK6.out _ _ _ _ _ _ _ hs3) | go_keep)
      (first
        | (go_at_call 158; refine (HH.out _).mono ?_; rintro e w' ⟨rfl, rfl⟩)
        | (go_at_call 169; ((with_reducible refine HMA.out.mono ?_); rintro e w3 ⟨rfl, hb3⟩; obtain ⟨g3, B4⟩ := HGA.out w3 ⟨hb3.os, hb3.tape, hb3.output, hb3.size, hb3.block⟩; obtain ⟨⟨Z0, Z1, Z2, Z3, Z4, Z5⟩, G0, G1, G2, G3, G4, G5⟩ := cells6 B4; have hs3 := (HC.out w3 g3).2.2.2; have gg := Lib.hid g3; clear B4 g3 hb3))
        | (go_at_call 169; ((with_reducible refine HMB.out.mono ?_); rintro e w3 ⟨rfl, hb3⟩; have g3 := HGB.out w3 ⟨hb3.os, hb3.tape, hb3.output, hb3.size, hb3.block⟩; have hs3 := (HC.out w3 g3).2.2.2; have gg := Lib.hid g3; clear g3 hb3)))
    all_goals
      go_wp2_with fail
      go_meet
    all_goals first | (with_reducible exact ⟨rfl, gd_a gg.out _⟩) | (with_reducible exact ⟨rfl, gd_b gg.out _ _ _ _ _ _⟩)
  case rest =>
    obtain ⟨rfl, gc⟩ := hcut
    obtain ⟨k15, k14, k6, _⟩ := HC.out wc gc
    have gcd := gc.drew
    have HW := Lib.hid (fun w => word_any (IntKind.u8.wrap c.place) v w (w8_by _).1 (w8_by _).2 hvb.1 hvb.2)
    clear hvb
    go_wp2_with fail
    go_quiet (fail)
    go_wp2_with (first
      | (go_at_call 79; refine (HW.out _).mono ?_; rintro e w' ⟨rfl, rfl⟩)
      | (go_at_call 157; refine (HL.out _ ?_).mono ?_; (focus (first | assumption | exact Gd.drewN gc _)); rintro e w4 ⟨rfl, g4⟩; obtain ⟨⟨R0, R1, R2⟩, Q0, Q1, Q2⟩ := Gd.res g4; have gg := Lib.hid g4))
    refine bodyPost_ret (v := .agg #[.int .u16 (v * 256 + IntKind.u8.wrap c.place), .int .u8 v, .bool true]) ?_ rfl ⟨rfl, (((Gd.below gg.out).setCell (Nat.le_refl _) _).setCell (Nat.le_refl _) _).setCell (Nat.le_refl _) _⟩
    simp [results, Tryz.results138, go_sem, w8, *]

set_option maxHeartbeats 6400000 in
set_option maxRecDepth 100000 in
theorem stored_eq2 (g : Nat) (c : C) (plan : Value) (w : World) (h : CAt w g c plan) (b0 : 0 ≤ c.base) (b1 : c.base < 65536) (v : Int) (hv : v = writesV c.name.toList c.r (c.base / 256)) (n0 : (c.name.toList == [83, 72, 65]) = false) (n1 : (c.name.toList == [83, 72, 88]) = false) (n2 : (c.name.toList == [83, 72, 89]) = true) (hb : (c.rough != c.place) = false) : Calls Tryz.prog 138 #[.pointer (some ⟨g, 0, none⟩)] w fun e w' => e = .returned (.agg #[.int .u16 (c.place), .int .u8 v, .bool true]) ∧ Below w.heap.size w w' := by
  have hlt := Blk.lt h
  obtain ⟨q, hq⟩ : ∃ q, q = writesR c.name.toList c.r := ⟨_, rfl⟩
  have HM : Hid (∀ w, Calls Tryz.prog 169 #[.string c.name, .agg #[.int .u8 c.r.a, .int .u8 c.r.x, .int .u8 c.r.y, .int .u8 c.r.s, .int .u8 c.r.p, .int .u16 c.r.pc], .int .u8 (c.base / 256)] w fun e w' => e = .returned (.tuple #[(.agg #[.int .u8 q.a, .int .u8 q.x, .int .u8 q.y, .int .u8 q.s, .int .u8 q.p, .int .u16 q.pc]), .int .u8 v]) ∧ Below w.heap.size w w') := Lib.hid (fun w => by have h := writes_any c.name c.r (c.base / 256) w; rw [← hq, ← hv] at h; exact h)
  have HH := Lib.hid (fun w => high_any c.base w b0 b1)
  have HL := Lib.hid (lift_gd (fun w => lays_any (c.place) v w) w)
  clear hq hv b0 b1
  have HC := Lib.hid (stored_hc g c plan w h)
  have HK6 := Lib.hid (stored_hk g c w hlt)
  have HMA := Lib.hid (HM.out (((w.alloc (.cells #[.int .u16 0, .int .u8 0, .bool false] 44)).alloc (.cells #[.int .u8 0, .int .u8 0, .int .u8 0, .int .u8 0, .int .u8 0, .int .u16 0] 57)).drew))
  have HMB := Lib.hid (HM.out ((w.alloc (.cells #[.int .u16 0, .int .u8 0, .bool false] 44)).drew))
  have HGA := Lib.hid (fun w3 => @gd_new w w3 #[.int .u8 0, .int .u8 0, .int .u8 0, .int .u8 0, .int .u8 0, .int .u16 0] 57)
  have HGB := Lib.hid (fun w3 => Gd.next (w := w) (w2 := w3) (Gd.start w))
  have hs1 := (HC.out _ (Gd.drew (Below.alloc (Gd.start w) (by simp) (.cells #[.int .u8 0, .int .u8 0, .int .u8 0, .int .u8 0, .int .u8 0, .int .u16 0] 57)))).2.2.2
  have hs0 := (HC.out _ (Gd.start w).drew).2.2.2
  clear h
  go_enter Tryz.func138, Tryz.ntmps138
  go_upto_region 1 with (fail)
  go_cut [3, 4] from 6 to 53 (fun _ x wx => x = .int .u8 v ∧ Gd w wx)
  case first =>
    go_region_held3 (fun w' => w'.cell? ⟨g, 0, none⟩ = some (.int .u8 c.r.a) ∧ w'.cell? ⟨g, 1, none⟩ = some (.int .u8 c.r.x) ∧ w'.cell? ⟨g, 2, none⟩ = some (.int .u8 c.r.y) ∧ w'.cell? ⟨g, 3, none⟩ = some (.int .u8 c.r.s) ∧ w'.cell? ⟨g, 4, none⟩ = some (.int .u8 c.r.p) ∧ w'.cell? ⟨g, 5, none⟩ = some (.int .u16 c.r.pc) ∧ w'.cell? ⟨g, 6, none⟩ = some (.string c.name) ∧ w'.cell? ⟨g, 13, none⟩ = some (.int .u16 c.base)) (first | (with_reducible exact hs3) | (with_reducible exact hs0) | (with_reducible exact hs1) | (with_reducible exact HK6.out _ _ _ _ _ _ _ hs3) | go_keep)
      (first
        | (go_at_call 158; refine (HH.out _).mono ?_; rintro e w' ⟨rfl, rfl⟩)
        | (go_at_call 169; ((with_reducible refine HMA.out.mono ?_); rintro e w3 ⟨rfl, hb3⟩; obtain ⟨g3, B4⟩ := HGA.out w3 ⟨hb3.os, hb3.tape, hb3.output, hb3.size, hb3.block⟩; obtain ⟨⟨Z0, Z1, Z2, Z3, Z4, Z5⟩, G0, G1, G2, G3, G4, G5⟩ := cells6 B4; have hs3 := (HC.out w3 g3).2.2.2; have gg := Lib.hid g3; clear B4 g3 hb3))
        | (go_at_call 169; ((with_reducible refine HMB.out.mono ?_); rintro e w3 ⟨rfl, hb3⟩; have g3 := HGB.out w3 ⟨hb3.os, hb3.tape, hb3.output, hb3.size, hb3.block⟩; have hs3 := (HC.out w3 g3).2.2.2; have gg := Lib.hid g3; clear g3 hb3)))
    all_goals
      go_wp2_with fail
      go_meet
    all_goals first | (with_reducible exact ⟨rfl, gd_a gg.out _⟩) | (with_reducible exact ⟨rfl, gd_b gg.out _ _ _ _ _ _⟩)
  case rest =>
    obtain ⟨rfl, gc⟩ := hcut
    obtain ⟨k15, k14, k6, _⟩ := HC.out wc gc
    have gcd := gc.drew

    go_wp2_with fail
    go_quiet (fail)
    go_wp2_with (go_at_call 157; refine (HL.out _ ?_).mono ?_; (focus (first | assumption | exact Gd.drewN gc _)); rintro e w4 ⟨rfl, g4⟩; obtain ⟨⟨R0, R1, R2⟩, Q0, Q1, Q2⟩ := Gd.res g4; have gg := Lib.hid g4)
    refine bodyPost_ret (v := .agg #[.int .u16 (c.place), .int .u8 v, .bool true]) ?_ rfl ⟨rfl, (((Gd.below gg.out).setCell (Nat.le_refl _) _).setCell (Nat.le_refl _) _).setCell (Nat.le_refl _) _⟩
    simp [results, Tryz.results138, go_sem, *]

set_option maxHeartbeats 6400000 in
set_option maxRecDepth 100000 in
theorem stored_ne2 (g : Nat) (c : C) (plan : Value) (w : World) (h : CAt w g c plan) (b0 : 0 ≤ c.base) (b1 : c.base < 65536) (v : Int) (hv : v = writesV c.name.toList c.r (c.base / 256)) (n0 : (c.name.toList == [83, 72, 65]) = false) (n1 : (c.name.toList == [83, 72, 88]) = false) (n2 : (c.name.toList == [83, 72, 89]) = true) (hb : (c.rough != c.place) = true) (hvb : By v) : Calls Tryz.prog 138 #[.pointer (some ⟨g, 0, none⟩)] w fun e w' => e = .returned (.agg #[.int .u16 (v * 256 + IntKind.u8.wrap c.place), .int .u8 v, .bool true]) ∧ Below w.heap.size w w' := by
  have hlt := Blk.lt h
  obtain ⟨q, hq⟩ : ∃ q, q = writesR c.name.toList c.r := ⟨_, rfl⟩
  have HM : Hid (∀ w, Calls Tryz.prog 169 #[.string c.name, .agg #[.int .u8 c.r.a, .int .u8 c.r.x, .int .u8 c.r.y, .int .u8 c.r.s, .int .u8 c.r.p, .int .u16 c.r.pc], .int .u8 (c.base / 256)] w fun e w' => e = .returned (.tuple #[(.agg #[.int .u8 q.a, .int .u8 q.x, .int .u8 q.y, .int .u8 q.s, .int .u8 q.p, .int .u16 q.pc]), .int .u8 v]) ∧ Below w.heap.size w w') := Lib.hid (fun w => by have h := writes_any c.name c.r (c.base / 256) w; rw [← hq, ← hv] at h; exact h)
  have HH := Lib.hid (fun w => high_any c.base w b0 b1)
  have HL := Lib.hid (lift_gd (fun w => lays_any (v * 256 + IntKind.u8.wrap c.place) v w) w)
  clear hq hv b0 b1
  have HC := Lib.hid (stored_hc g c plan w h)
  have HK6 := Lib.hid (stored_hk g c w hlt)
  have HMA := Lib.hid (HM.out (((w.alloc (.cells #[.int .u16 0, .int .u8 0, .bool false] 44)).alloc (.cells #[.int .u8 0, .int .u8 0, .int .u8 0, .int .u8 0, .int .u8 0, .int .u16 0] 57)).drew))
  have HMB := Lib.hid (HM.out ((w.alloc (.cells #[.int .u16 0, .int .u8 0, .bool false] 44)).drew))
  have HGA := Lib.hid (fun w3 => @gd_new w w3 #[.int .u8 0, .int .u8 0, .int .u8 0, .int .u8 0, .int .u8 0, .int .u16 0] 57)
  have HGB := Lib.hid (fun w3 => Gd.next (w := w) (w2 := w3) (Gd.start w))
  have hs1 := (HC.out _ (Gd.drew (Below.alloc (Gd.start w) (by simp) (.cells #[.int .u8 0, .int .u8 0, .int .u8 0, .int .u8 0, .int .u8 0, .int .u16 0] 57)))).2.2.2
  have hs0 := (HC.out _ (Gd.start w).drew).2.2.2
  clear h
  go_enter Tryz.func138, Tryz.ntmps138
  go_upto_region 1 with (fail)
  go_cut [3, 4] from 6 to 53 (fun _ x wx => x = .int .u8 v ∧ Gd w wx)
  case first =>
    go_region_held3 (fun w' => w'.cell? ⟨g, 0, none⟩ = some (.int .u8 c.r.a) ∧ w'.cell? ⟨g, 1, none⟩ = some (.int .u8 c.r.x) ∧ w'.cell? ⟨g, 2, none⟩ = some (.int .u8 c.r.y) ∧ w'.cell? ⟨g, 3, none⟩ = some (.int .u8 c.r.s) ∧ w'.cell? ⟨g, 4, none⟩ = some (.int .u8 c.r.p) ∧ w'.cell? ⟨g, 5, none⟩ = some (.int .u16 c.r.pc) ∧ w'.cell? ⟨g, 6, none⟩ = some (.string c.name) ∧ w'.cell? ⟨g, 13, none⟩ = some (.int .u16 c.base)) (first | (with_reducible exact hs3) | (with_reducible exact hs0) | (with_reducible exact hs1) | (with_reducible exact HK6.out _ _ _ _ _ _ _ hs3) | go_keep)
      (first
        | (go_at_call 158; refine (HH.out _).mono ?_; rintro e w' ⟨rfl, rfl⟩)
        | (go_at_call 169; ((with_reducible refine HMA.out.mono ?_); rintro e w3 ⟨rfl, hb3⟩; obtain ⟨g3, B4⟩ := HGA.out w3 ⟨hb3.os, hb3.tape, hb3.output, hb3.size, hb3.block⟩; obtain ⟨⟨Z0, Z1, Z2, Z3, Z4, Z5⟩, G0, G1, G2, G3, G4, G5⟩ := cells6 B4; have hs3 := (HC.out w3 g3).2.2.2; have gg := Lib.hid g3; clear B4 g3 hb3))
        | (go_at_call 169; ((with_reducible refine HMB.out.mono ?_); rintro e w3 ⟨rfl, hb3⟩; have g3 := HGB.out w3 ⟨hb3.os, hb3.tape, hb3.output, hb3.size, hb3.block⟩; have hs3 := (HC.out w3 g3).2.2.2; have gg := Lib.hid g3; clear g3 hb3)))
    all_goals
      go_wp2_with fail
      go_meet
    all_goals first | (with_reducible exact ⟨rfl, gd_a gg.out _⟩) | (with_reducible exact ⟨rfl, gd_b gg.out _ _ _ _ _ _⟩)
  case rest =>
    obtain ⟨rfl, gc⟩ := hcut
    obtain ⟨k15, k14, k6, _⟩ := HC.out wc gc
    have gcd := gc.drew
    have HW := Lib.hid (fun w => word_any (IntKind.u8.wrap c.place) v w (w8_by _).1 (w8_by _).2 hvb.1 hvb.2)
    clear hvb
    go_wp2_with fail
    go_quiet (fail)
    go_wp2_with (first
      | (go_at_call 79; refine (HW.out _).mono ?_; rintro e w' ⟨rfl, rfl⟩)
      | (go_at_call 157; refine (HL.out _ ?_).mono ?_; (focus (first | assumption | exact Gd.drewN gc _)); rintro e w4 ⟨rfl, g4⟩; obtain ⟨⟨R0, R1, R2⟩, Q0, Q1, Q2⟩ := Gd.res g4; have gg := Lib.hid g4))
    refine bodyPost_ret (v := .agg #[.int .u16 (v * 256 + IntKind.u8.wrap c.place), .int .u8 v, .bool true]) ?_ rfl ⟨rfl, (((Gd.below gg.out).setCell (Nat.le_refl _) _).setCell (Nat.le_refl _) _).setCell (Nat.le_refl _) _⟩
    simp [results, Tryz.results138, go_sem, w8, *]

set_option maxHeartbeats 6400000 in
set_option maxRecDepth 100000 in
theorem stored_eq3 (g : Nat) (c : C) (plan : Value) (w : World) (h : CAt w g c plan) (b0 : 0 ≤ c.base) (b1 : c.base < 65536) (v : Int) (hv : v = writesV c.name.toList c.r (c.base / 256)) (n0 : (c.name.toList == [83, 72, 65]) = false) (n1 : (c.name.toList == [83, 72, 88]) = false) (n2 : (c.name.toList == [83, 72, 89]) = false) (n3 : (c.name.toList == [84, 65, 83]) = true) (hb : (c.rough != c.place) = false) : Calls Tryz.prog 138 #[.pointer (some ⟨g, 0, none⟩)] w fun e w' => e = .returned (.agg #[.int .u16 (c.place), .int .u8 v, .bool true]) ∧ Below w.heap.size w w' := by
  have hlt := Blk.lt h
  obtain ⟨q, hq⟩ : ∃ q, q = writesR c.name.toList c.r := ⟨_, rfl⟩
  have HM : Hid (∀ w, Calls Tryz.prog 169 #[.string c.name, .agg #[.int .u8 c.r.a, .int .u8 c.r.x, .int .u8 c.r.y, .int .u8 c.r.s, .int .u8 c.r.p, .int .u16 c.r.pc], .int .u8 (c.base / 256)] w fun e w' => e = .returned (.tuple #[(.agg #[.int .u8 q.a, .int .u8 q.x, .int .u8 q.y, .int .u8 q.s, .int .u8 q.p, .int .u16 q.pc]), .int .u8 v]) ∧ Below w.heap.size w w') := Lib.hid (fun w => by have h := writes_any c.name c.r (c.base / 256) w; rw [← hq, ← hv] at h; exact h)
  have HH := Lib.hid (fun w => high_any c.base w b0 b1)
  have HL := Lib.hid (lift_gd (fun w => lays_any (c.place) v w) w)
  clear hq hv b0 b1
  have HC := Lib.hid (stored_hc g c plan w h)
  have HK6 := Lib.hid (stored_hk g c w hlt)
  have HMA := Lib.hid (HM.out (((w.alloc (.cells #[.int .u16 0, .int .u8 0, .bool false] 44)).alloc (.cells #[.int .u8 0, .int .u8 0, .int .u8 0, .int .u8 0, .int .u8 0, .int .u16 0] 57)).drew))
  have HMB := Lib.hid (HM.out ((w.alloc (.cells #[.int .u16 0, .int .u8 0, .bool false] 44)).drew))
  have HGA := Lib.hid (fun w3 => @gd_new w w3 #[.int .u8 0, .int .u8 0, .int .u8 0, .int .u8 0, .int .u8 0, .int .u16 0] 57)
  have HGB := Lib.hid (fun w3 => Gd.next (w := w) (w2 := w3) (Gd.start w))
  have hs1 := (HC.out _ (Gd.drew (Below.alloc (Gd.start w) (by simp) (.cells #[.int .u8 0, .int .u8 0, .int .u8 0, .int .u8 0, .int .u8 0, .int .u16 0] 57)))).2.2.2
  have hs0 := (HC.out _ (Gd.start w).drew).2.2.2
  clear h
  go_enter Tryz.func138, Tryz.ntmps138
  go_upto_region 1 with (fail)
  go_cut [3, 4] from 6 to 53 (fun _ x wx => x = .int .u8 v ∧ Gd w wx)
  case first =>
    go_region_held3 (fun w' => w'.cell? ⟨g, 0, none⟩ = some (.int .u8 c.r.a) ∧ w'.cell? ⟨g, 1, none⟩ = some (.int .u8 c.r.x) ∧ w'.cell? ⟨g, 2, none⟩ = some (.int .u8 c.r.y) ∧ w'.cell? ⟨g, 3, none⟩ = some (.int .u8 c.r.s) ∧ w'.cell? ⟨g, 4, none⟩ = some (.int .u8 c.r.p) ∧ w'.cell? ⟨g, 5, none⟩ = some (.int .u16 c.r.pc) ∧ w'.cell? ⟨g, 6, none⟩ = some (.string c.name) ∧ w'.cell? ⟨g, 13, none⟩ = some (.int .u16 c.base)) (first | (with_reducible exact hs3) | (with_reducible exact hs0) | (with_reducible exact hs1) | (with_reducible exact HK6.out _ _ _ _ _ _ _ hs3) | go_keep)
      (first
        | (go_at_call 158; refine (HH.out _).mono ?_; rintro e w' ⟨rfl, rfl⟩)
        | (go_at_call 169; ((with_reducible refine HMA.out.mono ?_); rintro e w3 ⟨rfl, hb3⟩; obtain ⟨g3, B4⟩ := HGA.out w3 ⟨hb3.os, hb3.tape, hb3.output, hb3.size, hb3.block⟩; obtain ⟨⟨Z0, Z1, Z2, Z3, Z4, Z5⟩, G0, G1, G2, G3, G4, G5⟩ := cells6 B4; have hs3 := (HC.out w3 g3).2.2.2; have gg := Lib.hid g3; clear B4 g3 hb3))
        | (go_at_call 169; ((with_reducible refine HMB.out.mono ?_); rintro e w3 ⟨rfl, hb3⟩; have g3 := HGB.out w3 ⟨hb3.os, hb3.tape, hb3.output, hb3.size, hb3.block⟩; have hs3 := (HC.out w3 g3).2.2.2; have gg := Lib.hid g3; clear g3 hb3)))
    all_goals
      go_wp2_with fail
      go_meet
    all_goals first | (with_reducible exact ⟨rfl, gd_a gg.out _⟩) | (with_reducible exact ⟨rfl, gd_b gg.out _ _ _ _ _ _⟩)
  case rest =>
    obtain ⟨rfl, gc⟩ := hcut
    obtain ⟨k15, k14, k6, _⟩ := HC.out wc gc
    have gcd := gc.drew

    go_wp2_with fail
    go_quiet (fail)
    go_wp2_with (go_at_call 157; refine (HL.out _ ?_).mono ?_; (focus (first | assumption | exact Gd.drewN gc _)); rintro e w4 ⟨rfl, g4⟩; obtain ⟨⟨R0, R1, R2⟩, Q0, Q1, Q2⟩ := Gd.res g4; have gg := Lib.hid g4)
    refine bodyPost_ret (v := .agg #[.int .u16 (c.place), .int .u8 v, .bool true]) ?_ rfl ⟨rfl, (((Gd.below gg.out).setCell (Nat.le_refl _) _).setCell (Nat.le_refl _) _).setCell (Nat.le_refl _) _⟩
    simp [results, Tryz.results138, go_sem, *]

set_option maxHeartbeats 6400000 in
set_option maxRecDepth 100000 in
theorem stored_ne3 (g : Nat) (c : C) (plan : Value) (w : World) (h : CAt w g c plan) (b0 : 0 ≤ c.base) (b1 : c.base < 65536) (v : Int) (hv : v = writesV c.name.toList c.r (c.base / 256)) (n0 : (c.name.toList == [83, 72, 65]) = false) (n1 : (c.name.toList == [83, 72, 88]) = false) (n2 : (c.name.toList == [83, 72, 89]) = false) (n3 : (c.name.toList == [84, 65, 83]) = true) (hb : (c.rough != c.place) = true) (hvb : By v) : Calls Tryz.prog 138 #[.pointer (some ⟨g, 0, none⟩)] w fun e w' => e = .returned (.agg #[.int .u16 (v * 256 + IntKind.u8.wrap c.place), .int .u8 v, .bool true]) ∧ Below w.heap.size w w' := by
  have hlt := Blk.lt h
  obtain ⟨q, hq⟩ : ∃ q, q = writesR c.name.toList c.r := ⟨_, rfl⟩
  have HM : Hid (∀ w, Calls Tryz.prog 169 #[.string c.name, .agg #[.int .u8 c.r.a, .int .u8 c.r.x, .int .u8 c.r.y, .int .u8 c.r.s, .int .u8 c.r.p, .int .u16 c.r.pc], .int .u8 (c.base / 256)] w fun e w' => e = .returned (.tuple #[(.agg #[.int .u8 q.a, .int .u8 q.x, .int .u8 q.y, .int .u8 q.s, .int .u8 q.p, .int .u16 q.pc]), .int .u8 v]) ∧ Below w.heap.size w w') := Lib.hid (fun w => by have h := writes_any c.name c.r (c.base / 256) w; rw [← hq, ← hv] at h; exact h)
  have HH := Lib.hid (fun w => high_any c.base w b0 b1)
  have HL := Lib.hid (lift_gd (fun w => lays_any (v * 256 + IntKind.u8.wrap c.place) v w) w)
  clear hq hv b0 b1
  have HC := Lib.hid (stored_hc g c plan w h)
  have HK6 := Lib.hid (stored_hk g c w hlt)
  have HMA := Lib.hid (HM.out (((w.alloc (.cells #[.int .u16 0, .int .u8 0, .bool false] 44)).alloc (.cells #[.int .u8 0, .int .u8 0, .int .u8 0, .int .u8 0, .int .u8 0, .int .u16 0] 57)).drew))
  have HMB := Lib.hid (HM.out ((w.alloc (.cells #[.int .u16 0, .int .u8 0, .bool false] 44)).drew))
  have HGA := Lib.hid (fun w3 => @gd_new w w3 #[.int .u8 0, .int .u8 0, .int .u8 0, .int .u8 0, .int .u8 0, .int .u16 0] 57)
  have HGB := Lib.hid (fun w3 => Gd.next (w := w) (w2 := w3) (Gd.start w))
  have hs1 := (HC.out _ (Gd.drew (Below.alloc (Gd.start w) (by simp) (.cells #[.int .u8 0, .int .u8 0, .int .u8 0, .int .u8 0, .int .u8 0, .int .u16 0] 57)))).2.2.2
  have hs0 := (HC.out _ (Gd.start w).drew).2.2.2
  clear h
  go_enter Tryz.func138, Tryz.ntmps138
  go_upto_region 1 with (fail)
  go_cut [3, 4] from 6 to 53 (fun _ x wx => x = .int .u8 v ∧ Gd w wx)
  case first =>
    go_region_held3 (fun w' => w'.cell? ⟨g, 0, none⟩ = some (.int .u8 c.r.a) ∧ w'.cell? ⟨g, 1, none⟩ = some (.int .u8 c.r.x) ∧ w'.cell? ⟨g, 2, none⟩ = some (.int .u8 c.r.y) ∧ w'.cell? ⟨g, 3, none⟩ = some (.int .u8 c.r.s) ∧ w'.cell? ⟨g, 4, none⟩ = some (.int .u8 c.r.p) ∧ w'.cell? ⟨g, 5, none⟩ = some (.int .u16 c.r.pc) ∧ w'.cell? ⟨g, 6, none⟩ = some (.string c.name) ∧ w'.cell? ⟨g, 13, none⟩ = some (.int .u16 c.base)) (first | (with_reducible exact hs3) | (with_reducible exact hs0) | (with_reducible exact hs1) | (with_reducible exact HK6.out _ _ _ _ _ _ _ hs3) | go_keep)
      (first
        | (go_at_call 158; refine (HH.out _).mono ?_; rintro e w' ⟨rfl, rfl⟩)
        | (go_at_call 169; ((with_reducible refine HMA.out.mono ?_); rintro e w3 ⟨rfl, hb3⟩; obtain ⟨g3, B4⟩ := HGA.out w3 ⟨hb3.os, hb3.tape, hb3.output, hb3.size, hb3.block⟩; obtain ⟨⟨Z0, Z1, Z2, Z3, Z4, Z5⟩, G0, G1, G2, G3, G4, G5⟩ := cells6 B4; have hs3 := (HC.out w3 g3).2.2.2; have gg := Lib.hid g3; clear B4 g3 hb3))
        | (go_at_call 169; ((with_reducible refine HMB.out.mono ?_); rintro e w3 ⟨rfl, hb3⟩; have g3 := HGB.out w3 ⟨hb3.os, hb3.tape, hb3.output, hb3.size, hb3.block⟩; have hs3 := (HC.out w3 g3).2.2.2; have gg := Lib.hid g3; clear g3 hb3)))
    all_goals
      go_wp2_with fail
      go_meet
    all_goals first | (with_reducible exact ⟨rfl, gd_a gg.out _⟩) | (with_reducible exact ⟨rfl, gd_b gg.out _ _ _ _ _ _⟩)
  case rest =>
    obtain ⟨rfl, gc⟩ := hcut
    obtain ⟨k15, k14, k6, _⟩ := HC.out wc gc
    have gcd := gc.drew
    have HW := Lib.hid (fun w => word_any (IntKind.u8.wrap c.place) v w (w8_by _).1 (w8_by _).2 hvb.1 hvb.2)
    clear hvb
    go_wp2_with fail
    go_quiet (fail)
    go_wp2_with (first
      | (go_at_call 79; refine (HW.out _).mono ?_; rintro e w' ⟨rfl, rfl⟩)
      | (go_at_call 157; refine (HL.out _ ?_).mono ?_; (focus (first | assumption | exact Gd.drewN gc _)); rintro e w4 ⟨rfl, g4⟩; obtain ⟨⟨R0, R1, R2⟩, Q0, Q1, Q2⟩ := Gd.res g4; have gg := Lib.hid g4))
    refine bodyPost_ret (v := .agg #[.int .u16 (v * 256 + IntKind.u8.wrap c.place), .int .u8 v, .bool true]) ?_ rfl ⟨rfl, (((Gd.below gg.out).setCell (Nat.le_refl _) _).setCell (Nat.le_refl _) _).setCell (Nat.le_refl _) _⟩
    simp [results, Tryz.results138, go_sem, w8, *]

def isSh (n : List UInt8) : Bool := n == [83, 72, 65] || n == [83, 72, 88] || n == [83, 72, 89] || n == [84, 65, 83]
def storedA (c : C) (v : Int) : Int := if (isSh c.name.toList && c.rough != c.place) = true then v * 256 + IntKind.u8.wrap c.place else c.place
theorem stored_any (g : Nat) (c : C) (plan : Value) (w : World) (h : CAt w g c plan) (hr : c.r.ok) (b0 : 0 ≤ c.base) (b1 : c.base < 65536) : Calls Tryz.prog 138 #[.pointer (some ⟨g, 0, none⟩)] w fun e w' => e = .returned (.agg #[.int .u16 (storedA c (writesV c.name.toList c.r (c.base / 256))), .int .u8 (writesV c.name.toList c.r (c.base / 256)), .bool true]) ∧ Below w.heap.size w w' := by
  have hv : By (writesV c.name.toList c.r (c.base / 256)) := writesV_by hr
  cases hb : (c.rough != c.place)
  · have e : storedA c (writesV c.name.toList c.r (c.base / 256)) = c.place := by simp [storedA, hb]
    rw [e]
    by_cases n0 : (c.name.toList == [83, 72, 65]) = true
    · exact stored_eq0 g c plan w h b0 b1 _ rfl  n0 hb
    by_cases n1 : (c.name.toList == [83, 72, 88]) = true
    · exact stored_eq1 g c plan w h b0 b1 _ rfl (by simpa using n0) n1 hb
    by_cases n2 : (c.name.toList == [83, 72, 89]) = true
    · exact stored_eq2 g c plan w h b0 b1 _ rfl (by simpa using n0) (by simpa using n1) n2 hb
    by_cases n3 : (c.name.toList == [84, 65, 83]) = true
    · exact stored_eq3 g c plan w h b0 b1 _ rfl (by simpa using n0) (by simpa using n1) (by simpa using n2) n3 hb
    simp only [Bool.not_eq_true] at n0 n1 n2 n3
    exact stored_no g c plan w h b0 b1 _ rfl n0 n1 n2 n3
  by_cases n0 : (c.name.toList == [83, 72, 65]) = true
  · have e : storedA c (writesV c.name.toList c.r (c.base / 256)) = writesV c.name.toList c.r (c.base / 256) * 256 + IntKind.u8.wrap c.place := by simp [storedA, isSh, n0, hb]
    rw [e]
    exact stored_ne0 g c plan w h b0 b1 _ rfl  n0 hb hv
  by_cases n1 : (c.name.toList == [83, 72, 88]) = true
  · have e : storedA c (writesV c.name.toList c.r (c.base / 256)) = writesV c.name.toList c.r (c.base / 256) * 256 + IntKind.u8.wrap c.place := by simp [storedA, isSh, n1, hb]
    rw [e]
    exact stored_ne1 g c plan w h b0 b1 _ rfl (by simpa using n0) n1 hb hv
  by_cases n2 : (c.name.toList == [83, 72, 89]) = true
  · have e : storedA c (writesV c.name.toList c.r (c.base / 256)) = writesV c.name.toList c.r (c.base / 256) * 256 + IntKind.u8.wrap c.place := by simp [storedA, isSh, n2, hb]
    rw [e]
    exact stored_ne2 g c plan w h b0 b1 _ rfl (by simpa using n0) (by simpa using n1) n2 hb hv
  by_cases n3 : (c.name.toList == [84, 65, 83]) = true
  · have e : storedA c (writesV c.name.toList c.r (c.base / 256)) = writesV c.name.toList c.r (c.base / 256) * 256 + IntKind.u8.wrap c.place := by simp [storedA, isSh, n3, hb]
    rw [e]
    exact stored_ne3 g c plan w h b0 b1 _ rfl (by simpa using n0) (by simpa using n1) (by simpa using n2) n3 hb hv
  simp only [Bool.not_eq_true] at n0 n1 n2 n3
  have e : storedA c (writesV c.name.toList c.r (c.base / 256)) = c.place := by simp [storedA, isSh, n0, n1, n2, n3]
  rw [e]
  exact stored_no g c plan w h b0 b1 _ rfl n0 n1 n2 n3
end Go.Proofs.YtifajfjiloajfaaGreatDoor.OwnCpu

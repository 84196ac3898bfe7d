/- Which chips there are: sizes by kind. Conditions: the table of kinds is as the program lays it; kinds up to three, sectors and units up to two. · Which chips there are, further: how many bytes, what a page has, what all of them have; a cartridge that is right. Conditions: the table of kinds is as the program lays it; kinds up to three, sectors and units up to two, banks of 256 bytes. · How many bytes all chips have; a cartridge that is right, and how long its ROM is. Conditions: the table of kinds is as the program lays it; kinds up to three, sectors and units up to two, one or two banks of 256 bytes. -/
import Derived.Test.YtifajfjiloajfaaGreatDoorMKit
import Derived.WalkKit
import Derived.BigGuard
import Derived.Lib.Hide
import Derived.Deep.QuietTactic
import Derived.BigQuiet
import Derived.RegionTactic
import Derived.Deep.RegionHeld3
namespace Go.Proofs.YtifajfjiloajfaaGreatDoor.OwnGeo
open Go.RowKit Go.Proofs.YtifajfjiloajfaaGreatDoor.Own

/-- The table of kinds lies in the program's variable. -/
def GeoAt (w : World) : Prop := Blk w 0 162 #[.int .i64 0, .int .i64 0, .int .i64 0, .int .i64 0, .int .i64 7, .int .i64 3, .int .i64 1, .int .i64 0, .int .i64 8, .int .i64 3, .int .i64 1, .int .i64 0, .int .i64 9, .int .i64 4, .int .i64 1, .int .i64 1, .int .i64 10, .int .i64 4, .int .i64 1, .int .i64 2, .int .i64 11, .int .i64 4, .int .i64 1, .int .i64 3, .int .i64 12, .int .i64 5, .int .i64 2, .int .i64 0, .int .i64 13, .int .i64 5, .int .i64 2, .int .i64 0, .int .i64 14, .int .i64 6, .int .i64 2, .int .i64 0, .int .i64 15, .int .i64 6, .int .i64 2, .int .i64 0, .int .i64 16, .int .i64 7, .int .i64 2, .int .i64 0]
theorem GeoAt.below {w w' : World} (h : GeoAt w) (hb : Below w.heap.size w w') : GeoAt w' := Blk.below h hb (Blk.lt h)
theorem GeoAt.kept {S : Nat → Prop} {w w' : World} (h : GeoAt w) (hk : Kept S w w') (h0 : ¬ S 0) : GeoAt w' := hk.blk h h0
theorem within_yes (n m : Int) (w : World) (h0 : 0 ≤ n) (h1 : n ≤ m) : Calls Tryz.prog 51 #[.int .i64 n, .int .i64 m] w fun e w' => e = .returned (.bool true) ∧ w = w' := by
  go_enter Tryz.func51, Tryz.ntmps51
  go_wp2
  go_ret
  exact ⟨rfl, rfl⟩
theorem flash_any (n : Int) (w : World) (h0 : 0 ≤ n) (h1 : n ≤ 2) : Calls Tryz.prog 34 #[.int .i64 n] w fun e w' => e = .returned (.int .i64 (n * 256)) ∧ w = w' := by
  have HW := Lib.hid (fun w => within_yes n 64 w h0 (by omega))
  go_enter Tryz.func34, Tryz.ntmps34
  go_wp2_with (go_at_call 51; refine (HW.out _).mono ?_; rintro e w' ⟨rfl, rfl⟩)
  go_ret
  exact ⟨rfl, rfl⟩
theorem sram_any (n : Int) (w : World) (h0 : 0 ≤ n) (h1 : n ≤ 2) : Calls Tryz.prog 35 #[.int .i64 n] w fun e w' => e = .returned (.int .i64 (n * 64)) ∧ w = w' := by
  have HW := Lib.hid (fun w => within_yes n 128 w h0 (by omega))
  go_enter Tryz.func35, Tryz.ntmps35
  go_wp2_with (go_at_call 51; refine (HW.out _).mono ?_; rintro e w' ⟨rfl, rfl⟩)
  go_ret
  exact ⟨rfl, rfl⟩
theorem right_any (e f s : Int) (w : World) (e0 : 0 ≤ e) (e1 : e ≤ 3) (f0 : 0 ≤ f) (f1 : f ≤ 2) (s0 : 0 ≤ s) (s1 : s ≤ 2) : Calls Tryz.prog 32 #[.agg #[.int .i64 e, .int .i64 f, .int .i64 s]] w fun x w' => x = .returned (.bool true) ∧ w.alloc (.cells #[.int .i64 e, .int .i64 f, .int .i64 s] 28) = w' := by
  have H1 := Lib.hid (fun w => within_yes e 10 w e0 (by omega))
  have H2 := Lib.hid (fun w => within_yes f 64 w f0 (by omega))
  have H3 := Lib.hid (fun w => within_yes s 128 w s0 (by omega))
  clear e0 e1 f0 f1 s0 s1
  go_enter Tryz.func32, Tryz.ntmps32
  go_wp2_with fail
  go_at_call 51
  refine (H1.out _).mono ?_
  rintro x w' ⟨rfl, rfl⟩
  go_wp2_with fail
  go_at_call 51
  refine (H2.out _).mono ?_
  rintro x w' ⟨rfl, rfl⟩
  go_wp2_with fail
  go_at_call 51
  refine (H3.out _).mono ?_
  rintro x w' ⟨rfl, rfl⟩
  go_wp2
  go_ret
  exact ⟨rfl, rfl⟩
theorem row_0 (w : World) : Calls Tryz.prog 77 #[.int .i64 0] w fun e w' => e = .returned (.tuple #[.agg #[.int .i64 0, .int .i64 0, .int .i64 0, .int .i64 0], .bool false]) ∧ Below w.heap.size w w' := by
  go_enter Tryz.func77, Tryz.ntmps77
  go_wp2
  refine bodyPost_ret (v := .tuple #[.agg #[.int .i64 0, .int .i64 0, .int .i64 0, .int .i64 0], .bool false]) ?_ rfl ⟨rfl, (Below.refl _ _).alloc (Nat.le_refl _) _⟩
  simp [results, Tryz.results77, go_sem]
theorem row_1 (w : World) (h : GeoAt w) : Calls Tryz.prog 77 #[.int .i64 1] w fun e w' => e = .returned (.tuple #[.agg #[.int .i64 7, .int .i64 3, .int .i64 1, .int .i64 0], .bool true]) ∧ Below w.heap.size w w' := by
  have HW := Lib.hid (fun w => within_yes 1 10 w (by decide) (by decide))
  have c0 : w.cell? ⟨0, 4, none⟩ = some (.int .i64 7) := (Blk.cell h 4).trans rfl
  have c1 : w.cell? ⟨0, 5, none⟩ = some (.int .i64 3) := (Blk.cell h 5).trans rfl
  have c2 : w.cell? ⟨0, 6, none⟩ = some (.int .i64 1) := (Blk.cell h 6).trans rfl
  have c3 : w.cell? ⟨0, 7, none⟩ = some (.int .i64 0) := (Blk.cell h 7).trans rfl
  have hlt : 0 < w.heap.size := Blk.lt h
  clear h
  go_enter Tryz.func77, Tryz.ntmps77
  go_wp2_with (go_at_call 51; refine (HW.out _).mono ?_; rintro e w' ⟨rfl, rfl⟩)
  refine bodyPost_ret (v := .tuple #[.agg #[.int .i64 7, .int .i64 3, .int .i64 1, .int .i64 0], .bool true]) ?_ rfl ⟨rfl, (Below.refl _ _).alloc (Nat.le_refl _) _⟩
  simp [results, Tryz.results77, go_sem]
theorem row_2 (w : World) (h : GeoAt w) : Calls Tryz.prog 77 #[.int .i64 2] w fun e w' => e = .returned (.tuple #[.agg #[.int .i64 8, .int .i64 3, .int .i64 1, .int .i64 0], .bool true]) ∧ Below w.heap.size w w' := by
  have HW := Lib.hid (fun w => within_yes 2 10 w (by decide) (by decide))
  have c0 : w.cell? ⟨0, 8, none⟩ = some (.int .i64 8) := (Blk.cell h 8).trans rfl
  have c1 : w.cell? ⟨0, 9, none⟩ = some (.int .i64 3) := (Blk.cell h 9).trans rfl
  have c2 : w.cell? ⟨0, 10, none⟩ = some (.int .i64 1) := (Blk.cell h 10).trans rfl
  have c3 : w.cell? ⟨0, 11, none⟩ = some (.int .i64 0) := (Blk.cell h 11).trans rfl
  have hlt : 0 < w.heap.size := Blk.lt h
  clear h
  go_enter Tryz.func77, Tryz.ntmps77
  go_wp2_with (go_at_call 51; refine (HW.out _).mono ?_; rintro e w' ⟨rfl, rfl⟩)
  refine bodyPost_ret (v := .tuple #[.agg #[.int .i64 8, .int .i64 3, .int .i64 1, .int .i64 0], .bool true]) ?_ rfl ⟨rfl, (Below.refl _ _).alloc (Nat.le_refl _) _⟩
  simp [results, Tryz.results77, go_sem]
theorem row_3 (w : World) (h : GeoAt w) : Calls Tryz.prog 77 #[.int .i64 3] w fun e w' => e = .returned (.tuple #[.agg #[.int .i64 9, .int .i64 4, .int .i64 1, .int .i64 1], .bool true]) ∧ Below w.heap.size w w' := by
  have HW := Lib.hid (fun w => within_yes 3 10 w (by decide) (by decide))
  have c0 : w.cell? ⟨0, 12, none⟩ = some (.int .i64 9) := (Blk.cell h 12).trans rfl
  have c1 : w.cell? ⟨0, 13, none⟩ = some (.int .i64 4) := (Blk.cell h 13).trans rfl
  have c2 : w.cell? ⟨0, 14, none⟩ = some (.int .i64 1) := (Blk.cell h 14).trans rfl
  have c3 : w.cell? ⟨0, 15, none⟩ = some (.int .i64 1) := (Blk.cell h 15).trans rfl
  have hlt : 0 < w.heap.size := Blk.lt h
  clear h
  go_enter Tryz.func77, Tryz.ntmps77
  go_wp2_with (go_at_call 51; refine (HW.out _).mono ?_; rintro e w' ⟨rfl, rfl⟩)
  refine bodyPost_ret (v := .tuple #[.agg #[.int .i64 9, .int .i64 4, .int .i64 1, .int .i64 1], .bool true]) ?_ rfl ⟨rfl, (Below.refl _ _).alloc (Nat.le_refl _) _⟩
  simp [results, Tryz.results77, go_sem]
end Go.Proofs.YtifajfjiloajfaaGreatDoor.OwnGeo
namespace Go.Proofs.YtifajfjiloajfaaGreatDoor.OwnGeo
open Go.RowKit Go.Proofs.YtifajfjiloajfaaGreatDoor.Own

theorem power_0_0 (w : World) (_h : GeoAt w) : Calls Tryz.prog 52 #[.int .i64 0, .int .i64 0] w fun e w' => e = .returned (.int .i64 0) ∧ Below w.heap.size w w' := by
  have HR := Lib.hid (row_0 w)
  go_enter Tryz.func52, Tryz.ntmps52
  go_wp2_with (go_at_call 77; refine HR.out.mono ?_; rintro e w3 ⟨rfl, hb⟩; have G := Lib.hid hb; clear hb)
  go_ret
  exact ⟨rfl, G.out.alloc G.out.size _⟩
theorem power_1_0 (w : World) (h : GeoAt w) : Calls Tryz.prog 52 #[.int .i64 1, .int .i64 0] w fun e w' => e = .returned (.int .i64 128) ∧ Below w.heap.size w w' := by
  have HR := Lib.hid (row_1 w h)
  go_enter Tryz.func52, Tryz.ntmps52
  go_wp2_with (go_at_call 77; refine HR.out.mono ?_; rintro e w3 ⟨rfl, hb⟩; have G := Lib.hid hb; clear hb)
  go_ret
  exact ⟨rfl, G.out.alloc G.out.size _⟩
theorem power_2_0 (w : World) (h : GeoAt w) : Calls Tryz.prog 52 #[.int .i64 2, .int .i64 0] w fun e w' => e = .returned (.int .i64 256) ∧ Below w.heap.size w w' := by
  have HR := Lib.hid (row_2 w h)
  go_enter Tryz.func52, Tryz.ntmps52
  go_wp2_with (go_at_call 77; refine HR.out.mono ?_; rintro e w3 ⟨rfl, hb⟩; have G := Lib.hid hb; clear hb)
  go_ret
  exact ⟨rfl, G.out.alloc G.out.size _⟩
theorem power_3_0 (w : World) (h : GeoAt w) : Calls Tryz.prog 52 #[.int .i64 3, .int .i64 0] w fun e w' => e = .returned (.int .i64 512) ∧ Below w.heap.size w w' := by
  have HR := Lib.hid (row_3 w h)
  go_enter Tryz.func52, Tryz.ntmps52
  go_wp2_with (go_at_call 77; refine HR.out.mono ?_; rintro e w3 ⟨rfl, hb⟩; have G := Lib.hid hb; clear hb)
  go_ret
  exact ⟨rfl, G.out.alloc G.out.size _⟩
theorem power_0_1 (w : World) (_h : GeoAt w) : Calls Tryz.prog 52 #[.int .i64 0, .int .i64 1] w fun e w' => e = .returned (.int .i64 0) ∧ Below w.heap.size w w' := by
  have HR := Lib.hid (row_0 w)
  go_enter Tryz.func52, Tryz.ntmps52
  go_wp2_with (go_at_call 77; refine HR.out.mono ?_; rintro e w3 ⟨rfl, hb⟩; have G := Lib.hid hb; clear hb)
  go_ret
  exact ⟨rfl, G.out.alloc G.out.size _⟩
theorem power_1_1 (w : World) (h : GeoAt w) : Calls Tryz.prog 52 #[.int .i64 1, .int .i64 1] w fun e w' => e = .returned (.int .i64 8) ∧ Below w.heap.size w w' := by
  have HR := Lib.hid (row_1 w h)
  go_enter Tryz.func52, Tryz.ntmps52
  go_wp2_with (go_at_call 77; refine HR.out.mono ?_; rintro e w3 ⟨rfl, hb⟩; have G := Lib.hid hb; clear hb)
  go_ret
  exact ⟨rfl, G.out.alloc G.out.size _⟩
theorem power_2_1 (w : World) (h : GeoAt w) : Calls Tryz.prog 52 #[.int .i64 2, .int .i64 1] w fun e w' => e = .returned (.int .i64 8) ∧ Below w.heap.size w w' := by
  have HR := Lib.hid (row_2 w h)
  go_enter Tryz.func52, Tryz.ntmps52
  go_wp2_with (go_at_call 77; refine HR.out.mono ?_; rintro e w3 ⟨rfl, hb⟩; have G := Lib.hid hb; clear hb)
  go_ret
  exact ⟨rfl, G.out.alloc G.out.size _⟩
theorem power_3_1 (w : World) (h : GeoAt w) : Calls Tryz.prog 52 #[.int .i64 3, .int .i64 1] w fun e w' => e = .returned (.int .i64 16) ∧ Below w.heap.size w w' := by
  have HR := Lib.hid (row_3 w h)
  go_enter Tryz.func52, Tryz.ntmps52
  go_wp2_with (go_at_call 77; refine HR.out.mono ?_; rintro e w3 ⟨rfl, hb⟩; have G := Lib.hid hb; clear hb)
  go_ret
  exact ⟨rfl, G.out.alloc G.out.size _⟩
theorem eeprom_0 (w : World) (h : GeoAt w) : Calls Tryz.prog 33 #[.int .i64 0] w fun e w' => e = .returned (.int .i64 0) ∧ Below w.heap.size w w' := by
  have HR := Lib.hid (power_0_0 w h)
  go_enter Tryz.func33, Tryz.ntmps33
  go_wp2_with (go_at_call 52; refine HR.out.mono ?_; rintro e w3 ⟨rfl, hb⟩; have G := Lib.hid hb; clear hb)
  go_ret
  exact ⟨rfl, G.out⟩
theorem eeprom_1 (w : World) (h : GeoAt w) : Calls Tryz.prog 33 #[.int .i64 1] w fun e w' => e = .returned (.int .i64 128) ∧ Below w.heap.size w w' := by
  have HR := Lib.hid (power_1_0 w h)
  go_enter Tryz.func33, Tryz.ntmps33
  go_wp2_with (go_at_call 52; refine HR.out.mono ?_; rintro e w3 ⟨rfl, hb⟩; have G := Lib.hid hb; clear hb)
  go_ret
  exact ⟨rfl, G.out⟩
theorem eeprom_2 (w : World) (h : GeoAt w) : Calls Tryz.prog 33 #[.int .i64 2] w fun e w' => e = .returned (.int .i64 256) ∧ Below w.heap.size w w' := by
  have HR := Lib.hid (power_2_0 w h)
  go_enter Tryz.func33, Tryz.ntmps33
  go_wp2_with (go_at_call 52; refine HR.out.mono ?_; rintro e w3 ⟨rfl, hb⟩; have G := Lib.hid hb; clear hb)
  go_ret
  exact ⟨rfl, G.out⟩
theorem eeprom_3 (w : World) (h : GeoAt w) : Calls Tryz.prog 33 #[.int .i64 3] w fun e w' => e = .returned (.int .i64 512) ∧ Below w.heap.size w w' := by
  have HR := Lib.hid (power_3_0 w h)
  go_enter Tryz.func33, Tryz.ntmps33
  go_wp2_with (go_at_call 52; refine HR.out.mono ?_; rintro e w3 ⟨rfl, hb⟩; have G := Lib.hid hb; clear hb)
  go_ret
  exact ⟨rfl, G.out⟩
theorem page_0 (w : World) (h : GeoAt w) : Calls Tryz.prog 195 #[.int .i64 0] w fun e w' => e = .returned (.int .i64 0) ∧ Below w.heap.size w w' := by
  have HR := Lib.hid (power_0_1 w h)
  go_enter Tryz.func195, Tryz.ntmps195
  go_wp2_with (go_at_call 52; refine HR.out.mono ?_; rintro e w3 ⟨rfl, hb⟩; have G := Lib.hid hb; clear hb)
  go_ret
  exact ⟨rfl, G.out⟩
theorem page_1 (w : World) (h : GeoAt w) : Calls Tryz.prog 195 #[.int .i64 1] w fun e w' => e = .returned (.int .i64 8) ∧ Below w.heap.size w w' := by
  have HR := Lib.hid (power_1_1 w h)
  go_enter Tryz.func195, Tryz.ntmps195
  go_wp2_with (go_at_call 52; refine HR.out.mono ?_; rintro e w3 ⟨rfl, hb⟩; have G := Lib.hid hb; clear hb)
  go_ret
  exact ⟨rfl, G.out⟩
theorem page_2 (w : World) (h : GeoAt w) : Calls Tryz.prog 195 #[.int .i64 2] w fun e w' => e = .returned (.int .i64 8) ∧ Below w.heap.size w w' := by
  have HR := Lib.hid (power_2_1 w h)
  go_enter Tryz.func195, Tryz.ntmps195
  go_wp2_with (go_at_call 52; refine HR.out.mono ?_; rintro e w3 ⟨rfl, hb⟩; have G := Lib.hid hb; clear hb)
  go_ret
  exact ⟨rfl, G.out⟩
theorem page_3 (w : World) (h : GeoAt w) : Calls Tryz.prog 195 #[.int .i64 3] w fun e w' => e = .returned (.int .i64 16) ∧ Below w.heap.size w w' := by
  have HR := Lib.hid (power_3_1 w h)
  go_enter Tryz.func195, Tryz.ntmps195
  go_wp2_with (go_at_call 52; refine HR.out.mono ?_; rintro e w3 ⟨rfl, hb⟩; have G := Lib.hid hb; clear hb)
  go_ret
  exact ⟨rfl, G.out⟩
theorem wide_0 (w : World) (_h : GeoAt w) : Calls Tryz.prog 152 #[.int .i64 0] w fun e w' => e = .returned (.int .i64 0) ∧ Below w.heap.size w w' := by
  have HR := Lib.hid (row_0 w)
  go_enter Tryz.func152, Tryz.ntmps152
  go_wp2_with (go_at_call 77; refine HR.out.mono ?_; rintro e w3 ⟨rfl, hb⟩; have G := Lib.hid hb; clear hb)
  go_ret
  exact ⟨rfl, G.out.alloc G.out.size _⟩
theorem wide_1 (w : World) (h : GeoAt w) : Calls Tryz.prog 152 #[.int .i64 1] w fun e w' => e = .returned (.int .i64 1) ∧ Below w.heap.size w w' := by
  have HR := Lib.hid (row_1 w h)
  go_enter Tryz.func152, Tryz.ntmps152
  go_wp2_with (go_at_call 77; refine HR.out.mono ?_; rintro e w3 ⟨rfl, hb⟩; have G := Lib.hid hb; clear hb)
  go_ret
  exact ⟨rfl, G.out.alloc G.out.size _⟩
theorem wide_2 (w : World) (h : GeoAt w) : Calls Tryz.prog 152 #[.int .i64 2] w fun e w' => e = .returned (.int .i64 1) ∧ Below w.heap.size w w' := by
  have HR := Lib.hid (row_2 w h)
  go_enter Tryz.func152, Tryz.ntmps152
  go_wp2_with (go_at_call 77; refine HR.out.mono ?_; rintro e w3 ⟨rfl, hb⟩; have G := Lib.hid hb; clear hb)
  go_ret
  exact ⟨rfl, G.out.alloc G.out.size _⟩
theorem wide_3 (w : World) (h : GeoAt w) : Calls Tryz.prog 152 #[.int .i64 3] w fun e w' => e = .returned (.int .i64 1) ∧ Below w.heap.size w w' := by
  have HR := Lib.hid (row_3 w h)
  go_enter Tryz.func152, Tryz.ntmps152
  go_wp2_with (go_at_call 77; refine HR.out.mono ?_; rintro e w3 ⟨rfl, hb⟩; have G := Lib.hid hb; clear hb)
  go_ret
  exact ⟨rfl, G.out.alloc G.out.size _⟩
theorem blocks_0 (w : World) (_h : GeoAt w) : Calls Tryz.prog 150 #[.int .i64 0] w fun e w' => e = .returned (.int .i64 0) ∧ Below w.heap.size w w' := by
  have HR := Lib.hid (row_0 w)
  go_enter Tryz.func150, Tryz.ntmps150
  go_wp2_with (go_at_call 77; refine HR.out.mono ?_; rintro e w3 ⟨rfl, hb⟩; have G := Lib.hid hb; clear hb)
  go_ret
  exact ⟨rfl, G.out.alloc G.out.size _⟩
theorem blocks_1 (w : World) (h : GeoAt w) : Calls Tryz.prog 150 #[.int .i64 1] w fun e w' => e = .returned (.int .i64 0) ∧ Below w.heap.size w w' := by
  have HR := Lib.hid (row_1 w h)
  go_enter Tryz.func150, Tryz.ntmps150
  go_wp2_with (go_at_call 77; refine HR.out.mono ?_; rintro e w3 ⟨rfl, hb⟩; have G := Lib.hid hb; clear hb)
  go_ret
  exact ⟨rfl, G.out.alloc G.out.size _⟩
theorem blocks_2 (w : World) (h : GeoAt w) : Calls Tryz.prog 150 #[.int .i64 2] w fun e w' => e = .returned (.int .i64 0) ∧ Below w.heap.size w w' := by
  have HR := Lib.hid (row_2 w h)
  go_enter Tryz.func150, Tryz.ntmps150
  go_wp2_with (go_at_call 77; refine HR.out.mono ?_; rintro e w3 ⟨rfl, hb⟩; have G := Lib.hid hb; clear hb)
  go_ret
  exact ⟨rfl, G.out.alloc G.out.size _⟩
theorem blocks_3 (w : World) (h : GeoAt w) : Calls Tryz.prog 150 #[.int .i64 3] w fun e w' => e = .returned (.int .i64 1) ∧ Below w.heap.size w w' := by
  have HR := Lib.hid (row_3 w h)
  go_enter Tryz.func150, Tryz.ntmps150
  go_wp2_with (go_at_call 77; refine HR.out.mono ?_; rintro e w3 ⟨rfl, hb⟩; have G := Lib.hid hb; clear hb)
  go_ret
  exact ⟨rfl, G.out.alloc G.out.size _⟩
/-- How many bytes a kind of EEPROM has, and a page of it. -/
def eepN (e : Int) : Int := if e = 1 then 128 else if e = 2 then 256 else if e = 3 then 512 else 0
def pageN (e : Int) : Int := if e = 1 then 8 else if e = 2 then 8 else if e = 3 then 16 else 0
def blocksN (e : Int) : Int := if e = 3 then 1 else 0
def wideN (e : Int) : Int := if e = 1 ∨ e = 2 ∨ e = 3 then 1 else 0
theorem small4 {e : Int} (h0 : 0 ≤ e) (h1 : e ≤ 3) : e = 0 ∨ e = 1 ∨ e = 2 ∨ e = 3 := by omega
theorem eeprom_any (e : Int) (w : World) (h : GeoAt w) (h0 : 0 ≤ e) (h1 : e ≤ 3) : Calls Tryz.prog 33 #[.int .i64 e] w fun x w' => x = .returned (.int .i64 (eepN e)) ∧ Below w.heap.size w w' := by
  rcases small4 h0 h1 with rfl | rfl | rfl | rfl
  · exact eeprom_0 w h
  · exact eeprom_1 w h
  · exact eeprom_2 w h
  · exact eeprom_3 w h
theorem page_any (e : Int) (w : World) (h : GeoAt w) (h0 : 0 ≤ e) (h1 : e ≤ 3) : Calls Tryz.prog 195 #[.int .i64 e] w fun x w' => x = .returned (.int .i64 (pageN e)) ∧ Below w.heap.size w w' := by
  rcases small4 h0 h1 with rfl | rfl | rfl | rfl
  · exact page_0 w h
  · exact page_1 w h
  · exact page_2 w h
  · exact page_3 w h
theorem wide_any (e : Int) (w : World) (h : GeoAt w) (h0 : 0 ≤ e) (h1 : e ≤ 3) : Calls Tryz.prog 152 #[.int .i64 e] w fun x w' => x = .returned (.int .i64 (wideN e)) ∧ Below w.heap.size w w' := by
  rcases small4 h0 h1 with rfl | rfl | rfl | rfl
  · exact wide_0 w h
  · exact wide_1 w h
  · exact wide_2 w h
  · exact wide_3 w h
theorem blocks_any (e : Int) (w : World) (h : GeoAt w) (h0 : 0 ≤ e) (h1 : e ≤ 3) : Calls Tryz.prog 150 #[.int .i64 e] w fun x w' => x = .returned (.int .i64 (blocksN e)) ∧ Below w.heap.size w w' := by
  rcases small4 h0 h1 with rfl | rfl | rfl | rfl
  · exact blocks_0 w h
  · exact blocks_1 w h
  · exact blocks_2 w h
  · exact blocks_3 w h
end Go.Proofs.YtifajfjiloajfaaGreatDoor.OwnGeo
namespace Go.Proofs.YtifajfjiloajfaaGreatDoor.OwnGeo
open Go.RowKit Go.Proofs.YtifajfjiloajfaaGreatDoor.Own

/-- A game's chips. -/
structure Gm (e f s : Int) : Prop where
  e0 : 0 ≤ e
  e1 : e ≤ 3
  f0 : 0 ≤ f
  f1 : f ≤ 2
  s0 : 0 ≤ s
  s1 : s ≤ 2
theorem eepN_rng (e : Int) : 0 ≤ eepN e ∧ eepN e ≤ 512 := by
  unfold eepN
  split
  · omega
  split
  · omega
  split <;> omega
def totalN (e f s : Int) : Int := eepN e + f * 256 + s * 64
set_option maxHeartbeats 3200000 in
theorem total_any (e f s : Int) (w : World) (h : GeoAt w) (hg : Gm e f s) : Calls Tryz.prog 9 #[.agg #[.int .i64 e, .int .i64 f, .int .i64 s]] w fun x w' => x = .returned (.int .i64 (totalN e f s)) ∧ Below w.heap.size w w' := by
  have HR := Lib.hid (fun w => right_any e f s w hg.e0 hg.e1 hg.f0 hg.f1 hg.s0 hg.s1)
  have HE := Lib.hid (fun w h => eeprom_any e w h hg.e0 hg.e1)
  have HF := Lib.hid (fun w => flash_any f w hg.f0 hg.f1)
  have HS := Lib.hid (fun w => sram_any s w hg.s0 hg.s1)
  have q := eepN_rng e
  have f0 := hg.f0
  have f1 := hg.f1
  have s0 := hg.s0
  have s1 := hg.s1
  unfold totalN
  obtain ⟨ee, hee⟩ : ∃ x, x = eepN e := ⟨_, rfl⟩
  rw [← hee] at q ⊢
  have HE : Hid (∀ w, GeoAt w → Calls Tryz.prog 33 #[.int .i64 e] w fun x w' => x = .returned (.int .i64 ee) ∧ Below w.heap.size w w') := Lib.hid (fun w h => by rw [hee]; exact HE.out w h)
  have q0 := q.1
  have q1 := q.2
  have HG : Hid (∀ w3, Below (w.heap.size + 2) ((w.alloc (.cells #[.int .i64 e, .int .i64 f, .int .i64 s] 28)).alloc (.cells #[.int .i64 e, .int .i64 f, .int .i64 s] 28)) w3 → GeoAt w3 ∧ (w3.cell? ⟨w.heap.size, 0, none⟩ = some (.int .i64 e) ∧ w3.cell? ⟨w.heap.size, 1, none⟩ = some (.int .i64 f) ∧ w3.cell? ⟨w.heap.size, 2, none⟩ = some (.int .i64 s)) ∧ Below w.heap.size w w3) := Lib.hid (fun w3 hb => by
    have B := ((Blk.new w 28 #[.int .i64 e, .int .i64 f, .int .i64 s]).alloc (.cells #[.int .i64 e, .int .i64 f, .int .i64 s] 28)).below hb (by omega)
    have hb2 : Below w.heap.size w w3 := (((Below.refl _ w).alloc (Nat.le_refl _) _).alloc (by simp) _).trans (hb.mono (by omega))
    exact ⟨h.below hb2, ⟨(B.cell 0).trans rfl, (B.cell 1).trans rfl, (B.cell 2).trans rfl⟩, hb2⟩)
  have g0 := HG.out _ (Below.refl _ _).drew
  have gh := g0.1
  have hs0 := g0.2.1
  have gb := g0.2.2
  have GB := Lib.hid gb
  have hw1 : IntKind.i64.wrap (ee + f * 256) = ee + f * 256 := IntWalk.i64_in _ (by omega)
  have hw2 : IntKind.i64.wrap (ee + f * 256 + s * 64) = ee + f * 256 + s * 64 := IntWalk.i64_in _ (by omega)
  clear hee q h hg g0 gb
  go_enter Tryz.func9, Tryz.ntmps9
  go_wp2_with (go_at_call 32; refine (HR.out _).mono ?_; rintro x w' ⟨rfl, rfl⟩)
  go_region_held3 (fun w' => w'.cell? ⟨w.heap.size, 0, none⟩ = some (.int .i64 e) ∧ w'.cell? ⟨w.heap.size, 1, none⟩ = some (.int .i64 f) ∧ w'.cell? ⟨w.heap.size, 2, none⟩ = some (.int .i64 s)) (first | (with_reducible exact hs3) | (with_reducible exact hs0) | go_keep)
    (first
      | (go_at_call 33; refine (HE.out _ ?_).mono ?_; (focus assumption); rintro x w3 ⟨rfl, hb3⟩; have g3 := HG.out w3 ⟨hb3.os, hb3.tape, hb3.output, by have := hb3.size; simpa using this, fun k hk => hb3.block k (by simpa using hk)⟩; have hs3 := g3.2.1; have GB3 := Lib.hid g3.2.2; clear g3 hb3)
      | (go_at_call 34; refine (HF.out _).mono ?_; rintro x w' ⟨rfl, rfl⟩)
      | (go_at_call 35; refine (HS.out _).mono ?_; rintro x w' ⟨rfl, rfl⟩))
  all_goals
    go_wp2
    go_ret
    exact ⟨rfl, GB3.out⟩
set_option maxHeartbeats 3200000 in
theorem bright_any (nb e f s : Int) (A : Option Addr) (n cap : Nat) (w : World) (hn0 : 1 ≤ nb) (hn1 : nb ≤ 2) (hg : Gm e f s) : Calls Tryz.prog 23 #[.agg #[.int .i64 8, .int .i64 nb, .int .i64 e, .int .i64 f, .int .i64 s, .slice A n cap]] w fun x w' => x = .returned (.bool true) ∧ Below w.heap.size w w' := by
  have HR := Lib.hid (fun w => right_any e f s w hg.e0 hg.e1 hg.f0 hg.f1 hg.s0 hg.s1)
  clear hg
  go_enter Tryz.func23, Tryz.ntmps23
  go_wp2_with (go_at_call 32; refine (HR.out _).mono ?_; rintro x w' ⟨rfl, rfl⟩)
  go_ret
  exact ⟨rfl, ((Below.refl _ w).alloc (Nat.le_refl _) _).alloc (by simp) _⟩
set_option maxHeartbeats 3200000 in
theorem long_any (nb e f s : Int) (A : Option Addr) (n cap : Nat) (w : World) (hn0 : 1 ≤ nb) (hn1 : nb ≤ 2) (hg : Gm e f s) : Calls Tryz.prog 24 #[.agg #[.int .i64 8, .int .i64 nb, .int .i64 e, .int .i64 f, .int .i64 s, .slice A n cap]] w fun x w' => x = .returned (.int .i64 (nb * 256)) ∧ Below w.heap.size w w' := by
  have HR := Lib.hid (fun w => bright_any nb e f s A n cap w hn0 hn1 hg)
  have HG : Hid (∀ w3, Below (w.heap.size + 1) (w.alloc (.cells #[.int .i64 8, .int .i64 nb, .int .i64 e, .int .i64 f, .int .i64 s, .slice A n cap] 30)) w3 → (w3.cell? ⟨w.heap.size, 0, none⟩ = some (.int .i64 8) ∧ w3.cell? ⟨w.heap.size, 1, none⟩ = some (.int .i64 nb)) ∧ Below w.heap.size w w3) := Lib.hid (fun w3 hb => by
    have B := (Blk.new w 30 #[.int .i64 8, .int .i64 nb, .int .i64 e, .int .i64 f, .int .i64 s, .slice A n cap]).below hb (by omega)
    exact ⟨⟨(B.cell 0).trans rfl, (B.cell 1).trans rfl⟩, ((Below.refl _ w).alloc (Nat.le_refl _) _).trans (hb.mono (by omega))⟩)
  clear hg
  rcases (by omega : nb = 1 ∨ nb = 2) with rfl | rfl
  all_goals
    go_enter Tryz.func24, Tryz.ntmps24
    go_wp2_with (go_at_call 23; refine (HR.out _).mono ?_; rintro x w3 ⟨rfl, hb3⟩; obtain ⟨⟨k0, k1⟩, gb⟩ := HG.out w3 ⟨hb3.os, hb3.tape, hb3.output, by have := hb3.size; simpa using this, fun k hk => hb3.block k (by simpa using hk)⟩; have GB := Lib.hid gb; clear gb hb3)
    go_ret
    exact ⟨rfl, GB.out⟩
end Go.Proofs.YtifajfjiloajfaaGreatDoor.OwnGeo

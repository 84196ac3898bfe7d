/- Where an address lies. Conditions: sectors and units up to two, one or two banks of 256 bytes. · Where an address lies, all cases together; that it lies in range. Conditions: sectors and units up to two, one or two banks of 256 bytes. · How many pages a slot spans where the chips have one unit of memory and a page has 64 bytes. Condition: the table of kinds is as the program lays it. -/
import Derived.Test.YtifajfjiloajfaaGreatDoorMGeo
import Derived.LoopN
import Derived.ScopeJumps
import Derived.WalkMore
namespace Go.Proofs.YtifajfjiloajfaaGreatDoor.OwnGeo
open Go.RowKit Go.Proofs.YtifajfjiloajfaaGreatDoor.Own

def cartV (nb e f s : Int) (A : Option Addr) (n cap : Nat) : Value := .agg #[.int .i64 8, .int .i64 nb, .int .i64 e, .int .i64 f, .int .i64 s, .slice A n cap]
theorem where_facts (nb e f s br bf : Int) (A : Option Addr) (n cap : Nat) (w w3 : World) (hb : Below (w.heap.size + 3) (((w.alloc (.cells #[.int .i64 8, .int .i64 nb, .int .i64 e, .int .i64 f, .int .i64 s, .slice A n cap] 30)).alloc (.cells #[.int .u8 br, .int .u8 bf] 41)).alloc (.cells #[.int .i64 0, .int .i64 0] 51)) w3) :
    (w3.cell? ⟨w.heap.size, 0, none⟩ = some (.int .i64 8) ∧ w3.cell? ⟨w.heap.size, 1, none⟩ = some (.int .i64 nb) ∧ w3.cell? ⟨w.heap.size, 3, none⟩ = some (.int .i64 f) ∧ w3.cell? ⟨w.heap.size, 4, none⟩ = some (.int .i64 s)) ∧
    (w3.cell? ⟨w.heap.size + 1, 0, none⟩ = some (.int .u8 br) ∧ w3.cell? ⟨w.heap.size + 1, 1, none⟩ = some (.int .u8 bf)) ∧
    ((w3.cell? ⟨w.heap.size + 1 + 1, 0, none⟩ = some (.int .i64 0) ∧ w3.cell? ⟨w.heap.size + 1 + 1, 1, none⟩ = some (.int .i64 0)) ∧ w3.frozen? ⟨w.heap.size + 1 + 1, 0, none⟩ = false ∧ w3.frozen? ⟨w.heap.size + 1 + 1, 1, none⟩ = false) ∧ (w.heap.size < w3.heap.size ∧ w.heap.size + 1 < w3.heap.size ∧ w.heap.size + 1 + 1 < w3.heap.size) ∧ Below w.heap.size w w3 := by
  have B0 := (((Blk.new w 30 #[.int .i64 8, .int .i64 nb, .int .i64 e, .int .i64 f, .int .i64 s, .slice A n cap]).alloc (.cells #[.int .u8 br, .int .u8 bf] 41)).alloc (.cells #[.int .i64 0, .int .i64 0] 51)).below hb (by omega)
  have B1 : Blk w3 (w.heap.size + 1) 41 #[.int .u8 br, .int .u8 bf] := by
    have q := (Blk.new (w.alloc (.cells #[.int .i64 8, .int .i64 nb, .int .i64 e, .int .i64 f, .int .i64 s, .slice A n cap] 30)) 41 #[.int .u8 br, .int .u8 bf]).alloc (.cells #[.int .i64 0, .int .i64 0] 51)
    simp only [World.size_alloc] at q
    exact q.below hb (by omega)
  have B2 : Blk w3 (w.heap.size + 1 + 1) 51 #[.int .i64 0, .int .i64 0] := by
    have q := Blk.new ((w.alloc (.cells #[.int .i64 8, .int .i64 nb, .int .i64 e, .int .i64 f, .int .i64 s, .slice A n cap] 30)).alloc (.cells #[.int .u8 br, .int .u8 bf] 41)) 51 #[.int .i64 0, .int .i64 0]
    simp only [World.size_alloc] at q
    exact q.below hb (by omega)
  have hsz := hb.size
  simp only [World.size_alloc] at hsz
  exact ⟨⟨(B0.cell 0).trans rfl, (B0.cell 1).trans rfl, (B0.cell 3).trans rfl, (B0.cell 4).trans rfl⟩, ⟨(B1.cell 0).trans rfl, (B1.cell 1).trans rfl⟩, ⟨⟨(B2.cell 0).trans rfl, (B2.cell 1).trans rfl⟩, B2.frozen 0, B2.frozen 1⟩, ⟨by omega, by omega, by omega⟩, ((((Below.refl _ w).alloc (Nat.le_refl _) _).alloc (by simp) _).alloc (by simp; omega) _).trans (hb.mono (by omega))⟩
set_option maxHeartbeats 6400000 in
set_option maxRecDepth 100000 in
theorem where_ram (nb e f s br bf a : Int) (A : Option Addr) (n cap : Nat) (w : World) (hn0 : 1 ≤ nb) (hn1 : nb ≤ 2) (hg : Gm e f s) (a0 : 0 ≤ a) (a1 : a < 8192) : Calls Tryz.prog 13 #[.agg #[.int .i64 8, .int .i64 nb, .int .i64 e, .int .i64 f, .int .i64 s, .slice A n cap], .agg #[.int .u8 br, .int .u8 bf], .int .u16 a] w fun x w' => x = .returned (.agg #[.int .i64 1, .int .i64 (a % 2048)]) ∧ Below w.heap.size w w' := by
  have HR := Lib.hid (fun w => bright_any nb e f s A n cap w hn0 hn1 hg)
  have HF := Lib.hid (fun w => flash_any f w hg.f0 hg.f1)
  have HS := Lib.hid (fun w => sram_any s w hg.s0 hg.s1)
  have HW := Lib.hid (where_facts nb e f s br bf A n cap w)
  clear hg
  go_enter Tryz.func13, Tryz.ntmps13
  go_wp2_with fail
  go_step3
  go_wp2_with (go_at_call 23; refine (HR.out _).mono ?_; rintro x w3 ⟨rfl, hb3⟩; obtain ⟨⟨k0, k1, k3, k4⟩, ⟨l0, l1⟩, ⟨⟨r0, r1⟩, rf0, rf1⟩, ⟨z0, z1, z2⟩, hb⟩ := HW.out w3 ⟨hb3.os, hb3.tape, hb3.output, by have := hb3.size; simpa using this, fun k hk => hb3.block k (by simpa using hk)⟩; have GB := Lib.hid hb; clear hb3 hb)
  go_region_held3 (fun w' => w'.cell? ⟨w.heap.size, 3, none⟩ = some (.int .i64 f) ∧ w'.cell? ⟨w.heap.size, 4, none⟩ = some (.int .i64 s)) (go_keep)
    (first
      | (go_at_call 34; refine (HF.out _).mono ?_; rintro x w' ⟨rfl, rfl⟩)
      | (go_at_call 35; refine (HS.out _).mono ?_; rintro x w' ⟨rfl, rfl⟩))
  have y0_1 : w.heap.size < w3.heap.size + 1 := by omega
  have y1_1 : w.heap.size + 1 < w3.heap.size + 1 := by omega
  have y2_1 : w.heap.size + 1 + 1 < w3.heap.size + 1 := by omega
  have y0_2 : w.heap.size < w3.heap.size + 1 + 1 := by omega
  have y1_2 : w.heap.size + 1 < w3.heap.size + 1 + 1 := by omega
  have y2_2 : w.heap.size + 1 + 1 < w3.heap.size + 1 + 1 := by omega
  have y0_3 : w.heap.size < w3.heap.size + 1 + 1 + 1 := by omega
  have y1_3 : w.heap.size + 1 < w3.heap.size + 1 + 1 + 1 := by omega
  have y2_3 : w.heap.size + 1 + 1 < w3.heap.size + 1 + 1 + 1 := by omega
  have y0_4 : w.heap.size < w3.heap.size + 1 + 1 + 1 + 1 := by omega
  have y1_4 : w.heap.size + 1 < w3.heap.size + 1 + 1 + 1 + 1 := by omega
  have y2_4 : w.heap.size + 1 + 1 < w3.heap.size + 1 + 1 + 1 + 1 := by omega
  have y0_5 : w.heap.size < w3.heap.size + 1 + 1 + 1 + 1 + 1 := by omega
  have y1_5 : w.heap.size + 1 < w3.heap.size + 1 + 1 + 1 + 1 + 1 := by omega
  have y2_5 : w.heap.size + 1 + 1 < w3.heap.size + 1 + 1 + 1 + 1 + 1 := by omega
  have y0_6 : w.heap.size < w3.heap.size + 1 + 1 + 1 + 1 + 1 + 1 := by omega
  have y1_6 : w.heap.size + 1 < w3.heap.size + 1 + 1 + 1 + 1 + 1 + 1 := by omega
  have y2_6 : w.heap.size + 1 + 1 < w3.heap.size + 1 + 1 + 1 + 1 + 1 + 1 := by omega
  have y0_7 : w.heap.size < w3.heap.size + 1 + 1 + 1 + 1 + 1 + 1 + 1 := by omega
  have y1_7 : w.heap.size + 1 < w3.heap.size + 1 + 1 + 1 + 1 + 1 + 1 + 1 := by omega
  have y2_7 : w.heap.size + 1 + 1 < w3.heap.size + 1 + 1 + 1 + 1 + 1 + 1 + 1 := by omega
  have y0_8 : w.heap.size < w3.heap.size + 1 + 1 + 1 + 1 + 1 + 1 + 1 + 1 := by omega
  have y1_8 : w.heap.size + 1 < w3.heap.size + 1 + 1 + 1 + 1 + 1 + 1 + 1 + 1 := by omega
  have y2_8 : w.heap.size + 1 + 1 < w3.heap.size + 1 + 1 + 1 + 1 + 1 + 1 + 1 + 1 := by omega
  go_wp2_with fail
  go_step3
  go_wp2_with fail
  refine wp_loop_rounds 1 ?_
  iterate 1 (rw [rounds_succ]; go_wp2_with fail)
  rw [Exit.noGoto_ret]
  refine bodyPost_ret (v := .agg #[.int .i64 1, .int .i64 (a % 2048)]) ?_ rfl ⟨rfl, ?_⟩
  · simp [results, Tryz.results13, go_sem, *]
  · have hsz := GB.out.size
    repeat (first | (with_reducible refine Below.drew ?_) | ((with_reducible refine Below.setCell ?_ ?_ _); rotate_left; (first | (simp; done) | (simp; omega))) | ((with_reducible refine Below.alloc ?_ ?_ _); rotate_left; (first | (simp; done) | (simp; omega))))
    with_reducible exact GB.out
set_option maxHeartbeats 6400000 in
set_option maxRecDepth 100000 in
theorem where_io (nb e f s br bf a : Int) (A : Option Addr) (n cap : Nat) (w : World) (hn0 : 1 ≤ nb) (hn1 : nb ≤ 2) (hg : Gm e f s) (a0 : 8192 ≤ a) (a1 : a < 16384) : Calls Tryz.prog 13 #[.agg #[.int .i64 8, .int .i64 nb, .int .i64 e, .int .i64 f, .int .i64 s, .slice A n cap], .agg #[.int .u8 br, .int .u8 bf], .int .u16 a] w fun x w' => x = .returned (.agg #[.int .i64 2, .int .i64 ((a - 8192) % 16)]) ∧ Below w.heap.size w w' := by
  have HR := Lib.hid (fun w => bright_any nb e f s A n cap w hn0 hn1 hg)
  have HF := Lib.hid (fun w => flash_any f w hg.f0 hg.f1)
  have HS := Lib.hid (fun w => sram_any s w hg.s0 hg.s1)
  have HW := Lib.hid (where_facts nb e f s br bf A n cap w)
  clear hg
  go_enter Tryz.func13, Tryz.ntmps13
  go_wp2_with fail
  go_step3
  go_wp2_with (go_at_call 23; refine (HR.out _).mono ?_; rintro x w3 ⟨rfl, hb3⟩; obtain ⟨⟨k0, k1, k3, k4⟩, ⟨l0, l1⟩, ⟨⟨r0, r1⟩, rf0, rf1⟩, ⟨z0, z1, z2⟩, hb⟩ := HW.out w3 ⟨hb3.os, hb3.tape, hb3.output, by have := hb3.size; simpa using this, fun k hk => hb3.block k (by simpa using hk)⟩; have GB := Lib.hid hb; clear hb3 hb)
  go_region_held3 (fun w' => w'.cell? ⟨w.heap.size, 3, none⟩ = some (.int .i64 f) ∧ w'.cell? ⟨w.heap.size, 4, none⟩ = some (.int .i64 s)) (go_keep)
    (first
      | (go_at_call 34; refine (HF.out _).mono ?_; rintro x w' ⟨rfl, rfl⟩)
      | (go_at_call 35; refine (HS.out _).mono ?_; rintro x w' ⟨rfl, rfl⟩))
  have y0_1 : w.heap.size < w3.heap.size + 1 := by omega
  have y1_1 : w.heap.size + 1 < w3.heap.size + 1 := by omega
  have y2_1 : w.heap.size + 1 + 1 < w3.heap.size + 1 := by omega
  have y0_2 : w.heap.size < w3.heap.size + 1 + 1 := by omega
  have y1_2 : w.heap.size + 1 < w3.heap.size + 1 + 1 := by omega
  have y2_2 : w.heap.size + 1 + 1 < w3.heap.size + 1 + 1 := by omega
  have y0_3 : w.heap.size < w3.heap.size + 1 + 1 + 1 := by omega
  have y1_3 : w.heap.size + 1 < w3.heap.size + 1 + 1 + 1 := by omega
  have y2_3 : w.heap.size + 1 + 1 < w3.heap.size + 1 + 1 + 1 := by omega
  have y0_4 : w.heap.size < w3.heap.size + 1 + 1 + 1 + 1 := by omega
  have y1_4 : w.heap.size + 1 < w3.heap.size + 1 + 1 + 1 + 1 := by omega
  have y2_4 : w.heap.size + 1 + 1 < w3.heap.size + 1 + 1 + 1 + 1 := by omega
  have y0_5 : w.heap.size < w3.heap.size + 1 + 1 + 1 + 1 + 1 := by omega
  have y1_5 : w.heap.size + 1 < w3.heap.size + 1 + 1 + 1 + 1 + 1 := by omega
  have y2_5 : w.heap.size + 1 + 1 < w3.heap.size + 1 + 1 + 1 + 1 + 1 := by omega
  have y0_6 : w.heap.size < w3.heap.size + 1 + 1 + 1 + 1 + 1 + 1 := by omega
  have y1_6 : w.heap.size + 1 < w3.heap.size + 1 + 1 + 1 + 1 + 1 + 1 := by omega
  have y2_6 : w.heap.size + 1 + 1 < w3.heap.size + 1 + 1 + 1 + 1 + 1 + 1 := by omega
  have y0_7 : w.heap.size < w3.heap.size + 1 + 1 + 1 + 1 + 1 + 1 + 1 := by omega
  have y1_7 : w.heap.size + 1 < w3.heap.size + 1 + 1 + 1 + 1 + 1 + 1 + 1 := by omega
  have y2_7 : w.heap.size + 1 + 1 < w3.heap.size + 1 + 1 + 1 + 1 + 1 + 1 + 1 := by omega
  have y0_8 : w.heap.size < w3.heap.size + 1 + 1 + 1 + 1 + 1 + 1 + 1 + 1 := by omega
  have y1_8 : w.heap.size + 1 < w3.heap.size + 1 + 1 + 1 + 1 + 1 + 1 + 1 + 1 := by omega
  have y2_8 : w.heap.size + 1 + 1 < w3.heap.size + 1 + 1 + 1 + 1 + 1 + 1 + 1 + 1 := by omega
  go_wp2_with fail
  go_step3
  go_wp2_with fail
  refine wp_loop_rounds 2 ?_
  iterate 2 (rw [rounds_succ]; go_wp2_with fail)
  rw [Exit.noGoto_ret]
  refine bodyPost_ret (v := .agg #[.int .i64 2, .int .i64 ((a - 8192) % 16)]) ?_ rfl ⟨rfl, ?_⟩
  · simp [results, Tryz.results13, go_sem, *]
  · have hsz := GB.out.size
    repeat (first | (with_reducible refine Below.drew ?_) | ((with_reducible refine Below.setCell ?_ ?_ _); rotate_left; (first | (simp; done) | (simp; omega))) | ((with_reducible refine Below.alloc ?_ ?_ _); rotate_left; (first | (simp; done) | (simp; omega))))
    with_reducible exact GB.out
set_option maxHeartbeats 6400000 in
set_option maxRecDepth 100000 in
theorem where_sram0 (nb e f br bf a : Int) (A : Option Addr) (n cap : Nat) (w : World) (hn0 : 1 ≤ nb) (hn1 : nb ≤ 2) (hg : Gm e f 0) (a0 : 16384 ≤ a) (a1 : a < 24576) : Calls Tryz.prog 13 #[.agg #[.int .i64 8, .int .i64 nb, .int .i64 e, .int .i64 f, .int .i64 0, .slice A n cap], .agg #[.int .u8 br, .int .u8 bf], .int .u16 a] w fun x w' => x = .returned (.agg #[.int .i64 0, .int .i64 (0)]) ∧ Below w.heap.size w w' := by
  have HR := Lib.hid (fun w => bright_any nb e f 0 A n cap w hn0 hn1 hg)
  have HF := Lib.hid (fun w => flash_any f w hg.f0 hg.f1)
  have HS := Lib.hid (fun w => sram_any 0 w hg.s0 hg.s1)
  have HW := Lib.hid (where_facts nb e f 0 br bf A n cap w)
  clear hg
  go_enter Tryz.func13, Tryz.ntmps13
  go_wp2_with fail
  go_step3
  go_wp2_with (go_at_call 23; refine (HR.out _).mono ?_; rintro x w3 ⟨rfl, hb3⟩; obtain ⟨⟨k0, k1, k3, k4⟩, ⟨l0, l1⟩, ⟨⟨r0, r1⟩, rf0, rf1⟩, ⟨z0, z1, z2⟩, hb⟩ := HW.out w3 ⟨hb3.os, hb3.tape, hb3.output, by have := hb3.size; simpa using this, fun k hk => hb3.block k (by simpa using hk)⟩; have GB := Lib.hid hb; clear hb3 hb)
  go_region_held3 (fun w' => w'.cell? ⟨w.heap.size, 3, none⟩ = some (.int .i64 f) ∧ w'.cell? ⟨w.heap.size, 4, none⟩ = some (.int .i64 0)) (go_keep)
    (first
      | (go_at_call 34; refine (HF.out _).mono ?_; rintro x w' ⟨rfl, rfl⟩)
      | (go_at_call 35; refine (HS.out _).mono ?_; rintro x w' ⟨rfl, rfl⟩))
  have y0_1 : w.heap.size < w3.heap.size + 1 := by omega
  have y1_1 : w.heap.size + 1 < w3.heap.size + 1 := by omega
  have y2_1 : w.heap.size + 1 + 1 < w3.heap.size + 1 := by omega
  have y0_2 : w.heap.size < w3.heap.size + 1 + 1 := by omega
  have y1_2 : w.heap.size + 1 < w3.heap.size + 1 + 1 := by omega
  have y2_2 : w.heap.size + 1 + 1 < w3.heap.size + 1 + 1 := by omega
  have y0_3 : w.heap.size < w3.heap.size + 1 + 1 + 1 := by omega
  have y1_3 : w.heap.size + 1 < w3.heap.size + 1 + 1 + 1 := by omega
  have y2_3 : w.heap.size + 1 + 1 < w3.heap.size + 1 + 1 + 1 := by omega
  have y0_4 : w.heap.size < w3.heap.size + 1 + 1 + 1 + 1 := by omega
  have y1_4 : w.heap.size + 1 < w3.heap.size + 1 + 1 + 1 + 1 := by omega
  have y2_4 : w.heap.size + 1 + 1 < w3.heap.size + 1 + 1 + 1 + 1 := by omega
  have y0_5 : w.heap.size < w3.heap.size + 1 + 1 + 1 + 1 + 1 := by omega
  have y1_5 : w.heap.size + 1 < w3.heap.size + 1 + 1 + 1 + 1 + 1 := by omega
  have y2_5 : w.heap.size + 1 + 1 < w3.heap.size + 1 + 1 + 1 + 1 + 1 := by omega
  have y0_6 : w.heap.size < w3.heap.size + 1 + 1 + 1 + 1 + 1 + 1 := by omega
  have y1_6 : w.heap.size + 1 < w3.heap.size + 1 + 1 + 1 + 1 + 1 + 1 := by omega
  have y2_6 : w.heap.size + 1 + 1 < w3.heap.size + 1 + 1 + 1 + 1 + 1 + 1 := by omega
  have y0_7 : w.heap.size < w3.heap.size + 1 + 1 + 1 + 1 + 1 + 1 + 1 := by omega
  have y1_7 : w.heap.size + 1 < w3.heap.size + 1 + 1 + 1 + 1 + 1 + 1 + 1 := by omega
  have y2_7 : w.heap.size + 1 + 1 < w3.heap.size + 1 + 1 + 1 + 1 + 1 + 1 + 1 := by omega
  have y0_8 : w.heap.size < w3.heap.size + 1 + 1 + 1 + 1 + 1 + 1 + 1 + 1 := by omega
  have y1_8 : w.heap.size + 1 < w3.heap.size + 1 + 1 + 1 + 1 + 1 + 1 + 1 + 1 := by omega
  have y2_8 : w.heap.size + 1 + 1 < w3.heap.size + 1 + 1 + 1 + 1 + 1 + 1 + 1 + 1 := by omega
  go_wp2_with fail
  go_step3
  go_wp2_with fail
  refine wp_loop_rounds 3 ?_
  iterate 3 (rw [rounds_succ]; go_wp2_with fail)
  rw [Exit.noGoto_ret]
  refine bodyPost_ret (v := .agg #[.int .i64 0, .int .i64 (0)]) ?_ rfl ⟨rfl, ?_⟩
  · simp [results, Tryz.results13, go_sem, *]
  · have hsz := GB.out.size
    repeat (first | (with_reducible refine Below.drew ?_) | ((with_reducible refine Below.setCell ?_ ?_ _); rotate_left; (first | (simp; done) | (simp; omega))) | ((with_reducible refine Below.alloc ?_ ?_ _); rotate_left; (first | (simp; done) | (simp; omega))))
    with_reducible exact GB.out
set_option maxHeartbeats 6400000 in
set_option maxRecDepth 100000 in
theorem where_sram1 (nb e f br bf a : Int) (A : Option Addr) (n cap : Nat) (w : World) (hn0 : 1 ≤ nb) (hn1 : nb ≤ 2) (hg : Gm e f 1) (a0 : 16384 ≤ a) (a1 : a < 24576) : Calls Tryz.prog 13 #[.agg #[.int .i64 8, .int .i64 nb, .int .i64 e, .int .i64 f, .int .i64 1, .slice A n cap], .agg #[.int .u8 br, .int .u8 bf], .int .u16 a] w fun x w' => x = .returned (.agg #[.int .i64 3, .int .i64 ((a - 16384) % 64)]) ∧ Below w.heap.size w w' := by
  have HR := Lib.hid (fun w => bright_any nb e f 1 A n cap w hn0 hn1 hg)
  have HF := Lib.hid (fun w => flash_any f w hg.f0 hg.f1)
  have HS := Lib.hid (fun w => sram_any 1 w hg.s0 hg.s1)
  have HW := Lib.hid (where_facts nb e f 1 br bf A n cap w)
  clear hg
  go_enter Tryz.func13, Tryz.ntmps13
  go_wp2_with fail
  go_step3
  go_wp2_with (go_at_call 23; refine (HR.out _).mono ?_; rintro x w3 ⟨rfl, hb3⟩; obtain ⟨⟨k0, k1, k3, k4⟩, ⟨l0, l1⟩, ⟨⟨r0, r1⟩, rf0, rf1⟩, ⟨z0, z1, z2⟩, hb⟩ := HW.out w3 ⟨hb3.os, hb3.tape, hb3.output, by have := hb3.size; simpa using this, fun k hk => hb3.block k (by simpa using hk)⟩; have GB := Lib.hid hb; clear hb3 hb)
  go_region_held3 (fun w' => w'.cell? ⟨w.heap.size, 3, none⟩ = some (.int .i64 f) ∧ w'.cell? ⟨w.heap.size, 4, none⟩ = some (.int .i64 1)) (go_keep)
    (first
      | (go_at_call 34; refine (HF.out _).mono ?_; rintro x w' ⟨rfl, rfl⟩)
      | (go_at_call 35; refine (HS.out _).mono ?_; rintro x w' ⟨rfl, rfl⟩))
  have y0_1 : w.heap.size < w3.heap.size + 1 := by omega
  have y1_1 : w.heap.size + 1 < w3.heap.size + 1 := by omega
  have y2_1 : w.heap.size + 1 + 1 < w3.heap.size + 1 := by omega
  have y0_2 : w.heap.size < w3.heap.size + 1 + 1 := by omega
  have y1_2 : w.heap.size + 1 < w3.heap.size + 1 + 1 := by omega
  have y2_2 : w.heap.size + 1 + 1 < w3.heap.size + 1 + 1 := by omega
  have y0_3 : w.heap.size < w3.heap.size + 1 + 1 + 1 := by omega
  have y1_3 : w.heap.size + 1 < w3.heap.size + 1 + 1 + 1 := by omega
  have y2_3 : w.heap.size + 1 + 1 < w3.heap.size + 1 + 1 + 1 := by omega
  have y0_4 : w.heap.size < w3.heap.size + 1 + 1 + 1 + 1 := by omega
  have y1_4 : w.heap.size + 1 < w3.heap.size + 1 + 1 + 1 + 1 := by omega
  have y2_4 : w.heap.size + 1 + 1 < w3.heap.size + 1 + 1 + 1 + 1 := by omega
  have y0_5 : w.heap.size < w3.heap.size + 1 + 1 + 1 + 1 + 1 := by omega
  have y1_5 : w.heap.size + 1 < w3.heap.size + 1 + 1 + 1 + 1 + 1 := by omega
  have y2_5 : w.heap.size + 1 + 1 < w3.heap.size + 1 + 1 + 1 + 1 + 1 := by omega
  have y0_6 : w.heap.size < w3.heap.size + 1 + 1 + 1 + 1 + 1 + 1 := by omega
  have y1_6 : w.heap.size + 1 < w3.heap.size + 1 + 1 + 1 + 1 + 1 + 1 := by omega
  have y2_6 : w.heap.size + 1 + 1 < w3.heap.size + 1 + 1 + 1 + 1 + 1 + 1 := by omega
  have y0_7 : w.heap.size < w3.heap.size + 1 + 1 + 1 + 1 + 1 + 1 + 1 := by omega
  have y1_7 : w.heap.size + 1 < w3.heap.size + 1 + 1 + 1 + 1 + 1 + 1 + 1 := by omega
  have y2_7 : w.heap.size + 1 + 1 < w3.heap.size + 1 + 1 + 1 + 1 + 1 + 1 + 1 := by omega
  have y0_8 : w.heap.size < w3.heap.size + 1 + 1 + 1 + 1 + 1 + 1 + 1 + 1 := by omega
  have y1_8 : w.heap.size + 1 < w3.heap.size + 1 + 1 + 1 + 1 + 1 + 1 + 1 + 1 := by omega
  have y2_8 : w.heap.size + 1 + 1 < w3.heap.size + 1 + 1 + 1 + 1 + 1 + 1 + 1 + 1 := by omega
  go_wp2_with fail
  go_step3
  go_wp2_with fail
  refine wp_loop_rounds 3 ?_
  iterate 3 (rw [rounds_succ]; go_wp2_with fail)
  rw [Exit.noGoto_ret]
  refine bodyPost_ret (v := .agg #[.int .i64 3, .int .i64 ((a - 16384) % 64)]) ?_ rfl ⟨rfl, ?_⟩
  · simp [results, Tryz.results13, go_sem, *]
  · have hsz := GB.out.size
    repeat (first | (with_reducible refine Below.drew ?_) | ((with_reducible refine Below.setCell ?_ ?_ _); rotate_left; (first | (simp; done) | (simp; omega))) | ((with_reducible refine Below.alloc ?_ ?_ _); rotate_left; (first | (simp; done) | (simp; omega))))
    with_reducible exact GB.out
set_option maxHeartbeats 6400000 in
set_option maxRecDepth 100000 in
theorem where_sram2 (nb e f br bf a : Int) (A : Option Addr) (n cap : Nat) (w : World) (hn0 : 1 ≤ nb) (hn1 : nb ≤ 2) (hg : Gm e f 2) (a0 : 16384 ≤ a) (a1 : a < 24576) : Calls Tryz.prog 13 #[.agg #[.int .i64 8, .int .i64 nb, .int .i64 e, .int .i64 f, .int .i64 2, .slice A n cap], .agg #[.int .u8 br, .int .u8 bf], .int .u16 a] w fun x w' => x = .returned (.agg #[.int .i64 3, .int .i64 ((a - 16384) % 128)]) ∧ Below w.heap.size w w' := by
  have HR := Lib.hid (fun w => bright_any nb e f 2 A n cap w hn0 hn1 hg)
  have HF := Lib.hid (fun w => flash_any f w hg.f0 hg.f1)
  have HS := Lib.hid (fun w => sram_any 2 w hg.s0 hg.s1)
  have HW := Lib.hid (where_facts nb e f 2 br bf A n cap w)
  clear hg
  go_enter Tryz.func13, Tryz.ntmps13
  go_wp2_with fail
  go_step3
  go_wp2_with (go_at_call 23; refine (HR.out _).mono ?_; rintro x w3 ⟨rfl, hb3⟩; obtain ⟨⟨k0, k1, k3, k4⟩, ⟨l0, l1⟩, ⟨⟨r0, r1⟩, rf0, rf1⟩, ⟨z0, z1, z2⟩, hb⟩ := HW.out w3 ⟨hb3.os, hb3.tape, hb3.output, by have := hb3.size; simpa using this, fun k hk => hb3.block k (by simpa using hk)⟩; have GB := Lib.hid hb; clear hb3 hb)
  go_region_held3 (fun w' => w'.cell? ⟨w.heap.size, 3, none⟩ = some (.int .i64 f) ∧ w'.cell? ⟨w.heap.size, 4, none⟩ = some (.int .i64 2)) (go_keep)
    (first
      | (go_at_call 34; refine (HF.out _).mono ?_; rintro x w' ⟨rfl, rfl⟩)
      | (go_at_call 35; refine (HS.out _).mono ?_; rintro x w' ⟨rfl, rfl⟩))
  have y0_1 : w.heap.size < w3.heap.size + 1 := by omega
  have y1_1 : w.heap.size + 1 < w3.heap.size + 1 := by omega
  have y2_1 : w.heap.size + 1 + 1 < w3.heap.size + 1 := by omega
  have y0_2 : w.heap.size < w3.heap.size + 1 + 1 := by omega
  have y1_2 : w.heap.size + 1 < w3.heap.size + 1 + 1 := by omega
  have y2_2 : w.heap.size + 1 + 1 < w3.heap.size + 1 + 1 := by omega
  have y0_3 : w.heap.size < w3.heap.size + 1 + 1 + 1 := by omega
  have y1_3 : w.heap.size + 1 < w3.heap.size + 1 + 1 + 1 := by omega
  have y2_3 : w.heap.size + 1 + 1 < w3.heap.size + 1 + 1 + 1 := by omega
  have y0_4 : w.heap.size < w3.heap.size + 1 + 1 + 1 + 1 := by omega
  have y1_4 : w.heap.size + 1 < w3.heap.size + 1 + 1 + 1 + 1 := by omega
  have y2_4 : w.heap.size + 1 + 1 < w3.heap.size + 1 + 1 + 1 + 1 := by omega
  have y0_5 : w.heap.size < w3.heap.size + 1 + 1 + 1 + 1 + 1 := by omega
  have y1_5 : w.heap.size + 1 < w3.heap.size + 1 + 1 + 1 + 1 + 1 := by omega
  have y2_5 : w.heap.size + 1 + 1 < w3.heap.size + 1 + 1 + 1 + 1 + 1 := by omega
  have y0_6 : w.heap.size < w3.heap.size + 1 + 1 + 1 + 1 + 1 + 1 := by omega
  have y1_6 : w.heap.size + 1 < w3.heap.size + 1 + 1 + 1 + 1 + 1 + 1 := by omega
  have y2_6 : w.heap.size + 1 + 1 < w3.heap.size + 1 + 1 + 1 + 1 + 1 + 1 := by omega
  have y0_7 : w.heap.size < w3.heap.size + 1 + 1 + 1 + 1 + 1 + 1 + 1 := by omega
  have y1_7 : w.heap.size + 1 < w3.heap.size + 1 + 1 + 1 + 1 + 1 + 1 + 1 := by omega
  have y2_7 : w.heap.size + 1 + 1 < w3.heap.size + 1 + 1 + 1 + 1 + 1 + 1 + 1 := by omega
  have y0_8 : w.heap.size < w3.heap.size + 1 + 1 + 1 + 1 + 1 + 1 + 1 + 1 := by omega
  have y1_8 : w.heap.size + 1 < w3.heap.size + 1 + 1 + 1 + 1 + 1 + 1 + 1 + 1 := by omega
  have y2_8 : w.heap.size + 1 + 1 < w3.heap.size + 1 + 1 + 1 + 1 + 1 + 1 + 1 + 1 := by omega
  go_wp2_with fail
  go_step3
  go_wp2_with fail
  refine wp_loop_rounds 3 ?_
  iterate 3 (rw [rounds_succ]; go_wp2_with fail)
  rw [Exit.noGoto_ret]
  refine bodyPost_ret (v := .agg #[.int .i64 3, .int .i64 ((a - 16384) % 128)]) ?_ rfl ⟨rfl, ?_⟩
  · simp [results, Tryz.results13, go_sem, *]
  · have hsz := GB.out.size
    repeat (first | (with_reducible refine Below.drew ?_) | ((with_reducible refine Below.setCell ?_ ?_ _); rotate_left; (first | (simp; done) | (simp; omega))) | ((with_reducible refine Below.alloc ?_ ?_ _); rotate_left; (first | (simp; done) | (simp; omega))))
    with_reducible exact GB.out
set_option maxHeartbeats 6400000 in
set_option maxRecDepth 100000 in
theorem where_flash0 (nb e s br bf a : Int) (A : Option Addr) (n cap : Nat) (w : World) (hn0 : 1 ≤ nb) (hn1 : nb ≤ 2) (hg : Gm e 0 s) (a0 : 24576 ≤ a) (a1 : a < 32768) : Calls Tryz.prog 13 #[.agg #[.int .i64 8, .int .i64 nb, .int .i64 e, .int .i64 0, .int .i64 s, .slice A n cap], .agg #[.int .u8 br, .int .u8 bf], .int .u16 a] w fun x w' => x = .returned (.agg #[.int .i64 0, .int .i64 (0)]) ∧ Below w.heap.size w w' := by
  have HR := Lib.hid (fun w => bright_any nb e 0 s A n cap w hn0 hn1 hg)
  have HF := Lib.hid (fun w => flash_any 0 w hg.f0 hg.f1)
  have HS := Lib.hid (fun w => sram_any s w hg.s0 hg.s1)
  have HW := Lib.hid (where_facts nb e 0 s br bf A n cap w)
  clear hg
  go_enter Tryz.func13, Tryz.ntmps13
  go_wp2_with fail
  go_step3
  go_wp2_with (go_at_call 23; refine (HR.out _).mono ?_; rintro x w3 ⟨rfl, hb3⟩; obtain ⟨⟨k0, k1, k3, k4⟩, ⟨l0, l1⟩, ⟨⟨r0, r1⟩, rf0, rf1⟩, ⟨z0, z1, z2⟩, hb⟩ := HW.out w3 ⟨hb3.os, hb3.tape, hb3.output, by have := hb3.size; simpa using this, fun k hk => hb3.block k (by simpa using hk)⟩; have GB := Lib.hid hb; clear hb3 hb)
  go_region_held3 (fun w' => w'.cell? ⟨w.heap.size, 3, none⟩ = some (.int .i64 0) ∧ w'.cell? ⟨w.heap.size, 4, none⟩ = some (.int .i64 s)) (go_keep)
    (first
      | (go_at_call 34; refine (HF.out _).mono ?_; rintro x w' ⟨rfl, rfl⟩)
      | (go_at_call 35; refine (HS.out _).mono ?_; rintro x w' ⟨rfl, rfl⟩))
  have y0_1 : w.heap.size < w3.heap.size + 1 := by omega
  have y1_1 : w.heap.size + 1 < w3.heap.size + 1 := by omega
  have y2_1 : w.heap.size + 1 + 1 < w3.heap.size + 1 := by omega
  have y0_2 : w.heap.size < w3.heap.size + 1 + 1 := by omega
  have y1_2 : w.heap.size + 1 < w3.heap.size + 1 + 1 := by omega
  have y2_2 : w.heap.size + 1 + 1 < w3.heap.size + 1 + 1 := by omega
  have y0_3 : w.heap.size < w3.heap.size + 1 + 1 + 1 := by omega
  have y1_3 : w.heap.size + 1 < w3.heap.size + 1 + 1 + 1 := by omega
  have y2_3 : w.heap.size + 1 + 1 < w3.heap.size + 1 + 1 + 1 := by omega
  have y0_4 : w.heap.size < w3.heap.size + 1 + 1 + 1 + 1 := by omega
  have y1_4 : w.heap.size + 1 < w3.heap.size + 1 + 1 + 1 + 1 := by omega
  have y2_4 : w.heap.size + 1 + 1 < w3.heap.size + 1 + 1 + 1 + 1 := by omega
  have y0_5 : w.heap.size < w3.heap.size + 1 + 1 + 1 + 1 + 1 := by omega
  have y1_5 : w.heap.size + 1 < w3.heap.size + 1 + 1 + 1 + 1 + 1 := by omega
  have y2_5 : w.heap.size + 1 + 1 < w3.heap.size + 1 + 1 + 1 + 1 + 1 := by omega
  have y0_6 : w.heap.size < w3.heap.size + 1 + 1 + 1 + 1 + 1 + 1 := by omega
  have y1_6 : w.heap.size + 1 < w3.heap.size + 1 + 1 + 1 + 1 + 1 + 1 := by omega
  have y2_6 : w.heap.size + 1 + 1 < w3.heap.size + 1 + 1 + 1 + 1 + 1 + 1 := by omega
  have y0_7 : w.heap.size < w3.heap.size + 1 + 1 + 1 + 1 + 1 + 1 + 1 := by omega
  have y1_7 : w.heap.size + 1 < w3.heap.size + 1 + 1 + 1 + 1 + 1 + 1 + 1 := by omega
  have y2_7 : w.heap.size + 1 + 1 < w3.heap.size + 1 + 1 + 1 + 1 + 1 + 1 + 1 := by omega
  have y0_8 : w.heap.size < w3.heap.size + 1 + 1 + 1 + 1 + 1 + 1 + 1 + 1 := by omega
  have y1_8 : w.heap.size + 1 < w3.heap.size + 1 + 1 + 1 + 1 + 1 + 1 + 1 + 1 := by omega
  have y2_8 : w.heap.size + 1 + 1 < w3.heap.size + 1 + 1 + 1 + 1 + 1 + 1 + 1 + 1 := by omega
  go_wp2_with fail
  go_step3
  go_wp2_with fail
  refine wp_loop_rounds 4 ?_
  iterate 4 (rw [rounds_succ]; go_wp2_with fail)
  rw [Exit.noGoto_ret]
  refine bodyPost_ret (v := .agg #[.int .i64 0, .int .i64 (0)]) ?_ rfl ⟨rfl, ?_⟩
  · simp [results, Tryz.results13, go_sem, *]
  · have hsz := GB.out.size
    repeat (first | (with_reducible refine Below.drew ?_) | ((with_reducible refine Below.setCell ?_ ?_ _); rotate_left; (first | (simp; done) | (simp; omega))) | ((with_reducible refine Below.alloc ?_ ?_ _); rotate_left; (first | (simp; done) | (simp; omega))))
    with_reducible exact GB.out
set_option maxHeartbeats 6400000 in
set_option maxRecDepth 100000 in
theorem where_flash1 (nb e s br bf a : Int) (A : Option Addr) (n cap : Nat) (w : World) (hn0 : 1 ≤ nb) (hn1 : nb ≤ 2) (hg : Gm e 1 s) (a0 : 24576 ≤ a) (a1 : a < 32768) (b0 : 0 ≤ bf) (b1 : bf < 256) : Calls Tryz.prog 13 #[.agg #[.int .i64 8, .int .i64 nb, .int .i64 e, .int .i64 1, .int .i64 s, .slice A n cap], .agg #[.int .u8 br, .int .u8 bf], .int .u16 a] w fun x w' => x = .returned (.agg #[.int .i64 4, .int .i64 ((a - 24576 + 8192 * bf) % 256)]) ∧ Below w.heap.size w w' := by
  have HR := Lib.hid (fun w => bright_any nb e 1 s A n cap w hn0 hn1 hg)
  have HF := Lib.hid (fun w => flash_any 1 w hg.f0 hg.f1)
  have HS := Lib.hid (fun w => sram_any s w hg.s0 hg.s1)
  have HW := Lib.hid (where_facts nb e 1 s br bf A n cap w)
  clear hg
  go_enter Tryz.func13, Tryz.ntmps13
  go_wp2_with fail
  go_step3
  go_wp2_with (go_at_call 23; refine (HR.out _).mono ?_; rintro x w3 ⟨rfl, hb3⟩; obtain ⟨⟨k0, k1, k3, k4⟩, ⟨l0, l1⟩, ⟨⟨r0, r1⟩, rf0, rf1⟩, ⟨z0, z1, z2⟩, hb⟩ := HW.out w3 ⟨hb3.os, hb3.tape, hb3.output, by have := hb3.size; simpa using this, fun k hk => hb3.block k (by simpa using hk)⟩; have GB := Lib.hid hb; clear hb3 hb)
  go_region_held3 (fun w' => w'.cell? ⟨w.heap.size, 3, none⟩ = some (.int .i64 1) ∧ w'.cell? ⟨w.heap.size, 4, none⟩ = some (.int .i64 s)) (go_keep)
    (first
      | (go_at_call 34; refine (HF.out _).mono ?_; rintro x w' ⟨rfl, rfl⟩)
      | (go_at_call 35; refine (HS.out _).mono ?_; rintro x w' ⟨rfl, rfl⟩))
  have y0_1 : w.heap.size < w3.heap.size + 1 := by omega
  have y1_1 : w.heap.size + 1 < w3.heap.size + 1 := by omega
  have y2_1 : w.heap.size + 1 + 1 < w3.heap.size + 1 := by omega
  have y0_2 : w.heap.size < w3.heap.size + 1 + 1 := by omega
  have y1_2 : w.heap.size + 1 < w3.heap.size + 1 + 1 := by omega
  have y2_2 : w.heap.size + 1 + 1 < w3.heap.size + 1 + 1 := by omega
  have y0_3 : w.heap.size < w3.heap.size + 1 + 1 + 1 := by omega
  have y1_3 : w.heap.size + 1 < w3.heap.size + 1 + 1 + 1 := by omega
  have y2_3 : w.heap.size + 1 + 1 < w3.heap.size + 1 + 1 + 1 := by omega
  have y0_4 : w.heap.size < w3.heap.size + 1 + 1 + 1 + 1 := by omega
  have y1_4 : w.heap.size + 1 < w3.heap.size + 1 + 1 + 1 + 1 := by omega
  have y2_4 : w.heap.size + 1 + 1 < w3.heap.size + 1 + 1 + 1 + 1 := by omega
  have y0_5 : w.heap.size < w3.heap.size + 1 + 1 + 1 + 1 + 1 := by omega
  have y1_5 : w.heap.size + 1 < w3.heap.size + 1 + 1 + 1 + 1 + 1 := by omega
  have y2_5 : w.heap.size + 1 + 1 < w3.heap.size + 1 + 1 + 1 + 1 + 1 := by omega
  have y0_6 : w.heap.size < w3.heap.size + 1 + 1 + 1 + 1 + 1 + 1 := by omega
  have y1_6 : w.heap.size + 1 < w3.heap.size + 1 + 1 + 1 + 1 + 1 + 1 := by omega
  have y2_6 : w.heap.size + 1 + 1 < w3.heap.size + 1 + 1 + 1 + 1 + 1 + 1 := by omega
  have y0_7 : w.heap.size < w3.heap.size + 1 + 1 + 1 + 1 + 1 + 1 + 1 := by omega
  have y1_7 : w.heap.size + 1 < w3.heap.size + 1 + 1 + 1 + 1 + 1 + 1 + 1 := by omega
  have y2_7 : w.heap.size + 1 + 1 < w3.heap.size + 1 + 1 + 1 + 1 + 1 + 1 + 1 := by omega
  have y0_8 : w.heap.size < w3.heap.size + 1 + 1 + 1 + 1 + 1 + 1 + 1 + 1 := by omega
  have y1_8 : w.heap.size + 1 < w3.heap.size + 1 + 1 + 1 + 1 + 1 + 1 + 1 + 1 := by omega
  have y2_8 : w.heap.size + 1 + 1 < w3.heap.size + 1 + 1 + 1 + 1 + 1 + 1 + 1 + 1 := by omega
  go_wp2_with fail
  go_step3
  go_wp2_with fail
  refine wp_loop_rounds 4 ?_
  iterate 4 (rw [rounds_succ]; go_wp2_with fail)
  rw [Exit.noGoto_ret]
  refine bodyPost_ret (v := .agg #[.int .i64 4, .int .i64 ((a - 24576 + 8192 * bf) % 256)]) ?_ rfl ⟨rfl, ?_⟩
  · simp [results, Tryz.results13, go_sem, *]
  · have hsz := GB.out.size
    repeat (first | (with_reducible refine Below.drew ?_) | ((with_reducible refine Below.setCell ?_ ?_ _); rotate_left; (first | (simp; done) | (simp; omega))) | ((with_reducible refine Below.alloc ?_ ?_ _); rotate_left; (first | (simp; done) | (simp; omega))))
    with_reducible exact GB.out
set_option maxHeartbeats 6400000 in
set_option maxRecDepth 100000 in
theorem where_flash2 (nb e s br bf a : Int) (A : Option Addr) (n cap : Nat) (w : World) (hn0 : 1 ≤ nb) (hn1 : nb ≤ 2) (hg : Gm e 2 s) (a0 : 24576 ≤ a) (a1 : a < 32768) (b0 : 0 ≤ bf) (b1 : bf < 256) : Calls Tryz.prog 13 #[.agg #[.int .i64 8, .int .i64 nb, .int .i64 e, .int .i64 2, .int .i64 s, .slice A n cap], .agg #[.int .u8 br, .int .u8 bf], .int .u16 a] w fun x w' => x = .returned (.agg #[.int .i64 4, .int .i64 ((a - 24576 + 8192 * bf) % 512)]) ∧ Below w.heap.size w w' := by
  have HR := Lib.hid (fun w => bright_any nb e 2 s A n cap w hn0 hn1 hg)
  have HF := Lib.hid (fun w => flash_any 2 w hg.f0 hg.f1)
  have HS := Lib.hid (fun w => sram_any s w hg.s0 hg.s1)
  have HW := Lib.hid (where_facts nb e 2 s br bf A n cap w)
  clear hg
  go_enter Tryz.func13, Tryz.ntmps13
  go_wp2_with fail
  go_step3
  go_wp2_with (go_at_call 23; refine (HR.out _).mono ?_; rintro x w3 ⟨rfl, hb3⟩; obtain ⟨⟨k0, k1, k3, k4⟩, ⟨l0, l1⟩, ⟨⟨r0, r1⟩, rf0, rf1⟩, ⟨z0, z1, z2⟩, hb⟩ := HW.out w3 ⟨hb3.os, hb3.tape, hb3.output, by have := hb3.size; simpa using this, fun k hk => hb3.block k (by simpa using hk)⟩; have GB := Lib.hid hb; clear hb3 hb)
  go_region_held3 (fun w' => w'.cell? ⟨w.heap.size, 3, none⟩ = some (.int .i64 2) ∧ w'.cell? ⟨w.heap.size, 4, none⟩ = some (.int .i64 s)) (go_keep)
    (first
      | (go_at_call 34; refine (HF.out _).mono ?_; rintro x w' ⟨rfl, rfl⟩)
      | (go_at_call 35; refine (HS.out _).mono ?_; rintro x w' ⟨rfl, rfl⟩))
  have y0_1 : w.heap.size < w3.heap.size + 1 := by omega
  have y1_1 : w.heap.size + 1 < w3.heap.size + 1 := by omega
  have y2_1 : w.heap.size + 1 + 1 < w3.heap.size + 1 := by omega
  have y0_2 : w.heap.size < w3.heap.size + 1 + 1 := by omega
  have y1_2 : w.heap.size + 1 < w3.heap.size + 1 + 1 := by omega
  have y2_2 : w.heap.size + 1 + 1 < w3.heap.size + 1 + 1 := by omega
  have y0_3 : w.heap.size < w3.heap.size + 1 + 1 + 1 := by omega
  have y1_3 : w.heap.size + 1 < w3.heap.size + 1 + 1 + 1 := by omega
  have y2_3 : w.heap.size + 1 + 1 < w3.heap.size + 1 + 1 + 1 := by omega
  have y0_4 : w.heap.size < w3.heap.size + 1 + 1 + 1 + 1 := by omega
  have y1_4 : w.heap.size + 1 < w3.heap.size + 1 + 1 + 1 + 1 := by omega
  have y2_4 : w.heap.size + 1 + 1 < w3.heap.size + 1 + 1 + 1 + 1 := by omega
  have y0_5 : w.heap.size < w3.heap.size + 1 + 1 + 1 + 1 + 1 := by omega
  have y1_5 : w.heap.size + 1 < w3.heap.size + 1 + 1 + 1 + 1 + 1 := by omega
  have y2_5 : w.heap.size + 1 + 1 < w3.heap.size + 1 + 1 + 1 + 1 + 1 := by omega
  have y0_6 : w.heap.size < w3.heap.size + 1 + 1 + 1 + 1 + 1 + 1 := by omega
  have y1_6 : w.heap.size + 1 < w3.heap.size + 1 + 1 + 1 + 1 + 1 + 1 := by omega
  have y2_6 : w.heap.size + 1 + 1 < w3.heap.size + 1 + 1 + 1 + 1 + 1 + 1 := by omega
  have y0_7 : w.heap.size < w3.heap.size + 1 + 1 + 1 + 1 + 1 + 1 + 1 := by omega
  have y1_7 : w.heap.size + 1 < w3.heap.size + 1 + 1 + 1 + 1 + 1 + 1 + 1 := by omega
  have y2_7 : w.heap.size + 1 + 1 < w3.heap.size + 1 + 1 + 1 + 1 + 1 + 1 + 1 := by omega
  have y0_8 : w.heap.size < w3.heap.size + 1 + 1 + 1 + 1 + 1 + 1 + 1 + 1 := by omega
  have y1_8 : w.heap.size + 1 < w3.heap.size + 1 + 1 + 1 + 1 + 1 + 1 + 1 + 1 := by omega
  have y2_8 : w.heap.size + 1 + 1 < w3.heap.size + 1 + 1 + 1 + 1 + 1 + 1 + 1 + 1 := by omega
  go_wp2_with fail
  go_step3
  go_wp2_with fail
  refine wp_loop_rounds 4 ?_
  iterate 4 (rw [rounds_succ]; go_wp2_with fail)
  rw [Exit.noGoto_ret]
  refine bodyPost_ret (v := .agg #[.int .i64 4, .int .i64 ((a - 24576 + 8192 * bf) % 512)]) ?_ rfl ⟨rfl, ?_⟩
  · simp [results, Tryz.results13, go_sem, *]
  · have hsz := GB.out.size
    repeat (first | (with_reducible refine Below.drew ?_) | ((with_reducible refine Below.setCell ?_ ?_ _); rotate_left; (first | (simp; done) | (simp; omega))) | ((with_reducible refine Below.alloc ?_ ?_ _); rotate_left; (first | (simp; done) | (simp; omega))))
    with_reducible exact GB.out
set_option maxHeartbeats 6400000 in
set_option maxRecDepth 100000 in
theorem where_rom1 (e f s br bf a : Int) (A : Option Addr) (n cap : Nat) (w : World) (hg : Gm e f s) (a0 : 32768 ≤ a) (a1 : a < 49152) (b0 : 0 ≤ br) (b1 : br < 256) : Calls Tryz.prog 13 #[.agg #[.int .i64 8, .int .i64 1, .int .i64 e, .int .i64 f, .int .i64 s, .slice A n cap], .agg #[.int .u8 br, .int .u8 bf], .int .u16 a] w fun x w' => x = .returned (.agg #[.int .i64 5, .int .i64 ((a - 32768) % 256)]) ∧ Below w.heap.size w w' := by
  have HR := Lib.hid (fun w => bright_any 1 e f s A n cap w (by decide) (by decide) hg)
  have HF := Lib.hid (fun w => flash_any f w hg.f0 hg.f1)
  have HS := Lib.hid (fun w => sram_any s w hg.s0 hg.s1)
  have HW := Lib.hid (where_facts 1 e f s br bf A n cap w)
  clear hg
  go_enter Tryz.func13, Tryz.ntmps13
  go_wp2_with fail
  go_step3
  go_wp2_with (go_at_call 23; refine (HR.out _).mono ?_; rintro x w3 ⟨rfl, hb3⟩; obtain ⟨⟨k0, k1, k3, k4⟩, ⟨l0, l1⟩, ⟨⟨r0, r1⟩, rf0, rf1⟩, ⟨z0, z1, z2⟩, hb⟩ := HW.out w3 ⟨hb3.os, hb3.tape, hb3.output, by have := hb3.size; simpa using this, fun k hk => hb3.block k (by simpa using hk)⟩; have GB := Lib.hid hb; clear hb3 hb)
  go_region_held3 (fun w' => w'.cell? ⟨w.heap.size, 3, none⟩ = some (.int .i64 f) ∧ w'.cell? ⟨w.heap.size, 4, none⟩ = some (.int .i64 s)) (go_keep)
    (first
      | (go_at_call 34; refine (HF.out _).mono ?_; rintro x w' ⟨rfl, rfl⟩)
      | (go_at_call 35; refine (HS.out _).mono ?_; rintro x w' ⟨rfl, rfl⟩))
  have y0_1 : w.heap.size < w3.heap.size + 1 := by omega
  have y1_1 : w.heap.size + 1 < w3.heap.size + 1 := by omega
  have y2_1 : w.heap.size + 1 + 1 < w3.heap.size + 1 := by omega
  have y0_2 : w.heap.size < w3.heap.size + 1 + 1 := by omega
  have y1_2 : w.heap.size + 1 < w3.heap.size + 1 + 1 := by omega
  have y2_2 : w.heap.size + 1 + 1 < w3.heap.size + 1 + 1 := by omega
  have y0_3 : w.heap.size < w3.heap.size + 1 + 1 + 1 := by omega
  have y1_3 : w.heap.size + 1 < w3.heap.size + 1 + 1 + 1 := by omega
  have y2_3 : w.heap.size + 1 + 1 < w3.heap.size + 1 + 1 + 1 := by omega
  have y0_4 : w.heap.size < w3.heap.size + 1 + 1 + 1 + 1 := by omega
  have y1_4 : w.heap.size + 1 < w3.heap.size + 1 + 1 + 1 + 1 := by omega
  have y2_4 : w.heap.size + 1 + 1 < w3.heap.size + 1 + 1 + 1 + 1 := by omega
  have y0_5 : w.heap.size < w3.heap.size + 1 + 1 + 1 + 1 + 1 := by omega
  have y1_5 : w.heap.size + 1 < w3.heap.size + 1 + 1 + 1 + 1 + 1 := by omega
  have y2_5 : w.heap.size + 1 + 1 < w3.heap.size + 1 + 1 + 1 + 1 + 1 := by omega
  have y0_6 : w.heap.size < w3.heap.size + 1 + 1 + 1 + 1 + 1 + 1 := by omega
  have y1_6 : w.heap.size + 1 < w3.heap.size + 1 + 1 + 1 + 1 + 1 + 1 := by omega
  have y2_6 : w.heap.size + 1 + 1 < w3.heap.size + 1 + 1 + 1 + 1 + 1 + 1 := by omega
  have y0_7 : w.heap.size < w3.heap.size + 1 + 1 + 1 + 1 + 1 + 1 + 1 := by omega
  have y1_7 : w.heap.size + 1 < w3.heap.size + 1 + 1 + 1 + 1 + 1 + 1 + 1 := by omega
  have y2_7 : w.heap.size + 1 + 1 < w3.heap.size + 1 + 1 + 1 + 1 + 1 + 1 + 1 := by omega
  have y0_8 : w.heap.size < w3.heap.size + 1 + 1 + 1 + 1 + 1 + 1 + 1 + 1 := by omega
  have y1_8 : w.heap.size + 1 < w3.heap.size + 1 + 1 + 1 + 1 + 1 + 1 + 1 + 1 := by omega
  have y2_8 : w.heap.size + 1 + 1 < w3.heap.size + 1 + 1 + 1 + 1 + 1 + 1 + 1 + 1 := by omega
  go_wp2_with fail
  go_step3
  go_wp2_with fail
  refine wp_loop_rounds 5 ?_
  iterate 5 (rw [rounds_succ]; go_wp2_with fail)
  rw [Exit.noGoto_ret]
  refine bodyPost_ret (v := .agg #[.int .i64 5, .int .i64 ((a - 32768) % 256)]) ?_ rfl ⟨rfl, ?_⟩
  · simp [results, Tryz.results13, go_sem, *]
  · have hsz := GB.out.size
    repeat (first | (with_reducible refine Below.drew ?_) | ((with_reducible refine Below.setCell ?_ ?_ _); rotate_left; (first | (simp; done) | (simp; omega))) | ((with_reducible refine Below.alloc ?_ ?_ _); rotate_left; (first | (simp; done) | (simp; omega))))
    with_reducible exact GB.out
set_option maxHeartbeats 6400000 in
set_option maxRecDepth 100000 in
theorem where_rom2 (e f s br bf a : Int) (A : Option Addr) (n cap : Nat) (w : World) (hg : Gm e f s) (a0 : 32768 ≤ a) (a1 : a < 49152) (b0 : 0 ≤ br) (b1 : br < 256) : Calls Tryz.prog 13 #[.agg #[.int .i64 8, .int .i64 2, .int .i64 e, .int .i64 f, .int .i64 s, .slice A n cap], .agg #[.int .u8 br, .int .u8 bf], .int .u16 a] w fun x w' => x = .returned (.agg #[.int .i64 5, .int .i64 ((a - 32768) % 256 + br % 2 * 256)]) ∧ Below w.heap.size w w' := by
  have HR := Lib.hid (fun w => bright_any 2 e f s A n cap w (by decide) (by decide) hg)
  have HF := Lib.hid (fun w => flash_any f w hg.f0 hg.f1)
  have HS := Lib.hid (fun w => sram_any s w hg.s0 hg.s1)
  have HW := Lib.hid (where_facts 2 e f s br bf A n cap w)
  clear hg
  go_enter Tryz.func13, Tryz.ntmps13
  go_wp2_with fail
  go_step3
  go_wp2_with (go_at_call 23; refine (HR.out _).mono ?_; rintro x w3 ⟨rfl, hb3⟩; obtain ⟨⟨k0, k1, k3, k4⟩, ⟨l0, l1⟩, ⟨⟨r0, r1⟩, rf0, rf1⟩, ⟨z0, z1, z2⟩, hb⟩ := HW.out w3 ⟨hb3.os, hb3.tape, hb3.output, by have := hb3.size; simpa using this, fun k hk => hb3.block k (by simpa using hk)⟩; have GB := Lib.hid hb; clear hb3 hb)
  go_region_held3 (fun w' => w'.cell? ⟨w.heap.size, 3, none⟩ = some (.int .i64 f) ∧ w'.cell? ⟨w.heap.size, 4, none⟩ = some (.int .i64 s)) (go_keep)
    (first
      | (go_at_call 34; refine (HF.out _).mono ?_; rintro x w' ⟨rfl, rfl⟩)
      | (go_at_call 35; refine (HS.out _).mono ?_; rintro x w' ⟨rfl, rfl⟩))
  have y0_1 : w.heap.size < w3.heap.size + 1 := by omega
  have y1_1 : w.heap.size + 1 < w3.heap.size + 1 := by omega
  have y2_1 : w.heap.size + 1 + 1 < w3.heap.size + 1 := by omega
  have y0_2 : w.heap.size < w3.heap.size + 1 + 1 := by omega
  have y1_2 : w.heap.size + 1 < w3.heap.size + 1 + 1 := by omega
  have y2_2 : w.heap.size + 1 + 1 < w3.heap.size + 1 + 1 := by omega
  have y0_3 : w.heap.size < w3.heap.size + 1 + 1 + 1 := by omega
  have y1_3 : w.heap.size + 1 < w3.heap.size + 1 + 1 + 1 := by omega
  have y2_3 : w.heap.size + 1 + 1 < w3.heap.size + 1 + 1 + 1 := by omega
  have y0_4 : w.heap.size < w3.heap.size + 1 + 1 + 1 + 1 := by omega
  have y1_4 : w.heap.size + 1 < w3.heap.size + 1 + 1 + 1 + 1 := by omega
  have y2_4 : w.heap.size + 1 + 1 < w3.heap.size + 1 + 1 + 1 + 1 := by omega
  have y0_5 : w.heap.size < w3.heap.size + 1 + 1 + 1 + 1 + 1 := by omega
  have y1_5 : w.heap.size + 1 < w3.heap.size + 1 + 1 + 1 + 1 + 1 := by omega
  have y2_5 : w.heap.size + 1 + 1 < w3.heap.size + 1 + 1 + 1 + 1 + 1 := by omega
  have y0_6 : w.heap.size < w3.heap.size + 1 + 1 + 1 + 1 + 1 + 1 := by omega
  have y1_6 : w.heap.size + 1 < w3.heap.size + 1 + 1 + 1 + 1 + 1 + 1 := by omega
  have y2_6 : w.heap.size + 1 + 1 < w3.heap.size + 1 + 1 + 1 + 1 + 1 + 1 := by omega
  have y0_7 : w.heap.size < w3.heap.size + 1 + 1 + 1 + 1 + 1 + 1 + 1 := by omega
  have y1_7 : w.heap.size + 1 < w3.heap.size + 1 + 1 + 1 + 1 + 1 + 1 + 1 := by omega
  have y2_7 : w.heap.size + 1 + 1 < w3.heap.size + 1 + 1 + 1 + 1 + 1 + 1 + 1 := by omega
  have y0_8 : w.heap.size < w3.heap.size + 1 + 1 + 1 + 1 + 1 + 1 + 1 + 1 := by omega
  have y1_8 : w.heap.size + 1 < w3.heap.size + 1 + 1 + 1 + 1 + 1 + 1 + 1 + 1 := by omega
  have y2_8 : w.heap.size + 1 + 1 < w3.heap.size + 1 + 1 + 1 + 1 + 1 + 1 + 1 + 1 := by omega
  go_wp2_with fail
  go_step3
  go_wp2_with fail
  refine wp_loop_rounds 5 ?_
  iterate 5 (rw [rounds_succ]; go_wp2_with fail)
  rw [Exit.noGoto_ret]
  refine bodyPost_ret (v := .agg #[.int .i64 5, .int .i64 ((a - 32768) % 256 + br % 2 * 256)]) ?_ rfl ⟨rfl, ?_⟩
  · simp [results, Tryz.results13, go_sem, *]
  · have hsz := GB.out.size
    repeat (first | (with_reducible refine Below.drew ?_) | ((with_reducible refine Below.setCell ?_ ?_ _); rotate_left; (first | (simp; done) | (simp; omega))) | ((with_reducible refine Below.alloc ?_ ?_ _); rotate_left; (first | (simp; done) | (simp; omega))))
    with_reducible exact GB.out
set_option maxHeartbeats 6400000 in
set_option maxRecDepth 100000 in
theorem where_fix1 (e f s br bf a : Int) (A : Option Addr) (n cap : Nat) (w : World) (hg : Gm e f s) (a0 : 49152 ≤ a) (a1 : a < 65536) : Calls Tryz.prog 13 #[.agg #[.int .i64 8, .int .i64 1, .int .i64 e, .int .i64 f, .int .i64 s, .slice A n cap], .agg #[.int .u8 br, .int .u8 bf], .int .u16 a] w fun x w' => x = .returned (.agg #[.int .i64 5, .int .i64 ((a - 49152) % 256)]) ∧ Below w.heap.size w w' := by
  have HR := Lib.hid (fun w => bright_any 1 e f s A n cap w (by decide) (by decide) hg)
  have HF := Lib.hid (fun w => flash_any f w hg.f0 hg.f1)
  have HS := Lib.hid (fun w => sram_any s w hg.s0 hg.s1)
  have HW := Lib.hid (where_facts 1 e f s br bf A n cap w)
  clear hg
  go_enter Tryz.func13, Tryz.ntmps13
  go_wp2_with fail
  go_step3
  go_wp2_with (go_at_call 23; refine (HR.out _).mono ?_; rintro x w3 ⟨rfl, hb3⟩; obtain ⟨⟨k0, k1, k3, k4⟩, ⟨l0, l1⟩, ⟨⟨r0, r1⟩, rf0, rf1⟩, ⟨z0, z1, z2⟩, hb⟩ := HW.out w3 ⟨hb3.os, hb3.tape, hb3.output, by have := hb3.size; simpa using this, fun k hk => hb3.block k (by simpa using hk)⟩; have GB := Lib.hid hb; clear hb3 hb)
  go_region_held3 (fun w' => w'.cell? ⟨w.heap.size, 3, none⟩ = some (.int .i64 f) ∧ w'.cell? ⟨w.heap.size, 4, none⟩ = some (.int .i64 s)) (go_keep)
    (first
      | (go_at_call 34; refine (HF.out _).mono ?_; rintro x w' ⟨rfl, rfl⟩)
      | (go_at_call 35; refine (HS.out _).mono ?_; rintro x w' ⟨rfl, rfl⟩))
  have y0_1 : w.heap.size < w3.heap.size + 1 := by omega
  have y1_1 : w.heap.size + 1 < w3.heap.size + 1 := by omega
  have y2_1 : w.heap.size + 1 + 1 < w3.heap.size + 1 := by omega
  have y0_2 : w.heap.size < w3.heap.size + 1 + 1 := by omega
  have y1_2 : w.heap.size + 1 < w3.heap.size + 1 + 1 := by omega
  have y2_2 : w.heap.size + 1 + 1 < w3.heap.size + 1 + 1 := by omega
  have y0_3 : w.heap.size < w3.heap.size + 1 + 1 + 1 := by omega
  have y1_3 : w.heap.size + 1 < w3.heap.size + 1 + 1 + 1 := by omega
  have y2_3 : w.heap.size + 1 + 1 < w3.heap.size + 1 + 1 + 1 := by omega
  have y0_4 : w.heap.size < w3.heap.size + 1 + 1 + 1 + 1 := by omega
  have y1_4 : w.heap.size + 1 < w3.heap.size + 1 + 1 + 1 + 1 := by omega
  have y2_4 : w.heap.size + 1 + 1 < w3.heap.size + 1 + 1 + 1 + 1 := by omega
  have y0_5 : w.heap.size < w3.heap.size + 1 + 1 + 1 + 1 + 1 := by omega
  have y1_5 : w.heap.size + 1 < w3.heap.size + 1 + 1 + 1 + 1 + 1 := by omega
  have y2_5 : w.heap.size + 1 + 1 < w3.heap.size + 1 + 1 + 1 + 1 + 1 := by omega
  have y0_6 : w.heap.size < w3.heap.size + 1 + 1 + 1 + 1 + 1 + 1 := by omega
  have y1_6 : w.heap.size + 1 < w3.heap.size + 1 + 1 + 1 + 1 + 1 + 1 := by omega
  have y2_6 : w.heap.size + 1 + 1 < w3.heap.size + 1 + 1 + 1 + 1 + 1 + 1 := by omega
  have y0_7 : w.heap.size < w3.heap.size + 1 + 1 + 1 + 1 + 1 + 1 + 1 := by omega
  have y1_7 : w.heap.size + 1 < w3.heap.size + 1 + 1 + 1 + 1 + 1 + 1 + 1 := by omega
  have y2_7 : w.heap.size + 1 + 1 < w3.heap.size + 1 + 1 + 1 + 1 + 1 + 1 + 1 := by omega
  have y0_8 : w.heap.size < w3.heap.size + 1 + 1 + 1 + 1 + 1 + 1 + 1 + 1 := by omega
  have y1_8 : w.heap.size + 1 < w3.heap.size + 1 + 1 + 1 + 1 + 1 + 1 + 1 + 1 := by omega
  have y2_8 : w.heap.size + 1 + 1 < w3.heap.size + 1 + 1 + 1 + 1 + 1 + 1 + 1 + 1 := by omega
  go_wp2_with fail
  go_step3
  go_wp2_with fail
  refine wp_loop_rounds 6 ?_
  iterate 6 (rw [rounds_succ]; go_wp2_with fail)
  rw [Exit.noGoto_ret]
  refine bodyPost_ret (v := .agg #[.int .i64 5, .int .i64 ((a - 49152) % 256)]) ?_ rfl ⟨rfl, ?_⟩
  · simp [results, Tryz.results13, go_sem, *]
  · have hsz := GB.out.size
    repeat (first | (with_reducible refine Below.drew ?_) | ((with_reducible refine Below.setCell ?_ ?_ _); rotate_left; (first | (simp; done) | (simp; omega))) | ((with_reducible refine Below.alloc ?_ ?_ _); rotate_left; (first | (simp; done) | (simp; omega))))
    with_reducible exact GB.out
set_option maxHeartbeats 6400000 in
set_option maxRecDepth 100000 in
theorem where_fix2 (e f s br bf a : Int) (A : Option Addr) (n cap : Nat) (w : World) (hg : Gm e f s) (a0 : 49152 ≤ a) (a1 : a < 65536) : Calls Tryz.prog 13 #[.agg #[.int .i64 8, .int .i64 2, .int .i64 e, .int .i64 f, .int .i64 s, .slice A n cap], .agg #[.int .u8 br, .int .u8 bf], .int .u16 a] w fun x w' => x = .returned (.agg #[.int .i64 5, .int .i64 ((a - 49152) % 256 + 256)]) ∧ Below w.heap.size w w' := by
  have HR := Lib.hid (fun w => bright_any 2 e f s A n cap w (by decide) (by decide) hg)
  have HF := Lib.hid (fun w => flash_any f w hg.f0 hg.f1)
  have HS := Lib.hid (fun w => sram_any s w hg.s0 hg.s1)
  have HW := Lib.hid (where_facts 2 e f s br bf A n cap w)
  clear hg
  go_enter Tryz.func13, Tryz.ntmps13
  go_wp2_with fail
  go_step3
  go_wp2_with (go_at_call 23; refine (HR.out _).mono ?_; rintro x w3 ⟨rfl, hb3⟩; obtain ⟨⟨k0, k1, k3, k4⟩, ⟨l0, l1⟩, ⟨⟨r0, r1⟩, rf0, rf1⟩, ⟨z0, z1, z2⟩, hb⟩ := HW.out w3 ⟨hb3.os, hb3.tape, hb3.output, by have := hb3.size; simpa using this, fun k hk => hb3.block k (by simpa using hk)⟩; have GB := Lib.hid hb; clear hb3 hb)
  go_region_held3 (fun w' => w'.cell? ⟨w.heap.size, 3, none⟩ = some (.int .i64 f) ∧ w'.cell? ⟨w.heap.size, 4, none⟩ = some (.int .i64 s)) (go_keep)
    (first
      | (go_at_call 34; refine (HF.out _).mono ?_; rintro x w' ⟨rfl, rfl⟩)
      | (go_at_call 35; refine (HS.out _).mono ?_; rintro x w' ⟨rfl, rfl⟩))
  have y0_1 : w.heap.size < w3.heap.size + 1 := by omega
  have y1_1 : w.heap.size + 1 < w3.heap.size + 1 := by omega
  have y2_1 : w.heap.size + 1 + 1 < w3.heap.size + 1 := by omega
  have y0_2 : w.heap.size < w3.heap.size + 1 + 1 := by omega
  have y1_2 : w.heap.size + 1 < w3.heap.size + 1 + 1 := by omega
  have y2_2 : w.heap.size + 1 + 1 < w3.heap.size + 1 + 1 := by omega
  have y0_3 : w.heap.size < w3.heap.size + 1 + 1 + 1 := by omega
  have y1_3 : w.heap.size + 1 < w3.heap.size + 1 + 1 + 1 := by omega
  have y2_3 : w.heap.size + 1 + 1 < w3.heap.size + 1 + 1 + 1 := by omega
  have y0_4 : w.heap.size < w3.heap.size + 1 + 1 + 1 + 1 := by omega
  have y1_4 : w.heap.size + 1 < w3.heap.size + 1 + 1 + 1 + 1 := by omega
  have y2_4 : w.heap.size + 1 + 1 < w3.heap.size + 1 + 1 + 1 + 1 := by omega
  have y0_5 : w.heap.size < w3.heap.size + 1 + 1 + 1 + 1 + 1 := by omega
  have y1_5 : w.heap.size + 1 < w3.heap.size + 1 + 1 + 1 + 1 + 1 := by omega
  have y2_5 : w.heap.size + 1 + 1 < w3.heap.size + 1 + 1 + 1 + 1 + 1 := by omega
  have y0_6 : w.heap.size < w3.heap.size + 1 + 1 + 1 + 1 + 1 + 1 := by omega
  have y1_6 : w.heap.size + 1 < w3.heap.size + 1 + 1 + 1 + 1 + 1 + 1 := by omega
  have y2_6 : w.heap.size + 1 + 1 < w3.heap.size + 1 + 1 + 1 + 1 + 1 + 1 := by omega
  have y0_7 : w.heap.size < w3.heap.size + 1 + 1 + 1 + 1 + 1 + 1 + 1 := by omega
  have y1_7 : w.heap.size + 1 < w3.heap.size + 1 + 1 + 1 + 1 + 1 + 1 + 1 := by omega
  have y2_7 : w.heap.size + 1 + 1 < w3.heap.size + 1 + 1 + 1 + 1 + 1 + 1 + 1 := by omega
  have y0_8 : w.heap.size < w3.heap.size + 1 + 1 + 1 + 1 + 1 + 1 + 1 + 1 := by omega
  have y1_8 : w.heap.size + 1 < w3.heap.size + 1 + 1 + 1 + 1 + 1 + 1 + 1 + 1 := by omega
  have y2_8 : w.heap.size + 1 + 1 < w3.heap.size + 1 + 1 + 1 + 1 + 1 + 1 + 1 + 1 := by omega
  go_wp2_with fail
  go_step3
  go_wp2_with fail
  refine wp_loop_rounds 6 ?_
  iterate 6 (rw [rounds_succ]; go_wp2_with fail)
  rw [Exit.noGoto_ret]
  refine bodyPost_ret (v := .agg #[.int .i64 5, .int .i64 ((a - 49152) % 256 + 256)]) ?_ rfl ⟨rfl, ?_⟩
  · simp [results, Tryz.results13, go_sem, *]
  · have hsz := GB.out.size
    repeat (first | (with_reducible refine Below.drew ?_) | ((with_reducible refine Below.setCell ?_ ?_ _); rotate_left; (first | (simp; done) | (simp; omega))) | ((with_reducible refine Below.alloc ?_ ?_ _); rotate_left; (first | (simp; done) | (simp; omega))))
    with_reducible exact GB.out
end Go.Proofs.YtifajfjiloajfaaGreatDoor.OwnGeo
namespace Go.Proofs.YtifajfjiloajfaaGreatDoor.OwnGeo
open Go.RowKit Go.Proofs.YtifajfjiloajfaaGreatDoor.Own

/-- A region, and a place in it. -/
def whereS (nb f s br bf a : Int) : Int × Int :=
  if a < 8192 then (1, a % 2048)
  else if a < 16384 then (2, (a - 8192) % 16)
  else if a < 24576 then (if s = 0 then (0, 0) else (3, (a - 16384) % (s * 64)))
  else if a < 32768 then (if f = 0 then (0, 0) else (4, (a - 24576 + 8192 * bf) % (f * 256)))
  else if a < 49152 then (5, (a - 32768) % 256 + br % nb * 256)
  else (5, (a - 49152) % 256 + (nb - 1) * 256)
theorem where_any (nb e f s br bf a : Int) (A : Option Addr) (n cap : Nat) (w : World) (hn0 : 1 ≤ nb) (hn1 : nb ≤ 2) (hg : Gm e f s) (hbr : By br) (hbf : By bf) (a0 : 0 ≤ a) (a1 : a < 65536) :
    Calls Tryz.prog 13 #[.agg #[.int .i64 8, .int .i64 nb, .int .i64 e, .int .i64 f, .int .i64 s, .slice A n cap], .agg #[.int .u8 br, .int .u8 bf], .int .u16 a] w fun x w' => x = .returned (.agg #[.int .i64 (whereS nb f s br bf a).1, .int .i64 (whereS nb f s br bf a).2]) ∧ Below w.heap.size w w' := by
  have hf0 := hg.f0
  have hf1 := hg.f1
  have hs0 := hg.s0
  have hs1 := hg.s1
  by_cases h1 : a < 8192
  · have q : whereS nb f s br bf a = (1, a % 2048) := by simp [whereS, h1]
    rw [q]
    exact where_ram nb e f s br bf a A n cap w hn0 hn1 hg a0 h1
  by_cases h2 : a < 16384
  · have q : whereS nb f s br bf a = (2, (a - 8192) % 16) := by simp [whereS, h1, h2]
    rw [q]
    exact where_io nb e f s br bf a A n cap w hn0 hn1 hg (by omega) h2
  by_cases h3 : a < 24576
  · rcases (by omega : s = 0 ∨ s = 1 ∨ s = 2) with rfl | rfl | rfl
    · have q : whereS nb f 0 br bf a = (0, 0) := by simp [whereS, h1, h2, h3]
      rw [q]
      exact where_sram0 nb e f br bf a A n cap w hn0 hn1 hg (by omega) h3
    · have q : whereS nb f 1 br bf a = (3, (a - 16384) % 64) := by simp [whereS, h1, h2, h3]
      rw [q]
      exact where_sram1 nb e f br bf a A n cap w hn0 hn1 hg (by omega) h3
    · have q : whereS nb f 2 br bf a = (3, (a - 16384) % 128) := by simp [whereS, h1, h2, h3]
      rw [q]
      exact where_sram2 nb e f br bf a A n cap w hn0 hn1 hg (by omega) h3
  by_cases h4 : a < 32768
  · rcases (by omega : f = 0 ∨ f = 1 ∨ f = 2) with rfl | rfl | rfl
    · have q : whereS nb 0 s br bf a = (0, 0) := by simp [whereS, h1, h2, h3, h4]
      rw [q]
      exact where_flash0 nb e s br bf a A n cap w hn0 hn1 hg (by omega) h4
    · have q : whereS nb 1 s br bf a = (4, (a - 24576 + 8192 * bf) % 256) := by simp [whereS, h1, h2, h3, h4]
      rw [q]
      exact where_flash1 nb e s br bf a A n cap w hn0 hn1 hg (by omega) h4 hbf.1 hbf.2
    · have q : whereS nb 2 s br bf a = (4, (a - 24576 + 8192 * bf) % 512) := by simp [whereS, h1, h2, h3, h4]
      rw [q]
      exact where_flash2 nb e s br bf a A n cap w hn0 hn1 hg (by omega) h4 hbf.1 hbf.2
  by_cases h5 : a < 49152
  · rcases (by omega : nb = 1 ∨ nb = 2) with rfl | rfl
    · have q : whereS 1 f s br bf a = (5, (a - 32768) % 256) := by simp [whereS, h1, h2, h3, h4, h5]
      rw [q]
      exact where_rom1 e f s br bf a A n cap w hg (by omega) h5 hbr.1 hbr.2
    · have q : whereS 2 f s br bf a = (5, (a - 32768) % 256 + br % 2 * 256) := by simp [whereS, h1, h2, h3, h4, h5]
      rw [q]
      exact where_rom2 e f s br bf a A n cap w hg (by omega) h5 hbr.1 hbr.2
  · rcases (by omega : nb = 1 ∨ nb = 2) with rfl | rfl
    · have q : whereS 1 f s br bf a = (5, (a - 49152) % 256) := by simp [whereS, h1, h2, h3, h4, h5]
      rw [q]
      exact where_fix1 e f s br bf a A n cap w hg (by omega) a1
    · have q : whereS 2 f s br bf a = (5, (a - 49152) % 256 + 256) := by simp [whereS, h1, h2, h3, h4, h5]
      rw [q]
      exact where_fix2 e f s br bf a A n cap w hg (by omega) a1
/-- Each place is one that is there. -/
theorem whereS_rng {nb f s br bf a : Int} (hn0 : 1 ≤ nb) (hn1 : nb ≤ 2) (hf0 : 0 ≤ f) (hf1 : f ≤ 2) (hs0 : 0 ≤ s) (hs1 : s ≤ 2) (hbr : By br) (a0 : 0 ≤ a) :
    ((whereS nb f s br bf a).1 = 0 ∧ (whereS nb f s br bf a).2 = 0) ∨ ((whereS nb f s br bf a).1 = 1 ∧ 0 ≤ (whereS nb f s br bf a).2 ∧ (whereS nb f s br bf a).2 < 2048) ∨
    ((whereS nb f s br bf a).1 = 2 ∧ 0 ≤ (whereS nb f s br bf a).2 ∧ (whereS nb f s br bf a).2 < 16) ∨ ((whereS nb f s br bf a).1 = 3 ∧ 1 ≤ s ∧ 0 ≤ (whereS nb f s br bf a).2 ∧ (whereS nb f s br bf a).2 < s * 64) ∨
    ((whereS nb f s br bf a).1 = 4 ∧ 1 ≤ f ∧ 0 ≤ (whereS nb f s br bf a).2 ∧ (whereS nb f s br bf a).2 < f * 256) ∨ ((whereS nb f s br bf a).1 = 5 ∧ 0 ≤ (whereS nb f s br bf a).2 ∧ (whereS nb f s br bf a).2 < nb * 256) := by
  have _ := a0
  have _ := hbr
  unfold whereS
  rcases (by omega : nb = 1 ∨ nb = 2) with rfl | rfl <;> rcases (by omega : f = 0 ∨ f = 1 ∨ f = 2) with rfl | rfl | rfl <;> rcases (by omega : s = 0 ∨ s = 1 ∨ s = 2) with rfl | rfl | rfl
  all_goals
    by_cases h1 : a < 8192
    · rw [if_pos h1]; exact Or.inr (Or.inl ⟨rfl, (by dsimp only; omega), (by dsimp only; omega)⟩)
    rw [if_neg h1]
    by_cases h2 : a < 16384
    · rw [if_pos h2]; exact Or.inr (Or.inr (Or.inl ⟨rfl, (by dsimp only; omega), (by dsimp only; omega)⟩))
    rw [if_neg h2]
    by_cases h3 : a < 24576
    · rw [if_pos h3]; simp; try omega
    rw [if_neg h3]
    by_cases h4 : a < 32768
    · rw [if_pos h4]; simp; try omega
    rw [if_neg h4]
    by_cases h5 : a < 49152
    · rw [if_pos h5]; exact Or.inr (Or.inr (Or.inr (Or.inr (Or.inr ⟨rfl, (by dsimp only; omega), (by dsimp only; omega)⟩))))
    rw [if_neg h5]; exact Or.inr (Or.inr (Or.inr (Or.inr (Or.inr ⟨rfl, (by dsimp only; omega), (by dsimp only; omega)⟩))))
end Go.Proofs.YtifajfjiloajfaaGreatDoor.OwnGeo
namespace Go.Proofs.YtifajfjiloajfaaGreatDoor.OwnGeo
open Go.RowKit Go.Proofs.YtifajfjiloajfaaGreatDoor.Own
theorem right74 (w : World) : Calls Tryz.prog 74 #[.int .i64 64] w fun x w' => x = .returned (.bool true) ∧ w' = w := by
  go_enter Tryz.func74, Tryz.ntmps74
  go_wp2
  all_goals
    go_ret
    exact ⟨rfl, rfl⟩
theorem sectors_64 (w : World) : Calls Tryz.prog 46 #[.int .i64 64, .int .i64 64] w fun x w' => x = .returned (.int .i64 1) ∧ w' = w := by
  have HR := Lib.hid right74
  go_enter Tryz.func46, Tryz.ntmps46
  go_wp2_with (go_at_call 74; refine (HR.out _).mono ?_; rintro x w' ⟨rfl, rfl⟩)
  all_goals
    go_ret
    exact ⟨rfl, rfl⟩
set_option maxHeartbeats 3200000 in
theorem span_64 (w : World) (h : GeoAt w) : Calls Tryz.prog 22 #[.int .i64 64, .agg #[.int .i64 0, .int .i64 0, .int .i64 1]] w fun x w' => x = .returned (.int .i64 2) ∧ Below w.heap.size w w' := by
  have HR := Lib.hid (fun w => right_any 0 0 1 w (by decide) (by decide) (by decide) (by decide) (by decide) (by decide))
  have HS := Lib.hid sectors_64
  have HT : Hid (∀ w, GeoAt w → Calls Tryz.prog 9 #[.agg #[.int .i64 0, .int .i64 0, .int .i64 1]] w fun x w' => x = .returned (.int .i64 64) ∧ Below w.heap.size w w') := Lib.hid (fun w h => total_any 0 0 1 w h ⟨by decide, by decide, by decide, by decide, by decide, by decide⟩)
  have HG := Lib.hid h
  have hb : Below w.heap.size w ((w.alloc (.cells #[.int .i64 0, .int .i64 0, .int .i64 1] 28)).alloc (.cells #[.int .i64 0, .int .i64 0, .int .i64 1] 28)) := ((Below.refl _ w).alloc (Nat.le_refl _) _).alloc (by simp) _
  have HB := Lib.hid hb
  clear h hb
  go_enter Tryz.func22, Tryz.ntmps22
  go_wp2_with (first
    | (go_at_call 32; refine (HR.out _).mono ?_; rintro x w' ⟨rfl, rfl⟩)
    | (go_at_call 9; (refine (HT.out _ (HG.out.below HB.out)).mono ?_; rintro x w2 ⟨rfl, hb2⟩; have HB2 := Lib.hid (HB.out.trans (hb2.mono HB.out.size)); clear hb2))
    | (go_at_call 46; refine (HS.out _).mono ?_; rintro x w' ⟨rfl, rfl⟩))
  all_goals
    go_ret
    exact ⟨rfl, HB2.out⟩
end Go.Proofs.YtifajfjiloajfaaGreatDoor.OwnGeo

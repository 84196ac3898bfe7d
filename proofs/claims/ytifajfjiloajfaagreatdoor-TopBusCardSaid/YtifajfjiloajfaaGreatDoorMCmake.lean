/- A cartridge's bytes put together. Conditions: one bank, no chips. · What an empty body would tell otherwise. Conditions: the table of kinds is as the program lays it; MaxLen is a number. -/
import Derived.Test.YtifajfjiloajfaaGreatDoorMCat
import Derived.Test.YtifajfjiloajfaaGreatDoorConP
import Derived.Lib.BufferWrite
import Derived.Lib.SlBuf
import Derived.Laws.CopyOwn
import Derived.Test.YtifajfjiloajfaaGreatDoorLawB
import Derived.Test.YtifajfjiloajfaaGreatDoorMWhere
namespace Go.Proofs.YtifajfjiloajfaaGreatDoor.OwnCon
open Go.RowKit Go.Proofs.YtifajfjiloajfaaGreatDoor.Own Go.Proofs.YtifajfjiloajfaaGreatDoor.OwnChip Go.Proofs.YtifajfjiloajfaaGreatDoor.OwnGeo
abbrev head0 : Array Value := #[.int .u8 0, .int .u8 0, .int .u8 0, .int .u8 0, .int .u8 0, .int .u8 0, .int .u8 0, .int .u8 0, .int .u8 0, .int .u8 0, .int .u8 0, .int .u8 0]
abbrev headA : Array Value := #[.int .u8 67, .int .u8 65, .int .u8 82, .int .u8 84, .int .u8 0, .int .u8 0, .int .u8 0, .int .u8 0, .int .u8 0, .int .u8 0, .int .u8 0, .int .u8 0]
theorem kept_setRow (w : World) (g : Nat) (cs : Array Value) : Kept (· = g) w (w.setRow g cs) :=
  ⟨rfl, rfl, rfl, by simp [World.setRow], fun k _ hk => setRow_other w g k cs hk⟩
theorem info5s : (Tryz.prog.info? 5).map (·.size) = some 1 := by kernel_rfl
theorem copy_str (w : World) (g : Nat) (h : Blk w g 107 head0) (ty : TypeId) : ∃ W, (Builtin.copy_ #[22, 9] ty #[.slice (some ⟨g, 0, none⟩) 12 12, .string { data := #[67, 65, 82, 84] }]).run Tryz.prog w = .ok (.int .i64 4) W ∧ Blk W g 107 headA ∧ Kept (· = g) w W := by
  have hr := Lib.run_copy_row_string (P := Tryz.prog) w 22 9 ty 5 g 0 12 12 { data := #[67, 65, 82, 84] } head0 107 Tryz.underlying22 info5s h (by decide) (by decide)
  exact ⟨_, hr, setRow_heap w g head0 headA 107 (0, 0) h, kept_setRow w g _⟩
theorem copy_six (w : World) (g r : Nat) (h : Blk w g 107 headA) (hr : Blk w r 5 #[.int .u8 1, .int .u8 8, .int .u8 1, .int .u8 0, .int .u8 0, .int .u8 0]) (ty : TypeId) : ∃ W, (Builtin.copy_ #[22, 22] ty #[.slice (some ⟨g, 4, none⟩) 8 8, .slice (some ⟨r, 0, none⟩) 6 6]).run Tryz.prog w = .ok (.int .i64 6) W ∧ Blk W g 107 headC ∧ Kept (· = g) w W := by
  have z := run_copy_row (P := Tryz.prog) w 22 22 ty 5 g 4 8 8 ⟨r, 0, none⟩ 6 6 headA 107 [.int .u8 1, .int .u8 8, .int .u8 1, .int .u8 0, .int .u8 0, .int .u8 0] Tryz.underlying22 info5s h rfl (fun j v hj => by
    rw [Addr.add_lit, Nat.zero_add, hr.cell j]
    rw [← hj]
    rcases j with _ | _ | _ | _ | _ | _ | j
    all_goals first | rfl | simp) (by decide) (by simp [Value.oneCell'])
  exact ⟨_, z, setRow_heap w g headA headC 107 (0, 0) h, kept_setRow w g _⟩
def CmRet (w : World) (e : Ending) (w' : World) : Prop := ∃ A cap, e = .returned (.tuple #[.slice A 272 cap, .int .i64 0]) ∧ Below w.heap.size w w'
theorem CmRet.mk {w w' : World} (A : Option Addr) (cap : Nat) (h : Below w.heap.size w w') : CmRet w (.returned (.tuple #[.slice A 272 cap, .int .i64 0])) w' := ⟨A, cap, rfl, h⟩
set_option maxHeartbeats 6400000 in
set_option maxRecDepth 100000 in
theorem cmake_any (rb cap0 : Nat) (w : World) (hs : OwnChip.Src 256 w rb 0) :
    Calls Tryz.prog 21 #[.agg #[.int .i64 8, .int .i64 1, .int .i64 0, .int .i64 0, .int .i64 0, .slice (some ⟨rb, 0, none⟩) 256 cap0]] w (CmRet w) := by
  have hg : Gm 0 0 0 := ⟨by decide, by decide, by decide, by decide, by decide, by decide⟩
  have HB := Lib.hid (fun w => bright_any 1 0 0 0 (some ⟨rb, 0, none⟩) 256 cap0 w (by decide) (by decide) hg)
  have HL := Lib.hid (fun w => long_any 1 0 0 0 (some ⟨rb, 0, none⟩) 256 cap0 w (by decide) (by decide) hg)
  have HG : Hid (∀ w3, Below (w.heap.size + 1) (w.alloc (.cells #[.int .i64 8, .int .i64 1, .int .i64 0, .int .i64 0, .int .i64 0, .slice (some ⟨rb, 0, none⟩) 256 cap0] 30)) w3 → (w3.cell? ⟨w.heap.size, 0, none⟩ = some (.int .i64 8) ∧ w3.cell? ⟨w.heap.size, 1, none⟩ = some (.int .i64 1) ∧ w3.cell? ⟨w.heap.size, 2, none⟩ = some (.int .i64 0) ∧ w3.cell? ⟨w.heap.size, 3, none⟩ = some (.int .i64 0) ∧ w3.cell? ⟨w.heap.size, 4, none⟩ = some (.int .i64 0) ∧ w3.cell? ⟨w.heap.size, 5, none⟩ = some (.slice (some ⟨rb, 0, none⟩) 256 cap0)) ∧ Below w.heap.size w w3 ∧ Blk w3 w.heap.size 30 #[.int .i64 8, .int .i64 1, .int .i64 0, .int .i64 0, .int .i64 0, .slice (some ⟨rb, 0, none⟩) 256 cap0]) := Lib.hid (fun w3 hb => by
    have B := (Blk.new w 30 #[.int .i64 8, .int .i64 1, .int .i64 0, .int .i64 0, .int .i64 0, .slice (some ⟨rb, 0, none⟩) 256 cap0]).below hb (by omega)
    have hb2 : Below w.heap.size w w3 := ((Below.refl _ w).alloc (Nat.le_refl _) _).trans (hb.mono (by omega))
    exact ⟨⟨(B.cell 0).trans rfl, (B.cell 1).trans rfl, (B.cell 2).trans rfl, (B.cell 3).trans rfl, (B.cell 4).trans rfl, (B.cell 5).trans rfl⟩, hb2, B⟩)
  have g0 := HG.out _ (Below.refl _ _).drew
  have hs0 := g0.1
  have HSRC := Lib.hid hs
  clear g0 hs hg
  go_enter Tryz.func21, Tryz.ntmps21
  go_wp2_with fail
  go_region_held3 (fun w' => w'.cell? ⟨w.heap.size, 0, none⟩ = some (.int .i64 8) ∧ w'.cell? ⟨w.heap.size, 1, none⟩ = some (.int .i64 1) ∧ w'.cell? ⟨w.heap.size, 2, none⟩ = some (.int .i64 0) ∧ w'.cell? ⟨w.heap.size, 3, none⟩ = some (.int .i64 0) ∧ w'.cell? ⟨w.heap.size, 4, none⟩ = some (.int .i64 0) ∧ w'.cell? ⟨w.heap.size, 5, none⟩ = some (.slice (some ⟨rb, 0, none⟩) 256 cap0)) (first | (with_reducible exact hs4) | (with_reducible exact hs3) | (with_reducible exact hs0) | go_keep)
    (first
      | (go_at_call 23; refine (HB.out _).mono ?_; rintro x w3 ⟨rfl, hb3⟩; have g3 := HG.out w3 ⟨hb3.os, hb3.tape, hb3.output, by have := hb3.size; simpa using this, fun k hk => hb3.block k (by simpa using hk)⟩; have hs3 := g3.1; have GB3 := Lib.hid g3.2; clear g3)
      | (go_at_call 24; refine (HL.out _).mono ?_; rintro x w4 ⟨rfl, hb4⟩; have hs4 := cells6 hb4 hs3; have GB4 := Lib.hid (And.intro (bel_trans GB3.out.1 hb4) (GB3.out.2.below hb4 GB3.out.2.lt)); clear hb4))
  clear hs0 hs3
  have hs5 := hs4
  obtain ⟨a0, a1, a2, a3, a4, a5⟩ := hs5
  clear hs4
  obtain ⟨WB, hWB⟩ : ∃ WB, WB = (w4.alloc (.cells #[.int .i64 0, .int .i64 0, .int .i64 0] 28)).alloc (.cells head0 107) := ⟨_, rfl⟩
  have bB : Below w4.heap.size w4 WB := by
    rw [hWB]
    exact ((Below.refl _ _).alloc (Nat.le_refl _) _).alloc (by simp) _
  have bhB : Blk WB (w4.heap.size + 1) 107 head0 := by
    rw [hWB]
    exact new_1 w4 _ 107 _
  have bgB : Blk WB w4.heap.size 28 #[.int .i64 0, .int .i64 0, .int .i64 0] := by
    rw [hWB]
    exact (Blk.new w4 28 _).alloc _
  have bcB := GB4.out.2.below bB GB4.out.2.lt
  have hwl := GB4.out.2.lt
  obtain ⟨WC, hr1, bhC, kC⟩ := copy_str WB (w4.heap.size + 1) bhB 3
  have bgC := kC.blk bgB (by omega)
  have bcC := kC.blk bcB (by omega)
  have c0 : WC.cell? ⟨w.heap.size, 0, none⟩ = some (.int .i64 8) := (bcC.cell 0).trans rfl
  have c1 : WC.cell? ⟨w.heap.size, 1, none⟩ = some (.int .i64 1) := (bcC.cell 1).trans rfl
  have c5 : WC.cell? ⟨w.heap.size, 5, none⟩ = some (.slice (some ⟨rb, 0, none⟩) 256 cap0) := (bcC.cell 5).trans rfl
  have e0 : WC.cell? ⟨w4.heap.size, 0, none⟩ = some (.int .i64 0) := (bgC.cell 0).trans rfl
  have e1 : WC.cell? ⟨w4.heap.size, 1, none⟩ = some (.int .i64 0) := (bgC.cell 1).trans rfl
  have e2 : WC.cell? ⟨w4.heap.size, 2, none⟩ = some (.int .i64 0) := (bgC.cell 2).trans rfl
  have hsB : WB.heap.size = w4.heap.size + 2 := by
    rw [hWB]
    simp
  have bC : Below w4.heap.size w4 WC := Kept.none_below ((Kept.below bB).trans (kC.mono (by rintro k - rfl; omega)))
  have HC := Lib.hid (And.intro bhC (And.intro bcC (And.intro bC (And.intro kC.size hsB))))
  rw [hWB] at hr1
  clear hWB bB bhB bgB bcB bhC kC bgC bcC bC hsB
  go_wp2_with fail
  clear hr1
  obtain ⟨WX, hWX⟩ : ∃ WX, WX = (WC.alloc (.cells #[.int .u8 1, .int .u8 (IntKind.u8.wrap 8), .int .u8 (IntKind.u8.wrap 1), .int .u8 (IntKind.u8.wrap 0), .int .u8 (IntKind.u8.wrap 0), .int .u8 (IntKind.u8.wrap 0)] 5)).drew := ⟨_, rfl⟩
  have bX : Below WC.heap.size WC WX := by
    rw [hWX]
    exact ((Below.refl _ WC).alloc (Nat.le_refl _) _).drew
  have bhX := HC.out.1.below bX HC.out.1.lt
  have brX : Blk WX WC.heap.size 5 #[.int .u8 1, .int .u8 8, .int .u8 1, .int .u8 0, .int .u8 0, .int .u8 0] := by
    rw [hWX]
    exact Blk.new WC 5 _
  obtain ⟨WD, hr2, bhD, kD⟩ := copy_six WX (w4.heap.size + 1) WC.heap.size bhX brX 3
  have bD : Below w4.heap.size w4 WD := Kept.none_below ((Kept.below (bel_trans HC.out.2.2.1 bX) : Kept (fun _ => False) w4 WX).trans (kD.mono (by rintro k - rfl; exact Or.inr (by omega))))
  have hbD := bel_trans GB4.out.1 bD
  have bcD := GB4.out.2.below bD GB4.out.2.lt
  have d5 : WD.cell? ⟨w.heap.size, 5, none⟩ = some (.slice (some ⟨rb, 0, none⟩) 256 cap0) := (bcD.cell 5).trans rfl
  have hsS : Hid (OwnChip.Src 256 WD rb 0) := Lib.hid (HSRC.out.below hbD)
  have HBD := Lib.hid hbD
  have HHD := Lib.hid bhD
  rw [hWX] at hr2
  have hs1 : WC.drew.cell? ⟨w.heap.size, 0, none⟩ = some (.int .i64 8) ∧ WC.drew.cell? ⟨w.heap.size, 1, none⟩ = some (.int .i64 1) ∧ WC.drew.cell? ⟨w4.heap.size, 0, none⟩ = some (.int .i64 0) ∧ WC.drew.cell? ⟨w4.heap.size, 1, none⟩ = some (.int .i64 0) ∧ WC.drew.cell? ⟨w4.heap.size, 2, none⟩ = some (.int .i64 0) := ⟨c0, c1, e0, e1, e2⟩
  have hsA : ∀ cs : Array Value, (WC.alloc (.cells cs 5)).drew.cell? ⟨w.heap.size, 0, none⟩ = some (.int .i64 8) ∧ (WC.alloc (.cells cs 5)).drew.cell? ⟨w.heap.size, 1, none⟩ = some (.int .i64 1) ∧ (WC.alloc (.cells cs 5)).drew.cell? ⟨w4.heap.size, 0, none⟩ = some (.int .i64 0) ∧ (WC.alloc (.cells cs 5)).drew.cell? ⟨w4.heap.size, 1, none⟩ = some (.int .i64 0) ∧ (WC.alloc (.cells cs 5)).drew.cell? ⟨w4.heap.size, 2, none⟩ = some (.int .i64 0) := fun cs => by
    have q : ∀ (a : Addr) v, WC.cell? a = some v → (WC.alloc (.cells cs 5)).drew.cell? a = some v := fun a v h => Lib.cell?_alloc_some _ h
    exact ⟨q _ _ c0, q _ _ c1, q _ _ e0, q _ _ e1, q _ _ e2⟩
  have hsD : WD.cell? ⟨w.heap.size, 0, none⟩ = some (.int .i64 8) ∧ WD.cell? ⟨w.heap.size, 1, none⟩ = some (.int .i64 1) ∧ WD.cell? ⟨w4.heap.size, 0, none⟩ = some (.int .i64 0) ∧ WD.cell? ⟨w4.heap.size, 1, none⟩ = some (.int .i64 0) ∧ WD.cell? ⟨w4.heap.size, 2, none⟩ = some (.int .i64 0) := by
    have q : ∀ b o v, b ≠ w4.heap.size + 1 → WC.cell? ⟨b, o, none⟩ = some v → WD.cell? ⟨b, o, none⟩ = some v := fun b o v hne h => by
      have hl := cell_lt h
      have e := kD.block b (by have := bX.size; omega) hne
      rw [cell_of e, hWX]
      exact Lib.cell?_alloc_some _ h
    exact ⟨q _ _ _ (by omega) c0, q _ _ _ (by omega) c1, q _ _ _ (by omega) e0, q _ _ _ (by omega) e1, q _ _ _ (by omega) e2⟩
  clear hWX bX bhX brX bhD kD bD hbD bcD c0 c1 e0 e1 e2 c5
  go_region_held3 (fun w' => w'.cell? ⟨w.heap.size, 0, none⟩ = some (.int .i64 8) ∧ w'.cell? ⟨w.heap.size, 1, none⟩ = some (.int .i64 1) ∧ w'.cell? ⟨w4.heap.size, 0, none⟩ = some (.int .i64 0) ∧ w'.cell? ⟨w4.heap.size, 1, none⟩ = some (.int .i64 0) ∧ w'.cell? ⟨w4.heap.size, 2, none⟩ = some (.int .i64 0)) (first | (with_reducible exact hs1) | (with_reducible exact hsD) | exact hsA _ | go_keep) (fail)
  have g0 : WD.cell? ⟨w4.heap.size + 1, 0, none⟩ = some (.int .u8 67) := (HHD.out.cell 0).trans rfl
  have g1 : WD.cell? ⟨w4.heap.size + 1, 1, none⟩ = some (.int .u8 65) := (HHD.out.cell 1).trans rfl
  have g2 : WD.cell? ⟨w4.heap.size + 1, 2, none⟩ = some (.int .u8 82) := (HHD.out.cell 2).trans rfl
  have g3 : WD.cell? ⟨w4.heap.size + 1, 3, none⟩ = some (.int .u8 84) := (HHD.out.cell 3).trans rfl
  have g4 : WD.cell? ⟨w4.heap.size + 1, 4, none⟩ = some (.int .u8 1) := (HHD.out.cell 4).trans rfl
  have g5 : WD.cell? ⟨w4.heap.size + 1, 5, none⟩ = some (.int .u8 8) := (HHD.out.cell 5).trans rfl
  have g6 : WD.cell? ⟨w4.heap.size + 1, 6, none⟩ = some (.int .u8 1) := (HHD.out.cell 6).trans rfl
  have g7 : WD.cell? ⟨w4.heap.size + 1, 7, none⟩ = some (.int .u8 0) := (HHD.out.cell 7).trans rfl
  have g8 : WD.cell? ⟨w4.heap.size + 1, 8, none⟩ = some (.int .u8 0) := (HHD.out.cell 8).trans rfl
  have g9 : WD.cell? ⟨w4.heap.size + 1, 9, none⟩ = some (.int .u8 0) := (HHD.out.cell 9).trans rfl
  have g10 : WD.cell? ⟨w4.heap.size + 1, 10, none⟩ = some (.int .u8 0) := (HHD.out.cell 10).trans rfl
  have g11 : WD.cell? ⟨w4.heap.size + 1, 11, none⟩ = some (.int .u8 0) := (HHD.out.cell 11).trans rfl
  have HSL := Lib.hid (seal_any rb cap0 WD hsS.out)
  clear hs1 hsA hsD hr2
  go_wp2_with (go_at_call 44; refine HSL.out.mono ?_; rintro e w5 ⟨z0, z1, z2, z3, rfl, hz, hb⟩; have HZ5 := Lib.hid hz; have HB5 := Lib.hid hb; have h5 := (hb.cell (cell_lt d5)).trans d5; clear hb hz)
  clear g0 g1 g2 g3 g4 g5 g6 g7 g8 g9 g10 g11 d5
  obtain ⟨WE, hWE⟩ : ∃ WE, WE = w5.alloc (.cells #[.int .u8 z0, .int .u8 z1, .int .u8 z2, .int .u8 z3] 108) := ⟨_, rfl⟩
  have bE : Below w5.heap.size w5 WE := by
    rw [hWE]
    exact (Below.refl _ _).alloc (Nat.le_refl _) _
  have blE : Blk WE w5.heap.size 108 #[.int .u8 z0, .int .u8 z1, .int .u8 z2, .int .u8 z3] := by
    rw [hWE]
    exact Blk.new _ _ _
  obtain ⟨WF, hWF⟩ : ∃ WF, WF = (WE.alloc (.cells #[.slice (some ⟨w4.heap.size + 1, 0, none⟩) 12 12, .slice (some ⟨w5.heap.size, 0, none⟩) 4 4, .slice (some ⟨rb, 0, none⟩) 256 cap0] 22)).drew := ⟨_, rfl⟩
  have bF : Below WE.heap.size WE WF := by
    rw [hWF]
    exact ((Below.refl _ _).alloc (Nat.le_refl _) _).drew
  have blF : Blk WF WE.heap.size 22 #[.slice (some ⟨w4.heap.size + 1, 0, none⟩) 12 12, .slice (some ⟨w5.heap.size, 0, none⟩) 4 4, .slice (some ⟨rb, 0, none⟩) 256 cap0] := by
    rw [hWF]
    exact Blk.new WE 22 _
  have bDF := bel_trans HB5.out (bel_trans bE bF)
  have HSF : Hid (OwnChip.Src 4 WF w5.heap.size 0) := Lib.hid (OwnChip.Src.below bF ⟨[z0, z1, z2, z3], rfl, HZ5.out, fun j hj => by
    rw [Nat.zero_add, blE.cell j]
    rcases j with _ | _ | _ | _ | j
    all_goals first | rfl | omega⟩)
  have HCC := Lib.hid (concat_any WE.heap.size (w4.heap.size + 1) w5.heap.size rb 12 4 cap0 3 WF ((blF.cell 0).trans rfl) ((blF.cell 1).trans rfl) ((blF.cell 2).trans rfl) ((src_head WD _ 107 HHD.out).below bDF) HSF.out (hsS.out.below bDF))
  have h5E : WE.cell? ⟨w.heap.size, 5, none⟩ = some (.slice (some ⟨rb, 0, none⟩) 256 cap0) := (bE.cell (cell_lt h5)).trans h5
  have hs1 : WE.drew.cell? ⟨w.heap.size, 5, none⟩ = some (.slice (some ⟨rb, 0, none⟩) 256 cap0) := h5E
  have hsA : WF.cell? ⟨w.heap.size, 5, none⟩ = some (.slice (some ⟨rb, 0, none⟩) 256 cap0) := (bF.cell (cell_lt h5E)).trans h5E
  have HBF := Lib.hid (bel_trans HBD.out bDF)
  have HWF := Lib.hid hWF
  rw [← hWE]
  clear bE blE bF blF bDF hWE hWF
  go_region_held3 (fun w' => w'.cell? ⟨w.heap.size, 5, none⟩ = some (.slice (some ⟨rb, 0, none⟩) 256 cap0)) (first | (with_reducible exact hs1) | (with_reducible exact hs6) | (rw [← HWF.out]; exact hsA) | go_keep)
    (first | (go_at_call 45; rw [← HWF.out]; (refine HCC.out.mono ?_; rintro e w6 ⟨A, cap, rfl, hb⟩; have HB6 := Lib.hid (bel_trans HBF.out hb); have hs6 := (hb.cell (cell_lt hsA)).trans hsA; clear hb)))
  go_wp2
  go_ret2
  exact CmRet.mk _ _ HB6.out
end Go.Proofs.YtifajfjiloajfaaGreatDoor.OwnCon
namespace Go.Proofs.YtifajfjiloajfaaGreatDoor.OwnCon
open Go.RowKit Go.Proofs.YtifajfjiloajfaaGreatDoor.Own Go.Proofs.YtifajfjiloajfaaGreatDoor.OwnChip Go.Proofs.YtifajfjiloajfaaGreatDoor.OwnCpu Go.Proofs.YtifajfjiloajfaaGreatDoor.OwnGeo
def EaRet (w : World) (e : Ending) (w' : World) : Prop := ∃ rb zs, e = .returned (.agg #[.int .i64 8, .int .i64 1, .int .i64 0, .int .i64 0, .int .i64 0, .slice (some ⟨rb, 0, none⟩) 256 256]) ∧ zs.length = 256 ∧ (∀ x ∈ zs, By x) ∧ Rm zs w' rb ∧ Below w.heap.size w w'
theorem ea_any (b cap : Nat) (W : World) (h : W.cell? ⟨b, 0, none⟩ = some (.int .u8 234)) : Calls Tryz.prog 6 #[.agg #[.bool false, .slice (some ⟨b, 0, none⟩) 1 cap, .int .u8 0, .int .u8 0, .int .u8 0]] W (EaRet W) := by
  have z := made_1 (some ⟨b, 0, none⟩) [234] cap 0 0 0 W ⟨fun x hx => by simp only [List.mem_cons, List.not_mem_nil, or_false] at hx; unfold By; omega, Or.inr ⟨rfl, fun j hj => by
    have : j = 0 := by simp at hj; omega
    subst this
    exact h⟩⟩ (by decide)
  refine z.mono ?_
  rintro e w' ⟨rb, rfl, -, h2, h3⟩
  obtain ⟨zs, z1, z2, z3⟩ := byt_list h2
  exact ⟨rb, zs, by simp [IntWalk.wrap64_in 0 (by omega)], z1, z2, z3, h3⟩
theorem rm_src {zs : List Int} {w : World} {b : Nat} (h : Rm zs w b) (hl : zs.length = 256) (hz : ∀ x ∈ zs, By x) : OwnChip.Src 256 w b 0 :=
  ⟨zs, hl, hz, fun j hj => by rw [Nat.zero_add]; exact h.2 j (by omega)⟩
theorem idle_first (v : Int) (b : Bool) : idleB (stepS newC resetL 56 v b).1 (stepS newC resetL 56 v b).2 = false := by
  simp [stepS, takeS, endS, idleB, newC, resetL]
set_option maxHeartbeats 6400000 in
set_option maxRecDepth 100000 in
theorem awake_any (w : World) (hgeo : GeoAt w) (hmx : ∃ m, w.cell? ⟨1, 0, none⟩ = some (.int .i64 m)) : Calls Tryz.prog 4 #[] w fun e w' => e = .returned (.bool true) ∧ Below w.heap.size w w' := by
  have hmx2 : ∀ W, Below w.heap.size w W → ∃ m, W.cell? ⟨1, 0, none⟩ = some (.int .i64 m) := fun W k => by
    obtain ⟨m, hm⟩ := hmx
    exact ⟨m, (cell_of (k.block 1 (cell_lt hm))).trans hm⟩
  have HMX := Lib.hid hmx2
  have HGEO := Lib.hid hgeo
  obtain ⟨W1, hW1⟩ : ∃ W1, W1 = w.alloc (.cells #[.int .u8 234] 5) := ⟨_, rfl⟩
  have k1 : Below w.heap.size w W1 := by
    rw [hW1]
    exact (Below.refl _ w).alloc (Nat.le_refl _) _
  have HE1 := Lib.hid (ea_any w.heap.size 1 W1 (by rw [hW1]; exact ((Blk.new w 5 _).cell 0).trans rfl))
  have K1 := Lib.hid k1
  have HW1 := Lib.hid hW1
  clear hmx2 hmx hgeo hW1 k1
  go_enter Tryz.func4, Tryz.ntmps4
  go_wp2_with (first
    | (go_at_call 6; (rw [← HW1.out]; refine HE1.out.mono ?_; rintro e w2 ⟨rb, zs, rfl, z1, z2, z3, hb⟩; have K2 := Lib.hid (bel_trans K1.out hb); have HON := Lib.hid (con_on_nil rb 256 zs w2 (HGEO.out.below K2.out) (HMX.out _ K2.out) z2 z1 z3); clear z1 z2 z3 hb))
    | (go_at_call 7; (refine HON.out.mono ?_; rintro e w3 ⟨K, τ, rfl, hcon, hk, hb, hlow⟩; have K3 := Lib.hid (bel_trans K2.out hb); have HCON := Lib.hid hcon; have HK := Lib.hid hk; have HLOW := Lib.hid (And.intro hlow K2.out.size); clear hcon hk hlow hb))
    | (go_at_call 99; fail))
  have hok := HCON.out.ok
  obtain ⟨⟨sr, sai⟩, hwh⟩ : ∃ x, OwnGeo.whereS K.nb K.f K.s K.br K.bf 0 = x := ⟨_, rfl⟩
  have hrng := OwnGeo.whereS_rng (nb := K.nb) (f := K.f) (s := K.s) (br := K.br) (bf := K.bf) (a := 0) (by have := hok.n0; omega) (by have := hok.n1; omega) (by omega) (by have := hok.f1; omega) (by omega) (by have := hok.s1; omega) hok.br (by omega)
  rw [hwh] at hrng
  simp only at hrng
  obtain ⟨sa, rfl⟩ : ∃ sa : Nat, sai = (sa : Int) := ⟨sai.toNat, by omega⟩
  have hst := con_step (i := 0) 0 by_0 HCON.out OwnCpu.Cs.new (by omega) 0 0 false rfl sr sa hwh K true (Or.inr ⟨rfl, rfl, rfl⟩)
  have HST := Lib.hid hst
  clear hok hwh hrng hst
  have HNEW : Hid (∀ w4 : World, ∀ v b τ1, Con τ1 w4 K (stepS newC resetL 56 v b).1 (stepS newC resetL 56 v b).2 true → Below w4.heap.size w4 ((w4.alloc (.cells #[.int .u16 0, .int .u8 0, .bool false] 44)).alloc (.cells #[.int .u8 234] 5)) ∧ (∃ τ2, Con τ2 ((w4.alloc (.cells #[.int .u16 0, .int .u8 0, .bool false] 44)).alloc (.cells #[.int .u8 234] 5)) K (stepS newC resetL 56 v b).1 (stepS newC resetL 56 v b).2 true) ∧ Calls Tryz.prog 6 #[.agg #[.bool false, .slice (some ⟨w4.heap.size + 1, 0, none⟩) 1 1, .int .u8 0, .int .u8 0, .int .u8 0]] ((w4.alloc (.cells #[.int .u16 0, .int .u8 0, .bool false] 44)).alloc (.cells #[.int .u8 234] 5)) (EaRet ((w4.alloc (.cells #[.int .u16 0, .int .u8 0, .bool false] 44)).alloc (.cells #[.int .u8 234] 5))) ∧ ((w4.alloc (.cells #[.int .u16 0, .int .u8 0, .bool false] 44)).alloc (.cells #[.int .u8 234] 5)).cell? ⟨w4.heap.size, 0, none⟩ = some (.int .u16 0)) := Lib.hid (fun w4 v b τ1 hc => by
    have bb : Below w4.heap.size w4 ((w4.alloc (.cells #[.int .u16 0, .int .u8 0, .bool false] 44)).alloc (.cells #[.int .u8 234] 5)) := ((Below.refl _ w4).alloc (Nat.le_refl _) _).alloc (by simp) _
    obtain ⟨c2, -⟩ := con_garb hc bb
    exact ⟨bb, ⟨_, c2⟩, ea_any _ 1 _ (((new_1 w4 _ 5 _).cell 0).trans rfl), ((((Blk.new w4 44 _).alloc _).cell 0).trans rfl)⟩)
  go_wp2_with (first
    | (go_at_call 11; (refine HST.out.mono ?_; rintro e w4 ⟨v, rfl, -, -, -, b, -, τ1, h1, g1⟩; have K4 := Lib.hid (Goes.base g1 K3.out (fun j hj => HLOW.out.1 j (Nat.lt_of_lt_of_le hj HLOW.out.2))); obtain ⟨n1, ⟨τ2, n2⟩, n3, n4⟩ := HNEW.out w4 v b τ1 h1; have K5 := Lib.hid (bel_trans K4.out n1); have HE2 := Lib.hid n3; have HC5 := Lib.hid n2; have T5 := Lib.hid n4; clear h1 g1 n1 n2 n3 n4))
    | (go_at_call 6; (refine HE2.out.mono ?_; rintro e w6 ⟨rb2, zs2, rfl, z1, z2, z3, hb⟩; have K6 := Lib.hid (bel_trans K5.out hb); obtain ⟨c6, -⟩ := con_garb HC5.out hb; have HC6 := Lib.hid c6; have T6 := Lib.hid ((hb.cell (cell_lt T5.out)).trans T5.out); have HCM := Lib.hid (cmake_any rb2 256 w6 (rm_src z3 z1 z2)); clear z1 z2 z3 hb c6))
    | (go_at_call 21; (refine HCM.out.mono ?_; rintro e w7 ⟨A2, cap2, rfl, hb⟩; have K7 := Lib.hid (bel_trans K6.out hb); obtain ⟨c7, -⟩ := con_garb HC6.out hb; have q := con_idle c7; rw [idle_first] at q; have HID := Lib.hid q; have t7 := (hb.cell (cell_lt T6.out)).trans T6.out; have HSP := Lib.hid (span_64 w7 (HGEO.out.below K7.out)); clear hb c7 q))
    | (go_at_call 17; (refine HID.out.mono ?_; rintro e w8 ⟨rfl, rfl⟩))
    | (go_at_call 22; (refine HSP.out.mono ?_; rintro e w9 ⟨rfl, hb⟩; have K9 := Lib.hid (bel_trans K7.out hb); clear hb)))
  go_ret
  exact ⟨rfl, K9.out⟩
/-- THE LAW. -/
theorem bus_law (two : Bool) (A B : Option Addr) (gs bs : List Int) (capA capB : Nat) (eb fb sb : Int) (nn : Nat) (u : Int) (w : World) (hA : Bs w A gs) (hB : Bs w B bs) (heb : By eb) (hfb : By fb) (hsb : By sb) (hn : nn < 256) (hu : By u) (hgeo : GeoAt w) (hmx : ∃ m, w.cell? ⟨1, 0, none⟩ = some (.int .i64 m)) :
    Calls Tryz.prog 3 #[.agg #[.bool two, .slice A gs.length capA, .int .u8 eb, .int .u8 fb, .int .u8 sb], .slice B bs.length capB, .int .u8 (nn : Int), .int .u8 u] w fun e w' => e = .returned (.bool true) ∧ Below w.heap.size w w' := by
  cases two with
  | false => exact bus_any false 1 (Or.inl ⟨rfl, rfl⟩) A B gs bs capA capB eb fb sb nn u w hA hB heb hfb hsb hn hu hgeo hmx awake_any
  | true => exact bus_any true 2 (Or.inr ⟨rfl, rfl⟩) A B gs bs capA capB eb fb sb nn u w hA hB heb hfb hsb hn hu hgeo hmx awake_any
end Go.Proofs.YtifajfjiloajfaaGreatDoor.OwnCon

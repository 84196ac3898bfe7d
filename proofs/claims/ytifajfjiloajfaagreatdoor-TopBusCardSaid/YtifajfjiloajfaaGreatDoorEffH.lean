/- What an opcode that modifies does. Conditions: bytes are bytes. -/
import Derived.Test.YtifajfjiloajfaaGreatDoorMEffE
import Derived.Deep.RegionHeld3
import Derived.Deep.RegionLaw
namespace Go.Proofs.YtifajfjiloajfaaGreatDoor.OwnEff
open Go.RowKit Go.Proofs.YtifajfjiloajfaaGreatDoor.Own

theorem info194 : (Tryz.prog.info? 194).map (fun i => (i.zero, i.size, i.bytes)) = some (some (.agg #[.string ⟨#[]⟩, .string ⟨#[]⟩]), 2, 32) := by kernel_rfl
def bothT : List (ByteArray × Value) := [(⟨#[83, 76, 79]⟩, .agg #[.string ⟨#[65, 83, 76]⟩, .string ⟨#[79, 82, 65]⟩]), (⟨#[82, 76, 65]⟩, .agg #[.string ⟨#[82, 79, 76]⟩, .string ⟨#[65, 78, 68]⟩]), (⟨#[83, 82, 69]⟩, .agg #[.string ⟨#[76, 83, 82]⟩, .string ⟨#[69, 79, 82]⟩]), (⟨#[82, 82, 65]⟩, .agg #[.string ⟨#[82, 79, 82]⟩, .string ⟨#[65, 68, 67]⟩])]
theorem both_laid (W : World) (n : ByteArray) (v : Option Value) (hat : atName n.toList bothT = v) : ∃ O0 O1 O2 O3 O4 : Obj, (Instr.makeMap 195 none).run Tryz.prog W = .ok (.map (some W.heap.size)) (W.alloc O0) ∧
    (Instr.mapUpdate 195 (.map (some W.heap.size)) (.string ⟨#[83, 76, 79]⟩) (.agg #[.string ⟨#[65, 83, 76]⟩, .string ⟨#[79, 82, 65]⟩])).run Tryz.prog (W.alloc O0) = .ok () (W.alloc O1) ∧
    (Instr.mapUpdate 195 (.map (some W.heap.size)) (.string ⟨#[82, 76, 65]⟩) (.agg #[.string ⟨#[82, 79, 76]⟩, .string ⟨#[65, 78, 68]⟩])).run Tryz.prog (W.alloc O1) = .ok () (W.alloc O2) ∧
    (Instr.mapUpdate 195 (.map (some W.heap.size)) (.string ⟨#[83, 82, 69]⟩) (.agg #[.string ⟨#[76, 83, 82]⟩, .string ⟨#[69, 79, 82]⟩])).run Tryz.prog (W.alloc O2) = .ok () (W.alloc O3) ∧
    (Instr.mapUpdate 195 (.map (some W.heap.size)) (.string ⟨#[82, 82, 65]⟩) (.agg #[.string ⟨#[82, 79, 82]⟩, .string ⟨#[65, 68, 67]⟩])).run Tryz.prog (W.alloc O3) = .ok () (W.alloc O4) ∧
    (Instr.lookup 195 (.map (some W.heap.size)) (.string n) false).run Tryz.prog (W.alloc O4) = .ok (v.getD (.agg #[.string ⟨#[]⟩, .string ⟨#[]⟩])) (W.alloc O4) := by
  obtain ⟨i0, hi, hz0, _, _⟩ := info_parts info194
  have hlk := (name_run (P := Tryz.prog) (w := (W.alloc (.map (ents bothT 0).toArray 4))) 195 _ _ bothT 4 W.heap.size n i0 (.agg #[.string ⟨#[]⟩, .string ⟨#[]⟩]) Tryz.underlying195 Tryz.underlying9 hi hz0 (heap_alloc_new W _)).1
  rw [hat] at hlk
  have hmm := @run_makeMap Tryz.prog 195 W
  have l0 := lay_run (P := Tryz.prog) (w := W) 195 _ _ ([] : List (ByteArray × Value)) (⟨#[83, 76, 79]⟩) (.agg #[.string ⟨#[65, 83, 76]⟩, .string ⟨#[79, 82, 65]⟩]) Tryz.underlying195 Tryz.underlying9 (by simp [atName])
  replace l0 : (Instr.mapUpdate 195 (.map (some W.heap.size)) (.string ⟨#[83, 76, 79]⟩) (.agg #[.string ⟨#[65, 83, 76]⟩, .string ⟨#[79, 82, 65]⟩])).run Tryz.prog (W.alloc (.map #[] 0)) = .ok () (W.alloc (.map (ents ([(⟨#[83, 76, 79]⟩, .agg #[.string ⟨#[65, 83, 76]⟩, .string ⟨#[79, 82, 65]⟩])] : List (ByteArray × Value)) 0).toArray 1)) := l0
  have l1 := lay_run (P := Tryz.prog) (w := W) 195 _ _ ([(⟨#[83, 76, 79]⟩, .agg #[.string ⟨#[65, 83, 76]⟩, .string ⟨#[79, 82, 65]⟩])] : List (ByteArray × Value)) (⟨#[82, 76, 65]⟩) (.agg #[.string ⟨#[82, 79, 76]⟩, .string ⟨#[65, 78, 68]⟩]) Tryz.underlying195 Tryz.underlying9 (by simp [atName, Lib.toList_data])
  replace l1 : (Instr.mapUpdate 195 (.map (some W.heap.size)) (.string ⟨#[82, 76, 65]⟩) (.agg #[.string ⟨#[82, 79, 76]⟩, .string ⟨#[65, 78, 68]⟩])).run Tryz.prog (W.alloc (.map (ents ([(⟨#[83, 76, 79]⟩, .agg #[.string ⟨#[65, 83, 76]⟩, .string ⟨#[79, 82, 65]⟩])] : List (ByteArray × Value)) 0).toArray 1)) = .ok () (W.alloc (.map (ents ([(⟨#[83, 76, 79]⟩, .agg #[.string ⟨#[65, 83, 76]⟩, .string ⟨#[79, 82, 65]⟩]), (⟨#[82, 76, 65]⟩, .agg #[.string ⟨#[82, 79, 76]⟩, .string ⟨#[65, 78, 68]⟩])] : List (ByteArray × Value)) 0).toArray 2)) := l1
  have l2 := lay_run (P := Tryz.prog) (w := W) 195 _ _ ([(⟨#[83, 76, 79]⟩, .agg #[.string ⟨#[65, 83, 76]⟩, .string ⟨#[79, 82, 65]⟩]), (⟨#[82, 76, 65]⟩, .agg #[.string ⟨#[82, 79, 76]⟩, .string ⟨#[65, 78, 68]⟩])] : List (ByteArray × Value)) (⟨#[83, 82, 69]⟩) (.agg #[.string ⟨#[76, 83, 82]⟩, .string ⟨#[69, 79, 82]⟩]) Tryz.underlying195 Tryz.underlying9 (by simp [atName, Lib.toList_data])
  replace l2 : (Instr.mapUpdate 195 (.map (some W.heap.size)) (.string ⟨#[83, 82, 69]⟩) (.agg #[.string ⟨#[76, 83, 82]⟩, .string ⟨#[69, 79, 82]⟩])).run Tryz.prog (W.alloc (.map (ents ([(⟨#[83, 76, 79]⟩, .agg #[.string ⟨#[65, 83, 76]⟩, .string ⟨#[79, 82, 65]⟩]), (⟨#[82, 76, 65]⟩, .agg #[.string ⟨#[82, 79, 76]⟩, .string ⟨#[65, 78, 68]⟩])] : List (ByteArray × Value)) 0).toArray 2)) = .ok () (W.alloc (.map (ents ([(⟨#[83, 76, 79]⟩, .agg #[.string ⟨#[65, 83, 76]⟩, .string ⟨#[79, 82, 65]⟩]), (⟨#[82, 76, 65]⟩, .agg #[.string ⟨#[82, 79, 76]⟩, .string ⟨#[65, 78, 68]⟩]), (⟨#[83, 82, 69]⟩, .agg #[.string ⟨#[76, 83, 82]⟩, .string ⟨#[69, 79, 82]⟩])] : List (ByteArray × Value)) 0).toArray 3)) := l2
  have l3 := lay_run (P := Tryz.prog) (w := W) 195 _ _ ([(⟨#[83, 76, 79]⟩, .agg #[.string ⟨#[65, 83, 76]⟩, .string ⟨#[79, 82, 65]⟩]), (⟨#[82, 76, 65]⟩, .agg #[.string ⟨#[82, 79, 76]⟩, .string ⟨#[65, 78, 68]⟩]), (⟨#[83, 82, 69]⟩, .agg #[.string ⟨#[76, 83, 82]⟩, .string ⟨#[69, 79, 82]⟩])] : List (ByteArray × Value)) (⟨#[82, 82, 65]⟩) (.agg #[.string ⟨#[82, 79, 82]⟩, .string ⟨#[65, 68, 67]⟩]) Tryz.underlying195 Tryz.underlying9 (by simp [atName, Lib.toList_data])
  replace l3 : (Instr.mapUpdate 195 (.map (some W.heap.size)) (.string ⟨#[82, 82, 65]⟩) (.agg #[.string ⟨#[82, 79, 82]⟩, .string ⟨#[65, 68, 67]⟩])).run Tryz.prog (W.alloc (.map (ents ([(⟨#[83, 76, 79]⟩, .agg #[.string ⟨#[65, 83, 76]⟩, .string ⟨#[79, 82, 65]⟩]), (⟨#[82, 76, 65]⟩, .agg #[.string ⟨#[82, 79, 76]⟩, .string ⟨#[65, 78, 68]⟩]), (⟨#[83, 82, 69]⟩, .agg #[.string ⟨#[76, 83, 82]⟩, .string ⟨#[69, 79, 82]⟩])] : List (ByteArray × Value)) 0).toArray 3)) = .ok () (W.alloc (.map (ents ([(⟨#[83, 76, 79]⟩, .agg #[.string ⟨#[65, 83, 76]⟩, .string ⟨#[79, 82, 65]⟩]), (⟨#[82, 76, 65]⟩, .agg #[.string ⟨#[82, 79, 76]⟩, .string ⟨#[65, 78, 68]⟩]), (⟨#[83, 82, 69]⟩, .agg #[.string ⟨#[76, 83, 82]⟩, .string ⟨#[69, 79, 82]⟩]), (⟨#[82, 82, 65]⟩, .agg #[.string ⟨#[82, 79, 82]⟩, .string ⟨#[65, 68, 67]⟩])] : List (ByteArray × Value)) 0).toArray 4)) := l3
  exact ⟨_, _, _, _, _, hmm, l0, l1, l2, l3, hlk⟩
theorem reg3 (w w3 : World) (ra rx ry rs rp rpc m : Int) (hb3 : Below (w.heap.size + 3) (((w.alloc (.cells #[.int .u8 ra, .int .u8 rx, .int .u8 ry, .int .u8 rs, .int .u8 rp, .int .u16 rpc] 57)).alloc (.cells #[.int .u8 m] 5)).alloc (.cells #[.int .u8 0, .int .u8 0, .int .u8 0, .int .u8 0, .int .u8 0, .int .u16 0] 57)) w3) :
    Blk w3 w.heap.size 57 #[.int .u8 ra, .int .u8 rx, .int .u8 ry, .int .u8 rs, .int .u8 rp, .int .u16 rpc] ∧ Blk w3 (w.heap.size + 1) 5 #[.int .u8 m] ∧ Blk w3 (w.heap.size + 2) 57 #[.int .u8 0, .int .u8 0, .int .u8 0, .int .u8 0, .int .u8 0, .int .u16 0] ∧ Below w.heap.size w w3 := by
  refine ⟨(((Blk.new w 57 _).alloc _).alloc _).below hb3 (by omega), ?_, ?_, ?_⟩
  · have h := (Blk.new (w.alloc (.cells #[.int .u8 ra, .int .u8 rx, .int .u8 ry, .int .u8 rs, .int .u8 rp, .int .u16 rpc] 57)) 5 #[.int .u8 m]).alloc (.cells #[.int .u8 0, .int .u8 0, .int .u8 0, .int .u8 0, .int .u8 0, .int .u16 0] 57)
    simp only [World.size_alloc] at h
    exact h.below hb3 (by omega)
  · have h := Blk.new ((w.alloc (.cells #[.int .u8 ra, .int .u8 rx, .int .u8 ry, .int .u8 rs, .int .u8 rp, .int .u16 rpc] 57)).alloc (.cells #[.int .u8 m] 5)) 57 #[.int .u8 0, .int .u8 0, .int .u8 0, .int .u8 0, .int .u8 0, .int .u16 0]
    simp only [World.size_alloc] at h
    exact h.below hb3 (by omega)
  · exact ((((Below.refl _ w).alloc (Nat.le_refl _) _).alloc (by simp) _).alloc (by simp; omega) _).trans (hb3.mono (by omega))
theorem cells6 {w : World} {g : Nat} {a x y s p q : Int} (h : Blk w g 57 #[.int .u8 a, .int .u8 x, .int .u8 y, .int .u8 s, .int .u8 p, .int .u16 q]) :
    (w.cell? ⟨g, 0, none⟩ = some (.int .u8 a) ∧ w.cell? ⟨g, 1, none⟩ = some (.int .u8 x) ∧ w.cell? ⟨g, 2, none⟩ = some (.int .u8 y) ∧ w.cell? ⟨g, 3, none⟩ = some (.int .u8 s) ∧ w.cell? ⟨g, 4, none⟩ = some (.int .u8 p) ∧ w.cell? ⟨g, 5, none⟩ = some (.int .u16 q)) ∧
    w.frozen? ⟨g, 0, none⟩ = false ∧ w.frozen? ⟨g, 1, none⟩ = false ∧ w.frozen? ⟨g, 2, none⟩ = false ∧ w.frozen? ⟨g, 3, none⟩ = false ∧ w.frozen? ⟨g, 4, none⟩ = false ∧ w.frozen? ⟨g, 5, none⟩ = false :=
  ⟨⟨(h.cell 0).trans rfl, (h.cell 1).trans rfl, (h.cell 2).trans rfl, (h.cell 3).trans rfl, (h.cell 4).trans rfl, (h.cell 5).trans rfl⟩, h.frozen 0, h.frozen 1, h.frozen 2, h.frozen 3, h.frozen 4, h.frozen 5⟩
theorem cells1 {w : World} {g : Nat} {m : Int} (h : Blk w g 5 #[.int .u8 m]) : w.cell? ⟨g, 0, none⟩ = some (.int .u8 m) ∧ w.frozen? ⟨g, 0, none⟩ = false := ⟨(h.cell 0).trans rfl, h.frozen 0⟩
set_option maxHeartbeats 12800000 in
set_option maxRecDepth 100000 in
theorem mod_asl (n : ByteArray) (r : R) (m : Int) (w : World) (hr : r.ok) (hm : By m) (hat : atName n.toList bothT = none) (hsh : (atName n.toList shiftT).getD .nilFunc = .func (.func 197) #[] #[]) :
    Calls Tryz.prog 170 #[.string n, r.val, .int .u8 m] w fun e w' => e = .returned (.tuple #[(R.mk r.a r.x r.y r.s (aslF m r.p) r.pc).val, .int .u8 (aslV m)]) ∧ Below w.heap.size w w' := by
  obtain ⟨ra, rx, ry, rs, rp, rpc⟩ := r
  have hr0 := hr
  obtain ⟨ha, hx, hy, hs, hp, hq⟩ := hr
  obtain ⟨O0, O1, O2, O3, OA, hmm, l0, l1, l2, l3, hlk⟩ := both_laid (((w.alloc (.cells #[.int .u8 ra, .int .u8 rx, .int .u8 ry, .int .u8 rs, .int .u8 rp, .int .u16 rpc] 57)).alloc (.cells #[.int .u8 m] 5)).alloc (.cells #[.int .u8 0, .int .u8 0, .int .u8 0, .int .u8 0, .int .u8 0, .int .u16 0] 57)) n _ hat
  replace hlk : (Instr.lookup 195 (.map (some (((w.alloc (.cells #[.int .u8 ra, .int .u8 rx, .int .u8 ry, .int .u8 rs, .int .u8 rp, .int .u16 rpc] 57)).alloc (.cells #[.int .u8 m] 5)).alloc (.cells #[.int .u8 0, .int .u8 0, .int .u8 0, .int .u8 0, .int .u8 0, .int .u16 0] 57)).heap.size)) (.string n) false).run Tryz.prog ((((w.alloc (.cells #[.int .u8 ra, .int .u8 rx, .int .u8 ry, .int .u8 rs, .int .u8 rp, .int .u16 rpc] 57)).alloc (.cells #[.int .u8 m] 5)).alloc (.cells #[.int .u8 0, .int .u8 0, .int .u8 0, .int .u8 0, .int .u8 0, .int .u16 0] 57)).alloc OA) = .ok (.agg #[.string ⟨#[]⟩, .string ⟨#[]⟩]) ((((w.alloc (.cells #[.int .u8 ra, .int .u8 rx, .int .u8 ry, .int .u8 rs, .int .u8 rp, .int .u16 rpc] 57)).alloc (.cells #[.int .u8 m] 5)).alloc (.cells #[.int .u8 0, .int .u8 0, .int .u8 0, .int .u8 0, .int .u8 0, .int .u16 0] 57)).alloc OA) := hlk
  simp only [World.size_alloc] at hmm l0 l1 l2 l3 hlk
  have HX := Lib.hid (fun (w3 : World) (hb3 : Below ((((w.alloc (.cells #[.int .u8 ra, .int .u8 rx, .int .u8 ry, .int .u8 rs, .int .u8 rp, .int .u16 rpc] 57)).alloc (.cells #[.int .u8 m] 5)).alloc (.cells #[.int .u8 0, .int .u8 0, .int .u8 0, .int .u8 0, .int .u8 0, .int .u16 0] 57)).alloc OA).heap.size ((((w.alloc (.cells #[.int .u8 ra, .int .u8 rx, .int .u8 ry, .int .u8 rs, .int .u8 rp, .int .u16 rpc] 57)).alloc (.cells #[.int .u8 m] 5)).alloc (.cells #[.int .u8 0, .int .u8 0, .int .u8 0, .int .u8 0, .int .u8 0, .int .u16 0] 57)).alloc OA) w3) => reg3 w w3 ra rx ry rs rp rpc m (((Below.refl _ _).alloc (by simp) OA).trans (hb3.mono (by simp))))
  have HY := Lib.hid (fun (w3 : World) (cs : Array Value) (t : TypeId) (hb3 : Below (((((w.alloc (.cells #[.int .u8 ra, .int .u8 rx, .int .u8 ry, .int .u8 rs, .int .u8 rp, .int .u16 rpc] 57)).alloc (.cells #[.int .u8 m] 5)).alloc (.cells #[.int .u8 0, .int .u8 0, .int .u8 0, .int .u8 0, .int .u8 0, .int .u16 0] 57)).alloc OA).alloc (.cells cs t)).heap.size (((((w.alloc (.cells #[.int .u8 ra, .int .u8 rx, .int .u8 ry, .int .u8 rs, .int .u8 rp, .int .u16 rpc] 57)).alloc (.cells #[.int .u8 m] 5)).alloc (.cells #[.int .u8 0, .int .u8 0, .int .u8 0, .int .u8 0, .int .u8 0, .int .u16 0] 57)).alloc OA).alloc (.cells cs t)) w3) => reg3 w w3 ra rx ry rs rp rpc m ((((Below.refl _ _).alloc (by simp) OA).alloc (by simp) _).trans (hb3.mono (by simp))))
  have HSh : Hid (∀ w, Calls Tryz.prog 186 #[.string n] w fun e w' => e = .returned (.func (.func 197) #[] #[]) ∧ Below w.heap.size w w') := Lib.hid (fun w => by have h := shift_any n w; rw [hsh] at h; exact h)
  have hnN := neqN
  have hnF := neqF
  have HL := Lib.hid (fun w => asl_any m rp w hm hp)
  clear hsh
  simp only [R.val]
  go_enter Tryz.func170, Tryz.ntmps170
  go_wp2_with (first
    | (go_at_call 186; refine (HSh.out _).mono ?_; rintro e w3 ⟨rfl, hb3⟩; obtain ⟨A1, A2, A3, hb⟩ := HY.out w3 _ _ ⟨hb3.os, hb3.tape, hb3.output, hb3.size, hb3.block⟩; obtain ⟨⟨K0, K1, K2, K3, K4, K5⟩, F0, F1, F2, F3, F4, F5⟩ := cells6 A1; obtain ⟨K6, F6⟩ := cells1 A2; obtain ⟨⟨Z0, Z1, Z2, Z3, Z4, Z5⟩, G0, G1, G2, G3, G4, G5⟩ := cells6 A3; clear A1 A2 A3)
    | (go_at_call 197; refine (HL.out _).mono ?_; rintro e w' ⟨rfl, rfl⟩))
  go_region
  all_goals go_wp2
  all_goals
    refine bodyPost_ret (v := .tuple #[(.agg #[.int .u8 (ra), .int .u8 (rx), .int .u8 (ry), .int .u8 (rs), .int .u8 (aslF m rp), .int .u16 (rpc)]), .int .u8 (aslV m)]) ?_ rfl ⟨rfl, ?_⟩
    · simp [results, Tryz.results170, go_sem, *]
    · refine Below.drew ?_
      repeat (refine Below.setCell ?_ (by first | (simp; done) | (simp; omega)) _)
      exact hb
set_option maxHeartbeats 12800000 in
set_option maxRecDepth 100000 in
theorem mod_lsr (n : ByteArray) (r : R) (m : Int) (w : World) (hr : r.ok) (hm : By m) (hat : atName n.toList bothT = none) (hsh : (atName n.toList shiftT).getD .nilFunc = .func (.func 198) #[] #[]) :
    Calls Tryz.prog 170 #[.string n, r.val, .int .u8 m] w fun e w' => e = .returned (.tuple #[(R.mk r.a r.x r.y r.s (lsrF m r.p) r.pc).val, .int .u8 (lsrV m)]) ∧ Below w.heap.size w w' := by
  obtain ⟨ra, rx, ry, rs, rp, rpc⟩ := r
  have hr0 := hr
  obtain ⟨ha, hx, hy, hs, hp, hq⟩ := hr
  obtain ⟨O0, O1, O2, O3, OA, hmm, l0, l1, l2, l3, hlk⟩ := both_laid (((w.alloc (.cells #[.int .u8 ra, .int .u8 rx, .int .u8 ry, .int .u8 rs, .int .u8 rp, .int .u16 rpc] 57)).alloc (.cells #[.int .u8 m] 5)).alloc (.cells #[.int .u8 0, .int .u8 0, .int .u8 0, .int .u8 0, .int .u8 0, .int .u16 0] 57)) n _ hat
  replace hlk : (Instr.lookup 195 (.map (some (((w.alloc (.cells #[.int .u8 ra, .int .u8 rx, .int .u8 ry, .int .u8 rs, .int .u8 rp, .int .u16 rpc] 57)).alloc (.cells #[.int .u8 m] 5)).alloc (.cells #[.int .u8 0, .int .u8 0, .int .u8 0, .int .u8 0, .int .u8 0, .int .u16 0] 57)).heap.size)) (.string n) false).run Tryz.prog ((((w.alloc (.cells #[.int .u8 ra, .int .u8 rx, .int .u8 ry, .int .u8 rs, .int .u8 rp, .int .u16 rpc] 57)).alloc (.cells #[.int .u8 m] 5)).alloc (.cells #[.int .u8 0, .int .u8 0, .int .u8 0, .int .u8 0, .int .u8 0, .int .u16 0] 57)).alloc OA) = .ok (.agg #[.string ⟨#[]⟩, .string ⟨#[]⟩]) ((((w.alloc (.cells #[.int .u8 ra, .int .u8 rx, .int .u8 ry, .int .u8 rs, .int .u8 rp, .int .u16 rpc] 57)).alloc (.cells #[.int .u8 m] 5)).alloc (.cells #[.int .u8 0, .int .u8 0, .int .u8 0, .int .u8 0, .int .u8 0, .int .u16 0] 57)).alloc OA) := hlk
  simp only [World.size_alloc] at hmm l0 l1 l2 l3 hlk
  have HX := Lib.hid (fun (w3 : World) (hb3 : Below ((((w.alloc (.cells #[.int .u8 ra, .int .u8 rx, .int .u8 ry, .int .u8 rs, .int .u8 rp, .int .u16 rpc] 57)).alloc (.cells #[.int .u8 m] 5)).alloc (.cells #[.int .u8 0, .int .u8 0, .int .u8 0, .int .u8 0, .int .u8 0, .int .u16 0] 57)).alloc OA).heap.size ((((w.alloc (.cells #[.int .u8 ra, .int .u8 rx, .int .u8 ry, .int .u8 rs, .int .u8 rp, .int .u16 rpc] 57)).alloc (.cells #[.int .u8 m] 5)).alloc (.cells #[.int .u8 0, .int .u8 0, .int .u8 0, .int .u8 0, .int .u8 0, .int .u16 0] 57)).alloc OA) w3) => reg3 w w3 ra rx ry rs rp rpc m (((Below.refl _ _).alloc (by simp) OA).trans (hb3.mono (by simp))))
  have HY := Lib.hid (fun (w3 : World) (cs : Array Value) (t : TypeId) (hb3 : Below (((((w.alloc (.cells #[.int .u8 ra, .int .u8 rx, .int .u8 ry, .int .u8 rs, .int .u8 rp, .int .u16 rpc] 57)).alloc (.cells #[.int .u8 m] 5)).alloc (.cells #[.int .u8 0, .int .u8 0, .int .u8 0, .int .u8 0, .int .u8 0, .int .u16 0] 57)).alloc OA).alloc (.cells cs t)).heap.size (((((w.alloc (.cells #[.int .u8 ra, .int .u8 rx, .int .u8 ry, .int .u8 rs, .int .u8 rp, .int .u16 rpc] 57)).alloc (.cells #[.int .u8 m] 5)).alloc (.cells #[.int .u8 0, .int .u8 0, .int .u8 0, .int .u8 0, .int .u8 0, .int .u16 0] 57)).alloc OA).alloc (.cells cs t)) w3) => reg3 w w3 ra rx ry rs rp rpc m ((((Below.refl _ _).alloc (by simp) OA).alloc (by simp) _).trans (hb3.mono (by simp))))
  have HSh : Hid (∀ w, Calls Tryz.prog 186 #[.string n] w fun e w' => e = .returned (.func (.func 198) #[] #[]) ∧ Below w.heap.size w w') := Lib.hid (fun w => by have h := shift_any n w; rw [hsh] at h; exact h)
  have hnN := neqN
  have hnF := neqF
  have HL := Lib.hid (fun w => lsr_any m rp w hm hp)
  clear hsh
  simp only [R.val]
  go_enter Tryz.func170, Tryz.ntmps170
  go_wp2_with (first
    | (go_at_call 186; refine (HSh.out _).mono ?_; rintro e w3 ⟨rfl, hb3⟩; obtain ⟨A1, A2, A3, hb⟩ := HY.out w3 _ _ ⟨hb3.os, hb3.tape, hb3.output, hb3.size, hb3.block⟩; obtain ⟨⟨K0, K1, K2, K3, K4, K5⟩, F0, F1, F2, F3, F4, F5⟩ := cells6 A1; obtain ⟨K6, F6⟩ := cells1 A2; obtain ⟨⟨Z0, Z1, Z2, Z3, Z4, Z5⟩, G0, G1, G2, G3, G4, G5⟩ := cells6 A3; clear A1 A2 A3)
    | (go_at_call 198; refine (HL.out _).mono ?_; rintro e w' ⟨rfl, rfl⟩))
  go_region
  all_goals go_wp2
  all_goals
    refine bodyPost_ret (v := .tuple #[(.agg #[.int .u8 (ra), .int .u8 (rx), .int .u8 (ry), .int .u8 (rs), .int .u8 (lsrF m rp), .int .u16 (rpc)]), .int .u8 (lsrV m)]) ?_ rfl ⟨rfl, ?_⟩
    · simp [results, Tryz.results170, go_sem, *]
    · refine Below.drew ?_
      repeat (refine Below.setCell ?_ (by first | (simp; done) | (simp; omega)) _)
      exact hb
set_option maxHeartbeats 12800000 in
set_option maxRecDepth 100000 in
theorem mod_rol (n : ByteArray) (r : R) (m : Int) (w : World) (hr : r.ok) (hm : By m) (hat : atName n.toList bothT = none) (hsh : (atName n.toList shiftT).getD .nilFunc = .func (.func 199) #[] #[]) :
    Calls Tryz.prog 170 #[.string n, r.val, .int .u8 m] w fun e w' => e = .returned (.tuple #[(R.mk r.a r.x r.y r.s (rolF m r.p) r.pc).val, .int .u8 (rolV m r.p)]) ∧ Below w.heap.size w w' := by
  obtain ⟨ra, rx, ry, rs, rp, rpc⟩ := r
  have hr0 := hr
  obtain ⟨ha, hx, hy, hs, hp, hq⟩ := hr
  obtain ⟨O0, O1, O2, O3, OA, hmm, l0, l1, l2, l3, hlk⟩ := both_laid (((w.alloc (.cells #[.int .u8 ra, .int .u8 rx, .int .u8 ry, .int .u8 rs, .int .u8 rp, .int .u16 rpc] 57)).alloc (.cells #[.int .u8 m] 5)).alloc (.cells #[.int .u8 0, .int .u8 0, .int .u8 0, .int .u8 0, .int .u8 0, .int .u16 0] 57)) n _ hat
  replace hlk : (Instr.lookup 195 (.map (some (((w.alloc (.cells #[.int .u8 ra, .int .u8 rx, .int .u8 ry, .int .u8 rs, .int .u8 rp, .int .u16 rpc] 57)).alloc (.cells #[.int .u8 m] 5)).alloc (.cells #[.int .u8 0, .int .u8 0, .int .u8 0, .int .u8 0, .int .u8 0, .int .u16 0] 57)).heap.size)) (.string n) false).run Tryz.prog ((((w.alloc (.cells #[.int .u8 ra, .int .u8 rx, .int .u8 ry, .int .u8 rs, .int .u8 rp, .int .u16 rpc] 57)).alloc (.cells #[.int .u8 m] 5)).alloc (.cells #[.int .u8 0, .int .u8 0, .int .u8 0, .int .u8 0, .int .u8 0, .int .u16 0] 57)).alloc OA) = .ok (.agg #[.string ⟨#[]⟩, .string ⟨#[]⟩]) ((((w.alloc (.cells #[.int .u8 ra, .int .u8 rx, .int .u8 ry, .int .u8 rs, .int .u8 rp, .int .u16 rpc] 57)).alloc (.cells #[.int .u8 m] 5)).alloc (.cells #[.int .u8 0, .int .u8 0, .int .u8 0, .int .u8 0, .int .u8 0, .int .u16 0] 57)).alloc OA) := hlk
  simp only [World.size_alloc] at hmm l0 l1 l2 l3 hlk
  have HX := Lib.hid (fun (w3 : World) (hb3 : Below ((((w.alloc (.cells #[.int .u8 ra, .int .u8 rx, .int .u8 ry, .int .u8 rs, .int .u8 rp, .int .u16 rpc] 57)).alloc (.cells #[.int .u8 m] 5)).alloc (.cells #[.int .u8 0, .int .u8 0, .int .u8 0, .int .u8 0, .int .u8 0, .int .u16 0] 57)).alloc OA).heap.size ((((w.alloc (.cells #[.int .u8 ra, .int .u8 rx, .int .u8 ry, .int .u8 rs, .int .u8 rp, .int .u16 rpc] 57)).alloc (.cells #[.int .u8 m] 5)).alloc (.cells #[.int .u8 0, .int .u8 0, .int .u8 0, .int .u8 0, .int .u8 0, .int .u16 0] 57)).alloc OA) w3) => reg3 w w3 ra rx ry rs rp rpc m (((Below.refl _ _).alloc (by simp) OA).trans (hb3.mono (by simp))))
  have HY := Lib.hid (fun (w3 : World) (cs : Array Value) (t : TypeId) (hb3 : Below (((((w.alloc (.cells #[.int .u8 ra, .int .u8 rx, .int .u8 ry, .int .u8 rs, .int .u8 rp, .int .u16 rpc] 57)).alloc (.cells #[.int .u8 m] 5)).alloc (.cells #[.int .u8 0, .int .u8 0, .int .u8 0, .int .u8 0, .int .u8 0, .int .u16 0] 57)).alloc OA).alloc (.cells cs t)).heap.size (((((w.alloc (.cells #[.int .u8 ra, .int .u8 rx, .int .u8 ry, .int .u8 rs, .int .u8 rp, .int .u16 rpc] 57)).alloc (.cells #[.int .u8 m] 5)).alloc (.cells #[.int .u8 0, .int .u8 0, .int .u8 0, .int .u8 0, .int .u8 0, .int .u16 0] 57)).alloc OA).alloc (.cells cs t)) w3) => reg3 w w3 ra rx ry rs rp rpc m ((((Below.refl _ _).alloc (by simp) OA).alloc (by simp) _).trans (hb3.mono (by simp))))
  have HSh : Hid (∀ w, Calls Tryz.prog 186 #[.string n] w fun e w' => e = .returned (.func (.func 199) #[] #[]) ∧ Below w.heap.size w w') := Lib.hid (fun w => by have h := shift_any n w; rw [hsh] at h; exact h)
  have hnN := neqN
  have hnF := neqF
  have HL := Lib.hid (fun w => rol_any m rp w hm hp)
  clear hsh
  simp only [R.val]
  go_enter Tryz.func170, Tryz.ntmps170
  go_wp2_with (first
    | (go_at_call 186; refine (HSh.out _).mono ?_; rintro e w3 ⟨rfl, hb3⟩; obtain ⟨A1, A2, A3, hb⟩ := HY.out w3 _ _ ⟨hb3.os, hb3.tape, hb3.output, hb3.size, hb3.block⟩; obtain ⟨⟨K0, K1, K2, K3, K4, K5⟩, F0, F1, F2, F3, F4, F5⟩ := cells6 A1; obtain ⟨K6, F6⟩ := cells1 A2; obtain ⟨⟨Z0, Z1, Z2, Z3, Z4, Z5⟩, G0, G1, G2, G3, G4, G5⟩ := cells6 A3; clear A1 A2 A3)
    | (go_at_call 199; refine (HL.out _).mono ?_; rintro e w' ⟨rfl, rfl⟩))
  go_region
  all_goals go_wp2
  all_goals
    refine bodyPost_ret (v := .tuple #[(.agg #[.int .u8 (ra), .int .u8 (rx), .int .u8 (ry), .int .u8 (rs), .int .u8 (rolF m rp), .int .u16 (rpc)]), .int .u8 (rolV m rp)]) ?_ rfl ⟨rfl, ?_⟩
    · simp [results, Tryz.results170, go_sem, *]
    · refine Below.drew ?_
      repeat (refine Below.setCell ?_ (by first | (simp; done) | (simp; omega)) _)
      exact hb
set_option maxHeartbeats 12800000 in
set_option maxRecDepth 100000 in
theorem mod_ror (n : ByteArray) (r : R) (m : Int) (w : World) (hr : r.ok) (hm : By m) (hat : atName n.toList bothT = none) (hsh : (atName n.toList shiftT).getD .nilFunc = .func (.func 200) #[] #[]) :
    Calls Tryz.prog 170 #[.string n, r.val, .int .u8 m] w fun e w' => e = .returned (.tuple #[(R.mk r.a r.x r.y r.s (rorF m r.p) r.pc).val, .int .u8 (rorV m r.p)]) ∧ Below w.heap.size w w' := by
  obtain ⟨ra, rx, ry, rs, rp, rpc⟩ := r
  have hr0 := hr
  obtain ⟨ha, hx, hy, hs, hp, hq⟩ := hr
  obtain ⟨O0, O1, O2, O3, OA, hmm, l0, l1, l2, l3, hlk⟩ := both_laid (((w.alloc (.cells #[.int .u8 ra, .int .u8 rx, .int .u8 ry, .int .u8 rs, .int .u8 rp, .int .u16 rpc] 57)).alloc (.cells #[.int .u8 m] 5)).alloc (.cells #[.int .u8 0, .int .u8 0, .int .u8 0, .int .u8 0, .int .u8 0, .int .u16 0] 57)) n _ hat
  replace hlk : (Instr.lookup 195 (.map (some (((w.alloc (.cells #[.int .u8 ra, .int .u8 rx, .int .u8 ry, .int .u8 rs, .int .u8 rp, .int .u16 rpc] 57)).alloc (.cells #[.int .u8 m] 5)).alloc (.cells #[.int .u8 0, .int .u8 0, .int .u8 0, .int .u8 0, .int .u8 0, .int .u16 0] 57)).heap.size)) (.string n) false).run Tryz.prog ((((w.alloc (.cells #[.int .u8 ra, .int .u8 rx, .int .u8 ry, .int .u8 rs, .int .u8 rp, .int .u16 rpc] 57)).alloc (.cells #[.int .u8 m] 5)).alloc (.cells #[.int .u8 0, .int .u8 0, .int .u8 0, .int .u8 0, .int .u8 0, .int .u16 0] 57)).alloc OA) = .ok (.agg #[.string ⟨#[]⟩, .string ⟨#[]⟩]) ((((w.alloc (.cells #[.int .u8 ra, .int .u8 rx, .int .u8 ry, .int .u8 rs, .int .u8 rp, .int .u16 rpc] 57)).alloc (.cells #[.int .u8 m] 5)).alloc (.cells #[.int .u8 0, .int .u8 0, .int .u8 0, .int .u8 0, .int .u8 0, .int .u16 0] 57)).alloc OA) := hlk
  simp only [World.size_alloc] at hmm l0 l1 l2 l3 hlk
  have HX := Lib.hid (fun (w3 : World) (hb3 : Below ((((w.alloc (.cells #[.int .u8 ra, .int .u8 rx, .int .u8 ry, .int .u8 rs, .int .u8 rp, .int .u16 rpc] 57)).alloc (.cells #[.int .u8 m] 5)).alloc (.cells #[.int .u8 0, .int .u8 0, .int .u8 0, .int .u8 0, .int .u8 0, .int .u16 0] 57)).alloc OA).heap.size ((((w.alloc (.cells #[.int .u8 ra, .int .u8 rx, .int .u8 ry, .int .u8 rs, .int .u8 rp, .int .u16 rpc] 57)).alloc (.cells #[.int .u8 m] 5)).alloc (.cells #[.int .u8 0, .int .u8 0, .int .u8 0, .int .u8 0, .int .u8 0, .int .u16 0] 57)).alloc OA) w3) => reg3 w w3 ra rx ry rs rp rpc m (((Below.refl _ _).alloc (by simp) OA).trans (hb3.mono (by simp))))
  have HY := Lib.hid (fun (w3 : World) (cs : Array Value) (t : TypeId) (hb3 : Below (((((w.alloc (.cells #[.int .u8 ra, .int .u8 rx, .int .u8 ry, .int .u8 rs, .int .u8 rp, .int .u16 rpc] 57)).alloc (.cells #[.int .u8 m] 5)).alloc (.cells #[.int .u8 0, .int .u8 0, .int .u8 0, .int .u8 0, .int .u8 0, .int .u16 0] 57)).alloc OA).alloc (.cells cs t)).heap.size (((((w.alloc (.cells #[.int .u8 ra, .int .u8 rx, .int .u8 ry, .int .u8 rs, .int .u8 rp, .int .u16 rpc] 57)).alloc (.cells #[.int .u8 m] 5)).alloc (.cells #[.int .u8 0, .int .u8 0, .int .u8 0, .int .u8 0, .int .u8 0, .int .u16 0] 57)).alloc OA).alloc (.cells cs t)) w3) => reg3 w w3 ra rx ry rs rp rpc m ((((Below.refl _ _).alloc (by simp) OA).alloc (by simp) _).trans (hb3.mono (by simp))))
  have HSh : Hid (∀ w, Calls Tryz.prog 186 #[.string n] w fun e w' => e = .returned (.func (.func 200) #[] #[]) ∧ Below w.heap.size w w') := Lib.hid (fun w => by have h := shift_any n w; rw [hsh] at h; exact h)
  have hnN := neqN
  have hnF := neqF
  have HL := Lib.hid (fun w => ror_any m rp w hm hp)
  clear hsh
  simp only [R.val]
  go_enter Tryz.func170, Tryz.ntmps170
  go_wp2_with (first
    | (go_at_call 186; refine (HSh.out _).mono ?_; rintro e w3 ⟨rfl, hb3⟩; obtain ⟨A1, A2, A3, hb⟩ := HY.out w3 _ _ ⟨hb3.os, hb3.tape, hb3.output, hb3.size, hb3.block⟩; obtain ⟨⟨K0, K1, K2, K3, K4, K5⟩, F0, F1, F2, F3, F4, F5⟩ := cells6 A1; obtain ⟨K6, F6⟩ := cells1 A2; obtain ⟨⟨Z0, Z1, Z2, Z3, Z4, Z5⟩, G0, G1, G2, G3, G4, G5⟩ := cells6 A3; clear A1 A2 A3)
    | (go_at_call 200; refine (HL.out _).mono ?_; rintro e w' ⟨rfl, rfl⟩))
  go_region
  all_goals go_wp2
  all_goals
    refine bodyPost_ret (v := .tuple #[(.agg #[.int .u8 (ra), .int .u8 (rx), .int .u8 (ry), .int .u8 (rs), .int .u8 (rorF m rp), .int .u16 (rpc)]), .int .u8 (rorV m rp)]) ?_ rfl ⟨rfl, ?_⟩
    · simp [results, Tryz.results170, go_sem, *]
    · refine Below.drew ?_
      repeat (refine Below.setCell ?_ (by first | (simp; done) | (simp; omega)) _)
      exact hb
set_option maxHeartbeats 12800000 in
set_option maxRecDepth 100000 in
theorem mod_INC (n : ByteArray) (r : R) (m : Int) (w : World) (hr : r.ok) (_hm : By m) (hn : (n.toList == [73, 78, 67]) = true) (hat : atName n.toList bothT = none) (hsh : (atName n.toList shiftT).getD .nilFunc = .nilFunc) :
    Calls Tryz.prog 170 #[.string n, r.val, .int .u8 m] w fun e w' => e = .returned (.tuple #[(R.mk r.a r.x r.y r.s (nz r.p ((m + 1) % 256)) r.pc).val, .int .u8 ((m + 1) % 256)]) ∧ Below w.heap.size w w' := by
  obtain ⟨ra, rx, ry, rs, rp, rpc⟩ := r
  have hr0 := hr
  obtain ⟨ha, hx, hy, hs, hp, hq⟩ := hr
  obtain ⟨O0, O1, O2, O3, OA, hmm, l0, l1, l2, l3, hlk⟩ := both_laid (((w.alloc (.cells #[.int .u8 ra, .int .u8 rx, .int .u8 ry, .int .u8 rs, .int .u8 rp, .int .u16 rpc] 57)).alloc (.cells #[.int .u8 m] 5)).alloc (.cells #[.int .u8 0, .int .u8 0, .int .u8 0, .int .u8 0, .int .u8 0, .int .u16 0] 57)) n _ hat
  replace hlk : (Instr.lookup 195 (.map (some (((w.alloc (.cells #[.int .u8 ra, .int .u8 rx, .int .u8 ry, .int .u8 rs, .int .u8 rp, .int .u16 rpc] 57)).alloc (.cells #[.int .u8 m] 5)).alloc (.cells #[.int .u8 0, .int .u8 0, .int .u8 0, .int .u8 0, .int .u8 0, .int .u16 0] 57)).heap.size)) (.string n) false).run Tryz.prog ((((w.alloc (.cells #[.int .u8 ra, .int .u8 rx, .int .u8 ry, .int .u8 rs, .int .u8 rp, .int .u16 rpc] 57)).alloc (.cells #[.int .u8 m] 5)).alloc (.cells #[.int .u8 0, .int .u8 0, .int .u8 0, .int .u8 0, .int .u8 0, .int .u16 0] 57)).alloc OA) = .ok (.agg #[.string ⟨#[]⟩, .string ⟨#[]⟩]) ((((w.alloc (.cells #[.int .u8 ra, .int .u8 rx, .int .u8 ry, .int .u8 rs, .int .u8 rp, .int .u16 rpc] 57)).alloc (.cells #[.int .u8 m] 5)).alloc (.cells #[.int .u8 0, .int .u8 0, .int .u8 0, .int .u8 0, .int .u8 0, .int .u16 0] 57)).alloc OA) := hlk
  simp only [World.size_alloc] at hmm l0 l1 l2 l3 hlk
  have HX := Lib.hid (fun (w3 : World) (hb3 : Below ((((w.alloc (.cells #[.int .u8 ra, .int .u8 rx, .int .u8 ry, .int .u8 rs, .int .u8 rp, .int .u16 rpc] 57)).alloc (.cells #[.int .u8 m] 5)).alloc (.cells #[.int .u8 0, .int .u8 0, .int .u8 0, .int .u8 0, .int .u8 0, .int .u16 0] 57)).alloc OA).heap.size ((((w.alloc (.cells #[.int .u8 ra, .int .u8 rx, .int .u8 ry, .int .u8 rs, .int .u8 rp, .int .u16 rpc] 57)).alloc (.cells #[.int .u8 m] 5)).alloc (.cells #[.int .u8 0, .int .u8 0, .int .u8 0, .int .u8 0, .int .u8 0, .int .u16 0] 57)).alloc OA) w3) => reg3 w w3 ra rx ry rs rp rpc m (((Below.refl _ _).alloc (by simp) OA).trans (hb3.mono (by simp))))
  have HY := Lib.hid (fun (w3 : World) (cs : Array Value) (t : TypeId) (hb3 : Below (((((w.alloc (.cells #[.int .u8 ra, .int .u8 rx, .int .u8 ry, .int .u8 rs, .int .u8 rp, .int .u16 rpc] 57)).alloc (.cells #[.int .u8 m] 5)).alloc (.cells #[.int .u8 0, .int .u8 0, .int .u8 0, .int .u8 0, .int .u8 0, .int .u16 0] 57)).alloc OA).alloc (.cells cs t)).heap.size (((((w.alloc (.cells #[.int .u8 ra, .int .u8 rx, .int .u8 ry, .int .u8 rs, .int .u8 rp, .int .u16 rpc] 57)).alloc (.cells #[.int .u8 m] 5)).alloc (.cells #[.int .u8 0, .int .u8 0, .int .u8 0, .int .u8 0, .int .u8 0, .int .u16 0] 57)).alloc OA).alloc (.cells cs t)) w3) => reg3 w w3 ra rx ry rs rp rpc m ((((Below.refl _ _).alloc (by simp) OA).alloc (by simp) _).trans (hb3.mono (by simp))))
  have HSh : Hid (∀ w, Calls Tryz.prog 186 #[.string n] w fun e w' => e = .returned (.nilFunc) ∧ Below w.heap.size w w') := Lib.hid (fun w => by have h := shift_any n w; rw [hsh] at h; exact h)
  have hnN := neqN
  have hnF := neqF
  have HS := Lib.hid (fun p1 p2 v w h1 f1 h2 f2 => set_any p1 p2 v rp w h1 f1 h2 f2 hp)
  clear hsh hat
  obtain rfl := of_list hn
  clear hn
  simp only [R.val]
  go_enter Tryz.func170, Tryz.ntmps170
  go_wp2_with (first
    | (go_at_call 186; refine (HSh.out _).mono ?_; rintro e w3 ⟨rfl, hb3⟩; obtain ⟨A1, A2, A3, hb⟩ := HY.out w3 _ _ ⟨hb3.os, hb3.tape, hb3.output, hb3.size, hb3.block⟩; obtain ⟨⟨K0, K1, K2, K3, K4, K5⟩, F0, F1, F2, F3, F4, F5⟩ := cells6 A1; obtain ⟨K6, F6⟩ := cells1 A2; obtain ⟨⟨Z0, Z1, Z2, Z3, Z4, Z5⟩, G0, G1, G2, G3, G4, G5⟩ := cells6 A3; clear A1 A2 A3)
    | (go_at_call 187; refine (HS.out _ _ _ _ ?_ ?_ ?_ ?_).mono ?_; (iterate 4 (focus (simp [go_sem, *]; done))); rintro e w' ⟨rfl, rfl⟩))
  go_region
  all_goals go_wp2
  all_goals
    refine bodyPost_ret (v := .tuple #[(.agg #[.int .u8 (ra), .int .u8 (rx), .int .u8 (ry), .int .u8 (rs), .int .u8 (nz rp ((m + 1) % 256)), .int .u16 (rpc)]), .int .u8 ((m + 1) % 256)]) ?_ rfl ⟨rfl, ?_⟩
    · simp [results, Tryz.results170, go_sem, *]
    · refine Below.drew ?_
      repeat (refine Below.setCell ?_ (by first | (simp; done) | (simp; omega)) _)
      exact hb
set_option maxHeartbeats 12800000 in
set_option maxRecDepth 100000 in
theorem mod_DEC (n : ByteArray) (r : R) (m : Int) (w : World) (hr : r.ok) (_hm : By m) (hn : (n.toList == [68, 69, 67]) = true) (hat : atName n.toList bothT = none) (hsh : (atName n.toList shiftT).getD .nilFunc = .nilFunc) :
    Calls Tryz.prog 170 #[.string n, r.val, .int .u8 m] w fun e w' => e = .returned (.tuple #[(R.mk r.a r.x r.y r.s (nz r.p ((m - 1) % 256)) r.pc).val, .int .u8 ((m - 1) % 256)]) ∧ Below w.heap.size w w' := by
  obtain ⟨ra, rx, ry, rs, rp, rpc⟩ := r
  have hr0 := hr
  obtain ⟨ha, hx, hy, hs, hp, hq⟩ := hr
  obtain ⟨O0, O1, O2, O3, OA, hmm, l0, l1, l2, l3, hlk⟩ := both_laid (((w.alloc (.cells #[.int .u8 ra, .int .u8 rx, .int .u8 ry, .int .u8 rs, .int .u8 rp, .int .u16 rpc] 57)).alloc (.cells #[.int .u8 m] 5)).alloc (.cells #[.int .u8 0, .int .u8 0, .int .u8 0, .int .u8 0, .int .u8 0, .int .u16 0] 57)) n _ hat
  replace hlk : (Instr.lookup 195 (.map (some (((w.alloc (.cells #[.int .u8 ra, .int .u8 rx, .int .u8 ry, .int .u8 rs, .int .u8 rp, .int .u16 rpc] 57)).alloc (.cells #[.int .u8 m] 5)).alloc (.cells #[.int .u8 0, .int .u8 0, .int .u8 0, .int .u8 0, .int .u8 0, .int .u16 0] 57)).heap.size)) (.string n) false).run Tryz.prog ((((w.alloc (.cells #[.int .u8 ra, .int .u8 rx, .int .u8 ry, .int .u8 rs, .int .u8 rp, .int .u16 rpc] 57)).alloc (.cells #[.int .u8 m] 5)).alloc (.cells #[.int .u8 0, .int .u8 0, .int .u8 0, .int .u8 0, .int .u8 0, .int .u16 0] 57)).alloc OA) = .ok (.agg #[.string ⟨#[]⟩, .string ⟨#[]⟩]) ((((w.alloc (.cells #[.int .u8 ra, .int .u8 rx, .int .u8 ry, .int .u8 rs, .int .u8 rp, .int .u16 rpc] 57)).alloc (.cells #[.int .u8 m] 5)).alloc (.cells #[.int .u8 0, .int .u8 0, .int .u8 0, .int .u8 0, .int .u8 0, .int .u16 0] 57)).alloc OA) := hlk
  simp only [World.size_alloc] at hmm l0 l1 l2 l3 hlk
  have HX := Lib.hid (fun (w3 : World) (hb3 : Below ((((w.alloc (.cells #[.int .u8 ra, .int .u8 rx, .int .u8 ry, .int .u8 rs, .int .u8 rp, .int .u16 rpc] 57)).alloc (.cells #[.int .u8 m] 5)).alloc (.cells #[.int .u8 0, .int .u8 0, .int .u8 0, .int .u8 0, .int .u8 0, .int .u16 0] 57)).alloc OA).heap.size ((((w.alloc (.cells #[.int .u8 ra, .int .u8 rx, .int .u8 ry, .int .u8 rs, .int .u8 rp, .int .u16 rpc] 57)).alloc (.cells #[.int .u8 m] 5)).alloc (.cells #[.int .u8 0, .int .u8 0, .int .u8 0, .int .u8 0, .int .u8 0, .int .u16 0] 57)).alloc OA) w3) => reg3 w w3 ra rx ry rs rp rpc m (((Below.refl _ _).alloc (by simp) OA).trans (hb3.mono (by simp))))
  have HY := Lib.hid (fun (w3 : World) (cs : Array Value) (t : TypeId) (hb3 : Below (((((w.alloc (.cells #[.int .u8 ra, .int .u8 rx, .int .u8 ry, .int .u8 rs, .int .u8 rp, .int .u16 rpc] 57)).alloc (.cells #[.int .u8 m] 5)).alloc (.cells #[.int .u8 0, .int .u8 0, .int .u8 0, .int .u8 0, .int .u8 0, .int .u16 0] 57)).alloc OA).alloc (.cells cs t)).heap.size (((((w.alloc (.cells #[.int .u8 ra, .int .u8 rx, .int .u8 ry, .int .u8 rs, .int .u8 rp, .int .u16 rpc] 57)).alloc (.cells #[.int .u8 m] 5)).alloc (.cells #[.int .u8 0, .int .u8 0, .int .u8 0, .int .u8 0, .int .u8 0, .int .u16 0] 57)).alloc OA).alloc (.cells cs t)) w3) => reg3 w w3 ra rx ry rs rp rpc m ((((Below.refl _ _).alloc (by simp) OA).alloc (by simp) _).trans (hb3.mono (by simp))))
  have HSh : Hid (∀ w, Calls Tryz.prog 186 #[.string n] w fun e w' => e = .returned (.nilFunc) ∧ Below w.heap.size w w') := Lib.hid (fun w => by have h := shift_any n w; rw [hsh] at h; exact h)
  have hnN := neqN
  have hnF := neqF
  have HS := Lib.hid (fun p1 p2 v w h1 f1 h2 f2 => set_any p1 p2 v rp w h1 f1 h2 f2 hp)
  clear hsh hat
  obtain rfl := of_list hn
  clear hn
  simp only [R.val]
  go_enter Tryz.func170, Tryz.ntmps170
  go_wp2_with (first
    | (go_at_call 186; refine (HSh.out _).mono ?_; rintro e w3 ⟨rfl, hb3⟩; obtain ⟨A1, A2, A3, hb⟩ := HY.out w3 _ _ ⟨hb3.os, hb3.tape, hb3.output, hb3.size, hb3.block⟩; obtain ⟨⟨K0, K1, K2, K3, K4, K5⟩, F0, F1, F2, F3, F4, F5⟩ := cells6 A1; obtain ⟨K6, F6⟩ := cells1 A2; obtain ⟨⟨Z0, Z1, Z2, Z3, Z4, Z5⟩, G0, G1, G2, G3, G4, G5⟩ := cells6 A3; clear A1 A2 A3)
    | (go_at_call 187; refine (HS.out _ _ _ _ ?_ ?_ ?_ ?_).mono ?_; (iterate 4 (focus (simp [go_sem, *]; done))); rintro e w' ⟨rfl, rfl⟩))
  go_region
  all_goals go_wp2
  all_goals
    refine bodyPost_ret (v := .tuple #[(.agg #[.int .u8 (ra), .int .u8 (rx), .int .u8 (ry), .int .u8 (rs), .int .u8 (nz rp ((m - 1) % 256)), .int .u16 (rpc)]), .int .u8 ((m - 1) % 256)]) ?_ rfl ⟨rfl, ?_⟩
    · simp [results, Tryz.results170, go_sem, *]
    · refine Below.drew ?_
      repeat (refine Below.setCell ?_ (by first | (simp; done) | (simp; omega)) _)
      exact hb
set_option maxHeartbeats 12800000 in
set_option maxRecDepth 100000 in
theorem mod_none (n : ByteArray) (r : R) (m : Int) (w : World) (hr : r.ok) (_hm : By m) (hat : atName n.toList bothT = none) (hsh : (atName n.toList shiftT).getD .nilFunc = .nilFunc) (n0 : (n.toList == [73, 78, 67]) = false) (n1 : (n.toList == [68, 69, 67]) = false) (n2 : (n.toList == [68, 67, 80]) = false) (n3 : (n.toList == [73, 83, 67]) = false) :
    Calls Tryz.prog 170 #[.string n, r.val, .int .u8 m] w fun e w' => e = .returned (.tuple #[(r).val, .int .u8 (m)]) ∧ Below w.heap.size w w' := by
  obtain ⟨ra, rx, ry, rs, rp, rpc⟩ := r
  have hr0 := hr
  obtain ⟨ha, hx, hy, hs, hp, hq⟩ := hr
  obtain ⟨O0, O1, O2, O3, OA, hmm, l0, l1, l2, l3, hlk⟩ := both_laid (((w.alloc (.cells #[.int .u8 ra, .int .u8 rx, .int .u8 ry, .int .u8 rs, .int .u8 rp, .int .u16 rpc] 57)).alloc (.cells #[.int .u8 m] 5)).alloc (.cells #[.int .u8 0, .int .u8 0, .int .u8 0, .int .u8 0, .int .u8 0, .int .u16 0] 57)) n _ hat
  replace hlk : (Instr.lookup 195 (.map (some (((w.alloc (.cells #[.int .u8 ra, .int .u8 rx, .int .u8 ry, .int .u8 rs, .int .u8 rp, .int .u16 rpc] 57)).alloc (.cells #[.int .u8 m] 5)).alloc (.cells #[.int .u8 0, .int .u8 0, .int .u8 0, .int .u8 0, .int .u8 0, .int .u16 0] 57)).heap.size)) (.string n) false).run Tryz.prog ((((w.alloc (.cells #[.int .u8 ra, .int .u8 rx, .int .u8 ry, .int .u8 rs, .int .u8 rp, .int .u16 rpc] 57)).alloc (.cells #[.int .u8 m] 5)).alloc (.cells #[.int .u8 0, .int .u8 0, .int .u8 0, .int .u8 0, .int .u8 0, .int .u16 0] 57)).alloc OA) = .ok (.agg #[.string ⟨#[]⟩, .string ⟨#[]⟩]) ((((w.alloc (.cells #[.int .u8 ra, .int .u8 rx, .int .u8 ry, .int .u8 rs, .int .u8 rp, .int .u16 rpc] 57)).alloc (.cells #[.int .u8 m] 5)).alloc (.cells #[.int .u8 0, .int .u8 0, .int .u8 0, .int .u8 0, .int .u8 0, .int .u16 0] 57)).alloc OA) := hlk
  simp only [World.size_alloc] at hmm l0 l1 l2 l3 hlk
  have HX := Lib.hid (fun (w3 : World) (hb3 : Below ((((w.alloc (.cells #[.int .u8 ra, .int .u8 rx, .int .u8 ry, .int .u8 rs, .int .u8 rp, .int .u16 rpc] 57)).alloc (.cells #[.int .u8 m] 5)).alloc (.cells #[.int .u8 0, .int .u8 0, .int .u8 0, .int .u8 0, .int .u8 0, .int .u16 0] 57)).alloc OA).heap.size ((((w.alloc (.cells #[.int .u8 ra, .int .u8 rx, .int .u8 ry, .int .u8 rs, .int .u8 rp, .int .u16 rpc] 57)).alloc (.cells #[.int .u8 m] 5)).alloc (.cells #[.int .u8 0, .int .u8 0, .int .u8 0, .int .u8 0, .int .u8 0, .int .u16 0] 57)).alloc OA) w3) => reg3 w w3 ra rx ry rs rp rpc m (((Below.refl _ _).alloc (by simp) OA).trans (hb3.mono (by simp))))
  have HY := Lib.hid (fun (w3 : World) (cs : Array Value) (t : TypeId) (hb3 : Below (((((w.alloc (.cells #[.int .u8 ra, .int .u8 rx, .int .u8 ry, .int .u8 rs, .int .u8 rp, .int .u16 rpc] 57)).alloc (.cells #[.int .u8 m] 5)).alloc (.cells #[.int .u8 0, .int .u8 0, .int .u8 0, .int .u8 0, .int .u8 0, .int .u16 0] 57)).alloc OA).alloc (.cells cs t)).heap.size (((((w.alloc (.cells #[.int .u8 ra, .int .u8 rx, .int .u8 ry, .int .u8 rs, .int .u8 rp, .int .u16 rpc] 57)).alloc (.cells #[.int .u8 m] 5)).alloc (.cells #[.int .u8 0, .int .u8 0, .int .u8 0, .int .u8 0, .int .u8 0, .int .u16 0] 57)).alloc OA).alloc (.cells cs t)) w3) => reg3 w w3 ra rx ry rs rp rpc m ((((Below.refl _ _).alloc (by simp) OA).alloc (by simp) _).trans (hb3.mono (by simp))))
  have HSh : Hid (∀ w, Calls Tryz.prog 186 #[.string n] w fun e w' => e = .returned (.nilFunc) ∧ Below w.heap.size w w') := Lib.hid (fun w => by have h := shift_any n w; rw [hsh] at h; exact h)
  have hnN := neqN
  have hnF := neqF
  clear hsh
  simp only [R.val]
  go_enter Tryz.func170, Tryz.ntmps170
  go_wp2_with (go_at_call 186; refine (HSh.out _).mono ?_; rintro e w3 ⟨rfl, hb3⟩; obtain ⟨A1, A2, A3, hb⟩ := HY.out w3 _ _ ⟨hb3.os, hb3.tape, hb3.output, hb3.size, hb3.block⟩; obtain ⟨⟨K0, K1, K2, K3, K4, K5⟩, F0, F1, F2, F3, F4, F5⟩ := cells6 A1; obtain ⟨K6, F6⟩ := cells1 A2; obtain ⟨⟨Z0, Z1, Z2, Z3, Z4, Z5⟩, G0, G1, G2, G3, G4, G5⟩ := cells6 A3; clear A1 A2 A3)
  go_region
  all_goals go_wp2
  all_goals
    refine bodyPost_ret (v := .tuple #[(.agg #[.int .u8 (ra), .int .u8 (rx), .int .u8 (ry), .int .u8 (rs), .int .u8 (rp), .int .u16 (rpc)]), .int .u8 (m)]) ?_ rfl ⟨rfl, ?_⟩
    · simp [results, Tryz.results170, go_sem, *]
    · refine Below.drew ?_
      repeat (refine Below.setCell ?_ (by first | (simp; done) | (simp; omega)) _)
      exact hb
set_option maxHeartbeats 12800000 in
set_option maxRecDepth 100000 in
theorem mod_DCP (n : ByteArray) (r : R) (m : Int) (w : World) (hr : r.ok) (_hm : By m) (hn : (n.toList == [68, 67, 80]) = true) (hat : atName n.toList bothT = none) (hsh : (atName n.toList shiftT).getD .nilFunc = .nilFunc) :
    Calls Tryz.prog 170 #[.string n, r.val, .int .u8 m] w fun e w' => e = .returned (.tuple #[(readsR [67, 77, 80] r ((m - 1) % 256)).val, .int .u8 ((m - 1) % 256)]) ∧ Below w.heap.size w w' := by
  obtain ⟨ra, rx, ry, rs, rp, rpc⟩ := r
  have hr0 := hr
  obtain ⟨ha, hx, hy, hs, hp, hq⟩ := hr
  obtain ⟨O0, O1, O2, O3, OA, hmm, l0, l1, l2, l3, hlk⟩ := both_laid (((w.alloc (.cells #[.int .u8 ra, .int .u8 rx, .int .u8 ry, .int .u8 rs, .int .u8 rp, .int .u16 rpc] 57)).alloc (.cells #[.int .u8 m] 5)).alloc (.cells #[.int .u8 0, .int .u8 0, .int .u8 0, .int .u8 0, .int .u8 0, .int .u16 0] 57)) n _ hat
  replace hlk : (Instr.lookup 195 (.map (some (((w.alloc (.cells #[.int .u8 ra, .int .u8 rx, .int .u8 ry, .int .u8 rs, .int .u8 rp, .int .u16 rpc] 57)).alloc (.cells #[.int .u8 m] 5)).alloc (.cells #[.int .u8 0, .int .u8 0, .int .u8 0, .int .u8 0, .int .u8 0, .int .u16 0] 57)).heap.size)) (.string n) false).run Tryz.prog ((((w.alloc (.cells #[.int .u8 ra, .int .u8 rx, .int .u8 ry, .int .u8 rs, .int .u8 rp, .int .u16 rpc] 57)).alloc (.cells #[.int .u8 m] 5)).alloc (.cells #[.int .u8 0, .int .u8 0, .int .u8 0, .int .u8 0, .int .u8 0, .int .u16 0] 57)).alloc OA) = .ok (.agg #[.string ⟨#[]⟩, .string ⟨#[]⟩]) ((((w.alloc (.cells #[.int .u8 ra, .int .u8 rx, .int .u8 ry, .int .u8 rs, .int .u8 rp, .int .u16 rpc] 57)).alloc (.cells #[.int .u8 m] 5)).alloc (.cells #[.int .u8 0, .int .u8 0, .int .u8 0, .int .u8 0, .int .u8 0, .int .u16 0] 57)).alloc OA) := hlk
  simp only [World.size_alloc] at hmm l0 l1 l2 l3 hlk
  have HX := Lib.hid (fun (w3 : World) (hb3 : Below ((((w.alloc (.cells #[.int .u8 ra, .int .u8 rx, .int .u8 ry, .int .u8 rs, .int .u8 rp, .int .u16 rpc] 57)).alloc (.cells #[.int .u8 m] 5)).alloc (.cells #[.int .u8 0, .int .u8 0, .int .u8 0, .int .u8 0, .int .u8 0, .int .u16 0] 57)).alloc OA).heap.size ((((w.alloc (.cells #[.int .u8 ra, .int .u8 rx, .int .u8 ry, .int .u8 rs, .int .u8 rp, .int .u16 rpc] 57)).alloc (.cells #[.int .u8 m] 5)).alloc (.cells #[.int .u8 0, .int .u8 0, .int .u8 0, .int .u8 0, .int .u8 0, .int .u16 0] 57)).alloc OA) w3) => reg3 w w3 ra rx ry rs rp rpc m (((Below.refl _ _).alloc (by simp) OA).trans (hb3.mono (by simp))))
  have HY := Lib.hid (fun (w3 : World) (cs : Array Value) (t : TypeId) (hb3 : Below (((((w.alloc (.cells #[.int .u8 ra, .int .u8 rx, .int .u8 ry, .int .u8 rs, .int .u8 rp, .int .u16 rpc] 57)).alloc (.cells #[.int .u8 m] 5)).alloc (.cells #[.int .u8 0, .int .u8 0, .int .u8 0, .int .u8 0, .int .u8 0, .int .u16 0] 57)).alloc OA).alloc (.cells cs t)).heap.size (((((w.alloc (.cells #[.int .u8 ra, .int .u8 rx, .int .u8 ry, .int .u8 rs, .int .u8 rp, .int .u16 rpc] 57)).alloc (.cells #[.int .u8 m] 5)).alloc (.cells #[.int .u8 0, .int .u8 0, .int .u8 0, .int .u8 0, .int .u8 0, .int .u16 0] 57)).alloc OA).alloc (.cells cs t)) w3) => reg3 w w3 ra rx ry rs rp rpc m ((((Below.refl _ _).alloc (by simp) OA).alloc (by simp) _).trans (hb3.mono (by simp))))
  have HSh : Hid (∀ w, Calls Tryz.prog 186 #[.string n] w fun e w' => e = .returned (.nilFunc) ∧ Below w.heap.size w w') := Lib.hid (fun w => by have h := shift_any n w; rw [hsh] at h; exact h)
  have hnN := neqN
  have hnF := neqF
  clear hsh hat
  obtain rfl := of_list hn
  clear hn
  obtain ⟨q1, e1⟩ : ∃ q, q = readsR [67, 77, 80] (R.mk ra rx ry rs rp rpc) ((m - 1) % 256) := ⟨_, rfl⟩
  have HA : Hid (∀ w, Calls Tryz.prog 175 #[.string ⟨#[67, 77, 80]⟩, .agg #[.int .u8 ra, .int .u8 rx, .int .u8 ry, .int .u8 rs, .int .u8 rp, .int .u16 rpc], .int .u8 ((m - 1) % 256)] w fun e w' => e = .returned (.agg #[.int .u8 q1.a, .int .u8 q1.x, .int .u8 q1.y, .int .u8 q1.s, .int .u8 q1.p, .int .u16 q1.pc]) ∧ Below w.heap.size w w') := Lib.hid (fun w => by have h := reads_any ⟨#[67, 77, 80]⟩ (R.mk ra rx ry rs rp rpc) ((m - 1) % 256) w hr0 (mod_by _); rw [show readsR (ByteArray.toList ⟨#[67, 77, 80]⟩) (R.mk ra rx ry rs rp rpc) ((m - 1) % 256) = q1 from by rw [e1, Lib.toList_data]] at h; exact h)
  rw [← e1]
  clear e1 hr0
  have HZ : Hid (∀ w3 w4 : World, w3.heap.size ≤ w4.heap.size → Below w3.heap.size (w3.setCell ⟨w.heap.size + 1, 0, none⟩ (.int .u8 ((m - 1) % 256))) w4 → Blk w3 (w.heap.size + 1) 5 #[.int .u8 m] → Blk w3 (w.heap.size + 2) 57 #[.int .u8 0, .int .u8 0, .int .u8 0, .int .u8 0, .int .u8 0, .int .u16 0] → Below w.heap.size w w3 →
      Blk w4 (w.heap.size + 1) 5 #[.int .u8 ((m - 1) % 256)] ∧ Blk w4 (w.heap.size + 2) 57 #[.int .u8 0, .int .u8 0, .int .u8 0, .int .u8 0, .int .u8 0, .int .u16 0] ∧ Below w.heap.size w w4) := Lib.hid (fun w3 w4 _ hb A2 A3 h0 => ⟨(A2.set_ 0 _).below hb A2.lt, (A3.far (by simp) _).below hb A3.lt, (h0.setCell (by simp) _).trans (hb.mono h0.size)⟩)
  simp only [R.val]
  go_enter Tryz.func170, Tryz.ntmps170
  go_wp2_with (go_at_call 186; refine (HSh.out _).mono ?_; rintro e w3 ⟨rfl, hb3⟩; obtain ⟨A1, A2, A3, hb⟩ := HY.out w3 _ _ ⟨hb3.os, hb3.tape, hb3.output, hb3.size, hb3.block⟩; obtain ⟨⟨K0, K1, K2, K3, K4, K5⟩, F0, F1, F2, F3, F4, F5⟩ := cells6 A1; obtain ⟨K6, F6⟩ := cells1 A2; obtain ⟨⟨Z0, Z1, Z2, Z3, Z4, Z5⟩, G0, G1, G2, G3, G4, G5⟩ := cells6 A3; have B2 := Lib.hid A2; have B3 := Lib.hid A3; clear A1 A2 A3)
  go_region_with (go_at_call 175; refine (HA.out _).mono ?_; rintro e w4 ⟨rfl, hb4⟩; obtain ⟨C2, C3, hb9⟩ := HZ.out w3 w4 (by have := hb4.size; simpa using this) ⟨hb4.os, hb4.tape, hb4.output, by have := hb4.size; simpa using this, fun k hk => hb4.block k (by simpa using hk)⟩ B2.out B3.out hb; obtain ⟨K7, F7⟩ := cells1 C2; obtain ⟨⟨Y0, Y1, Y2, Y3, Y4, Y5⟩, H0, H1, H2, H3, H4, H5⟩ := cells6 C3; clear C2 C3)
  all_goals go_wp2
  all_goals
    refine bodyPost_ret (v := .tuple #[(.agg #[.int .u8 q1.a, .int .u8 q1.x, .int .u8 q1.y, .int .u8 q1.s, .int .u8 q1.p, .int .u16 q1.pc]), .int .u8 ((m - 1) % 256)]) ?_ rfl ⟨rfl, ?_⟩
    · simp [results, Tryz.results170, go_sem, *]
    · repeat (refine Below.setCell ?_ (by first | (simp; done) | (simp; omega)) _)
      exact hb9
set_option maxHeartbeats 12800000 in
set_option maxRecDepth 100000 in
theorem mod_ISC (n : ByteArray) (r : R) (m : Int) (w : World) (hr : r.ok) (_hm : By m) (hn : (n.toList == [73, 83, 67]) = true) (hat : atName n.toList bothT = none) (hsh : (atName n.toList shiftT).getD .nilFunc = .nilFunc) :
    Calls Tryz.prog 170 #[.string n, r.val, .int .u8 m] w fun e w' => e = .returned (.tuple #[(readsR [83, 66, 67] r ((m + 1) % 256)).val, .int .u8 ((m + 1) % 256)]) ∧ Below w.heap.size w w' := by
  obtain ⟨ra, rx, ry, rs, rp, rpc⟩ := r
  have hr0 := hr
  obtain ⟨ha, hx, hy, hs, hp, hq⟩ := hr
  obtain ⟨O0, O1, O2, O3, OA, hmm, l0, l1, l2, l3, hlk⟩ := both_laid (((w.alloc (.cells #[.int .u8 ra, .int .u8 rx, .int .u8 ry, .int .u8 rs, .int .u8 rp, .int .u16 rpc] 57)).alloc (.cells #[.int .u8 m] 5)).alloc (.cells #[.int .u8 0, .int .u8 0, .int .u8 0, .int .u8 0, .int .u8 0, .int .u16 0] 57)) n _ hat
  replace hlk : (Instr.lookup 195 (.map (some (((w.alloc (.cells #[.int .u8 ra, .int .u8 rx, .int .u8 ry, .int .u8 rs, .int .u8 rp, .int .u16 rpc] 57)).alloc (.cells #[.int .u8 m] 5)).alloc (.cells #[.int .u8 0, .int .u8 0, .int .u8 0, .int .u8 0, .int .u8 0, .int .u16 0] 57)).heap.size)) (.string n) false).run Tryz.prog ((((w.alloc (.cells #[.int .u8 ra, .int .u8 rx, .int .u8 ry, .int .u8 rs, .int .u8 rp, .int .u16 rpc] 57)).alloc (.cells #[.int .u8 m] 5)).alloc (.cells #[.int .u8 0, .int .u8 0, .int .u8 0, .int .u8 0, .int .u8 0, .int .u16 0] 57)).alloc OA) = .ok (.agg #[.string ⟨#[]⟩, .string ⟨#[]⟩]) ((((w.alloc (.cells #[.int .u8 ra, .int .u8 rx, .int .u8 ry, .int .u8 rs, .int .u8 rp, .int .u16 rpc] 57)).alloc (.cells #[.int .u8 m] 5)).alloc (.cells #[.int .u8 0, .int .u8 0, .int .u8 0, .int .u8 0, .int .u8 0, .int .u16 0] 57)).alloc OA) := hlk
  simp only [World.size_alloc] at hmm l0 l1 l2 l3 hlk
  have HX := Lib.hid (fun (w3 : World) (hb3 : Below ((((w.alloc (.cells #[.int .u8 ra, .int .u8 rx, .int .u8 ry, .int .u8 rs, .int .u8 rp, .int .u16 rpc] 57)).alloc (.cells #[.int .u8 m] 5)).alloc (.cells #[.int .u8 0, .int .u8 0, .int .u8 0, .int .u8 0, .int .u8 0, .int .u16 0] 57)).alloc OA).heap.size ((((w.alloc (.cells #[.int .u8 ra, .int .u8 rx, .int .u8 ry, .int .u8 rs, .int .u8 rp, .int .u16 rpc] 57)).alloc (.cells #[.int .u8 m] 5)).alloc (.cells #[.int .u8 0, .int .u8 0, .int .u8 0, .int .u8 0, .int .u8 0, .int .u16 0] 57)).alloc OA) w3) => reg3 w w3 ra rx ry rs rp rpc m (((Below.refl _ _).alloc (by simp) OA).trans (hb3.mono (by simp))))
  have HY := Lib.hid (fun (w3 : World) (cs : Array Value) (t : TypeId) (hb3 : Below (((((w.alloc (.cells #[.int .u8 ra, .int .u8 rx, .int .u8 ry, .int .u8 rs, .int .u8 rp, .int .u16 rpc] 57)).alloc (.cells #[.int .u8 m] 5)).alloc (.cells #[.int .u8 0, .int .u8 0, .int .u8 0, .int .u8 0, .int .u8 0, .int .u16 0] 57)).alloc OA).alloc (.cells cs t)).heap.size (((((w.alloc (.cells #[.int .u8 ra, .int .u8 rx, .int .u8 ry, .int .u8 rs, .int .u8 rp, .int .u16 rpc] 57)).alloc (.cells #[.int .u8 m] 5)).alloc (.cells #[.int .u8 0, .int .u8 0, .int .u8 0, .int .u8 0, .int .u8 0, .int .u16 0] 57)).alloc OA).alloc (.cells cs t)) w3) => reg3 w w3 ra rx ry rs rp rpc m ((((Below.refl _ _).alloc (by simp) OA).alloc (by simp) _).trans (hb3.mono (by simp))))
  have HSh : Hid (∀ w, Calls Tryz.prog 186 #[.string n] w fun e w' => e = .returned (.nilFunc) ∧ Below w.heap.size w w') := Lib.hid (fun w => by have h := shift_any n w; rw [hsh] at h; exact h)
  have hnN := neqN
  have hnF := neqF
  clear hsh hat
  obtain rfl := of_list hn
  clear hn
  obtain ⟨q1, e1⟩ : ∃ q, q = readsR [83, 66, 67] (R.mk ra rx ry rs rp rpc) ((m + 1) % 256) := ⟨_, rfl⟩
  have HA : Hid (∀ w, Calls Tryz.prog 175 #[.string ⟨#[83, 66, 67]⟩, .agg #[.int .u8 ra, .int .u8 rx, .int .u8 ry, .int .u8 rs, .int .u8 rp, .int .u16 rpc], .int .u8 ((m + 1) % 256)] w fun e w' => e = .returned (.agg #[.int .u8 q1.a, .int .u8 q1.x, .int .u8 q1.y, .int .u8 q1.s, .int .u8 q1.p, .int .u16 q1.pc]) ∧ Below w.heap.size w w') := Lib.hid (fun w => by have h := reads_any ⟨#[83, 66, 67]⟩ (R.mk ra rx ry rs rp rpc) ((m + 1) % 256) w hr0 (mod_by _); rw [show readsR (ByteArray.toList ⟨#[83, 66, 67]⟩) (R.mk ra rx ry rs rp rpc) ((m + 1) % 256) = q1 from by rw [e1, Lib.toList_data]] at h; exact h)
  rw [← e1]
  clear e1 hr0
  have HZ : Hid (∀ w3 w4 : World, w3.heap.size ≤ w4.heap.size → Below w3.heap.size (w3.setCell ⟨w.heap.size + 1, 0, none⟩ (.int .u8 ((m + 1) % 256))) w4 → Blk w3 (w.heap.size + 1) 5 #[.int .u8 m] → Blk w3 (w.heap.size + 2) 57 #[.int .u8 0, .int .u8 0, .int .u8 0, .int .u8 0, .int .u8 0, .int .u16 0] → Below w.heap.size w w3 →
      Blk w4 (w.heap.size + 1) 5 #[.int .u8 ((m + 1) % 256)] ∧ Blk w4 (w.heap.size + 2) 57 #[.int .u8 0, .int .u8 0, .int .u8 0, .int .u8 0, .int .u8 0, .int .u16 0] ∧ Below w.heap.size w w4) := Lib.hid (fun w3 w4 _ hb A2 A3 h0 => ⟨(A2.set_ 0 _).below hb A2.lt, (A3.far (by simp) _).below hb A3.lt, (h0.setCell (by simp) _).trans (hb.mono h0.size)⟩)
  simp only [R.val]
  go_enter Tryz.func170, Tryz.ntmps170
  go_wp2_with (go_at_call 186; refine (HSh.out _).mono ?_; rintro e w3 ⟨rfl, hb3⟩; obtain ⟨A1, A2, A3, hb⟩ := HY.out w3 _ _ ⟨hb3.os, hb3.tape, hb3.output, hb3.size, hb3.block⟩; obtain ⟨⟨K0, K1, K2, K3, K4, K5⟩, F0, F1, F2, F3, F4, F5⟩ := cells6 A1; obtain ⟨K6, F6⟩ := cells1 A2; obtain ⟨⟨Z0, Z1, Z2, Z3, Z4, Z5⟩, G0, G1, G2, G3, G4, G5⟩ := cells6 A3; have B2 := Lib.hid A2; have B3 := Lib.hid A3; clear A1 A2 A3)
  go_region_with (go_at_call 175; refine (HA.out _).mono ?_; rintro e w4 ⟨rfl, hb4⟩; obtain ⟨C2, C3, hb9⟩ := HZ.out w3 w4 (by have := hb4.size; simpa using this) ⟨hb4.os, hb4.tape, hb4.output, by have := hb4.size; simpa using this, fun k hk => hb4.block k (by simpa using hk)⟩ B2.out B3.out hb; obtain ⟨K7, F7⟩ := cells1 C2; obtain ⟨⟨Y0, Y1, Y2, Y3, Y4, Y5⟩, H0, H1, H2, H3, H4, H5⟩ := cells6 C3; clear C2 C3)
  all_goals go_wp2
  all_goals
    refine bodyPost_ret (v := .tuple #[(.agg #[.int .u8 q1.a, .int .u8 q1.x, .int .u8 q1.y, .int .u8 q1.s, .int .u8 q1.p, .int .u16 q1.pc]), .int .u8 ((m + 1) % 256)]) ?_ rfl ⟨rfl, ?_⟩
    · simp [results, Tryz.results170, go_sem, *]
    · repeat (refine Below.setCell ?_ (by first | (simp; done) | (simp; omega)) _)
      exact hb9
end Go.Proofs.YtifajfjiloajfaaGreatDoor.OwnEff

/- What an opcode that modifies does: two in one, the others, and all together. Conditions: bytes are bytes. -/
import Derived.Test.YtifajfjiloajfaaGreatDoorEffI
namespace Go.Proofs.YtifajfjiloajfaaGreatDoor.OwnEff
open Go.RowKit Go.Proofs.YtifajfjiloajfaaGreatDoor.Own

set_option maxHeartbeats 12800000 in
set_option maxRecDepth 100000 in
theorem mod_SRE (n : ByteArray) (r : R) (m : Int) (w : World) (hr : r.ok) (hm : By m) (hn : (n.toList == [83, 82, 69]) = true) :
    Calls Tryz.prog 170 #[.string n, r.val, .int .u8 m] w fun e w' => e = .returned (.tuple #[(readsR [69, 79, 82] (modOne [76, 83, 82] r m).1 (modOne [76, 83, 82] r m).2).val, .int .u8 ((modOne [76, 83, 82] r m).2)]) ∧ Below w.heap.size w w' := by
  obtain ⟨ra, rx, ry, rs, rp, rpc⟩ := r
  have hr0 := hr
  obtain ⟨ha, hx, hy, hs, hp, hq⟩ := hr
  have hat : atName n.toList bothT = some (.agg #[.string ⟨#[76, 83, 82]⟩, .string ⟨#[69, 79, 82]⟩]) := by rw [of_list hn]; simp [bothT, atName, Lib.toList_data]
  obtain ⟨O0, O1, O2, O3, OA, hmm, l0, l1, l2, l3, hlk⟩ := both_laid (((w.alloc (.cells #[.int .u8 ra, .int .u8 rx, .int .u8 ry, .int .u8 rs, .int .u8 rp, .int .u16 rpc] 57)).alloc (.cells #[.int .u8 m] 5)).alloc (.cells #[.int .u8 0, .int .u8 0, .int .u8 0, .int .u8 0, .int .u8 0, .int .u16 0] 57)) n _ hat
  replace hlk : (Instr.lookup 195 (.map (some (((w.alloc (.cells #[.int .u8 ra, .int .u8 rx, .int .u8 ry, .int .u8 rs, .int .u8 rp, .int .u16 rpc] 57)).alloc (.cells #[.int .u8 m] 5)).alloc (.cells #[.int .u8 0, .int .u8 0, .int .u8 0, .int .u8 0, .int .u8 0, .int .u16 0] 57)).heap.size)) (.string n) false).run Tryz.prog ((((w.alloc (.cells #[.int .u8 ra, .int .u8 rx, .int .u8 ry, .int .u8 rs, .int .u8 rp, .int .u16 rpc] 57)).alloc (.cells #[.int .u8 m] 5)).alloc (.cells #[.int .u8 0, .int .u8 0, .int .u8 0, .int .u8 0, .int .u8 0, .int .u16 0] 57)).alloc OA) = .ok (.agg #[.string ⟨#[76, 83, 82]⟩, .string ⟨#[69, 79, 82]⟩]) ((((w.alloc (.cells #[.int .u8 ra, .int .u8 rx, .int .u8 ry, .int .u8 rs, .int .u8 rp, .int .u16 rpc] 57)).alloc (.cells #[.int .u8 m] 5)).alloc (.cells #[.int .u8 0, .int .u8 0, .int .u8 0, .int .u8 0, .int .u8 0, .int .u16 0] 57)).alloc OA) := hlk
  simp only [World.size_alloc] at hmm l0 l1 l2 l3 hlk
  have HX := Lib.hid (fun (w3 : World) (hb3 : Below ((((w.alloc (.cells #[.int .u8 ra, .int .u8 rx, .int .u8 ry, .int .u8 rs, .int .u8 rp, .int .u16 rpc] 57)).alloc (.cells #[.int .u8 m] 5)).alloc (.cells #[.int .u8 0, .int .u8 0, .int .u8 0, .int .u8 0, .int .u8 0, .int .u16 0] 57)).alloc OA).heap.size ((((w.alloc (.cells #[.int .u8 ra, .int .u8 rx, .int .u8 ry, .int .u8 rs, .int .u8 rp, .int .u16 rpc] 57)).alloc (.cells #[.int .u8 m] 5)).alloc (.cells #[.int .u8 0, .int .u8 0, .int .u8 0, .int .u8 0, .int .u8 0, .int .u16 0] 57)).alloc OA) w3) => reg3 w w3 ra rx ry rs rp rpc m (((Below.refl _ _).alloc (by simp) OA).trans (hb3.mono (by simp))))
  have HY := Lib.hid (fun (w3 : World) (cs : Array Value) (t : TypeId) (hb3 : Below (((((w.alloc (.cells #[.int .u8 ra, .int .u8 rx, .int .u8 ry, .int .u8 rs, .int .u8 rp, .int .u16 rpc] 57)).alloc (.cells #[.int .u8 m] 5)).alloc (.cells #[.int .u8 0, .int .u8 0, .int .u8 0, .int .u8 0, .int .u8 0, .int .u16 0] 57)).alloc OA).alloc (.cells cs t)).heap.size (((((w.alloc (.cells #[.int .u8 ra, .int .u8 rx, .int .u8 ry, .int .u8 rs, .int .u8 rp, .int .u16 rpc] 57)).alloc (.cells #[.int .u8 m] 5)).alloc (.cells #[.int .u8 0, .int .u8 0, .int .u8 0, .int .u8 0, .int .u8 0, .int .u16 0] 57)).alloc OA).alloc (.cells cs t)) w3) => reg3 w w3 ra rx ry rs rp rpc m ((((Below.refl _ _).alloc (by simp) OA).alloc (by simp) _).trans (hb3.mono (by simp))))
  clear hat HX
  obtain rfl := of_list hn
  clear hn
  obtain ⟨q0, e0⟩ : ∃ q, q = modOne [76, 83, 82] (R.mk ra rx ry rs rp rpc) m := ⟨_, rfl⟩
  have g0 : q0.1.ok ∧ By q0.2 := e0 ▸ modOne_ok hr0 hm
  obtain ⟨q1, e1⟩ : ∃ q, q = readsR [69, 79, 82] q0.1 q0.2 := ⟨_, rfl⟩
  have HM : Hid (∀ w, Calls Tryz.prog 170 #[.string ⟨#[76, 83, 82]⟩, .agg #[.int .u8 ra, .int .u8 rx, .int .u8 ry, .int .u8 rs, .int .u8 rp, .int .u16 rpc], .int .u8 m] w fun e w' => e = .returned (.tuple #[(.agg #[.int .u8 q0.1.a, .int .u8 q0.1.x, .int .u8 q0.1.y, .int .u8 q0.1.s, .int .u8 q0.1.p, .int .u16 q0.1.pc]), .int .u8 q0.2]) ∧ Below w.heap.size w w') := Lib.hid (fun w => by
    have h := mod_one ⟨#[76, 83, 82]⟩ (R.mk ra rx ry rs rp rpc) m w hr0 hm (by simp [bothT, atName, Lib.toList_data])
    rw [show modOne (ByteArray.toList ⟨#[76, 83, 82]⟩) (R.mk ra rx ry rs rp rpc) m = q0 from by rw [e0, Lib.toList_data]] at h; exact h)
  have HA : Hid (∀ w, Calls Tryz.prog 175 #[.string ⟨#[69, 79, 82]⟩, (.agg #[.int .u8 q0.1.a, .int .u8 q0.1.x, .int .u8 q0.1.y, .int .u8 q0.1.s, .int .u8 q0.1.p, .int .u16 q0.1.pc]), .int .u8 q0.2] w fun e w' => e = .returned (.agg #[.int .u8 q1.a, .int .u8 q1.x, .int .u8 q1.y, .int .u8 q1.s, .int .u8 q1.p, .int .u16 q1.pc]) ∧ Below w.heap.size w w') := Lib.hid (fun w => by have h := reads_any ⟨#[69, 79, 82]⟩ q0.1 q0.2 w g0.1 g0.2; rw [show readsR (ByteArray.toList ⟨#[69, 79, 82]⟩) q0.1 q0.2 = q1 from by rw [e1, Lib.toList_data]] at h; exact h)
  rw [← e0, ← e1]
  clear e0 e1 g0 hr0
  have HP : Hid (∀ w3 : World, Below (((((w.alloc (.cells #[.int .u8 ra, .int .u8 rx, .int .u8 ry, .int .u8 rs, .int .u8 rp, .int .u16 rpc] 57)).alloc (.cells #[.int .u8 m] 5)).alloc (.cells #[.int .u8 0, .int .u8 0, .int .u8 0, .int .u8 0, .int .u8 0, .int .u16 0] 57)).alloc OA).alloc (.cells #[.string ⟨#[76, 83, 82]⟩, .string ⟨#[69, 79, 82]⟩] 194)).heap.size (((((w.alloc (.cells #[.int .u8 ra, .int .u8 rx, .int .u8 ry, .int .u8 rs, .int .u8 rp, .int .u16 rpc] 57)).alloc (.cells #[.int .u8 m] 5)).alloc (.cells #[.int .u8 0, .int .u8 0, .int .u8 0, .int .u8 0, .int .u8 0, .int .u16 0] 57)).alloc OA).alloc (.cells #[.string ⟨#[76, 83, 82]⟩, .string ⟨#[69, 79, 82]⟩] 194)) w3 → Blk w3 (w.heap.size + 1 + 1 + 1 + 1) 194 #[.string ⟨#[76, 83, 82]⟩, .string ⟨#[69, 79, 82]⟩]) := Lib.hid (fun w3 hb => by
    have h := (Blk.new ((((w.alloc (.cells #[.int .u8 ra, .int .u8 rx, .int .u8 ry, .int .u8 rs, .int .u8 rp, .int .u16 rpc] 57)).alloc (.cells #[.int .u8 m] 5)).alloc (.cells #[.int .u8 0, .int .u8 0, .int .u8 0, .int .u8 0, .int .u8 0, .int .u16 0] 57)).alloc OA) 194 #[.string ⟨#[76, 83, 82]⟩, .string ⟨#[69, 79, 82]⟩])
    have h2 := h.below hb (by simp)
    simp only [World.size_alloc] at h2
    exact h2)
  have HQ : Hid (∀ w3 W5 : World, (((((((w3.setCell ⟨w.heap.size, 0, none⟩ (.int .u8 q0.1.a)).setCell ⟨w.heap.size, 1, none⟩ (.int .u8 q0.1.x)).setCell ⟨w.heap.size, 2, none⟩ (.int .u8 q0.1.y)).setCell ⟨w.heap.size, 3, none⟩ (.int .u8 q0.1.s)).setCell ⟨w.heap.size, 4, none⟩ (.int .u8 q0.1.p)).setCell ⟨w.heap.size, 5, none⟩ (.int .u16 q0.1.pc)).setCell ⟨w.heap.size + 1, 0, none⟩ (.int .u8 q0.2)) = W5 → Blk w3 w.heap.size 57 #[.int .u8 ra, .int .u8 rx, .int .u8 ry, .int .u8 rs, .int .u8 rp, .int .u16 rpc] → Blk w3 (w.heap.size + 1) 5 #[.int .u8 m] → Blk w3 (w.heap.size + 2) 57 #[.int .u8 0, .int .u8 0, .int .u8 0, .int .u8 0, .int .u8 0, .int .u16 0] → Blk w3 (w.heap.size + 1 + 1 + 1 + 1) 194 #[.string ⟨#[76, 83, 82]⟩, .string ⟨#[69, 79, 82]⟩] → Below w.heap.size w w3 →
      Blk W5 w.heap.size 57 #[.int .u8 q0.1.a, .int .u8 q0.1.x, .int .u8 q0.1.y, .int .u8 q0.1.s, .int .u8 q0.1.p, .int .u16 q0.1.pc] ∧ Blk W5 (w.heap.size + 1) 5 #[.int .u8 q0.2] ∧ Blk W5 (w.heap.size + 2) 57 #[.int .u8 0, .int .u8 0, .int .u8 0, .int .u8 0, .int .u8 0, .int .u16 0] ∧ W5.cell? ⟨w.heap.size + 1 + 1 + 1 + 1, 1, none⟩ = some (.string ⟨#[69, 79, 82]⟩) ∧ Below w.heap.size w W5) := Lib.hid (fun w3 W5 hW A1 A2 A3 A4 h0 => by
        subst hW
        exact ⟨((((((A1.set_ 0 _).set_ 1 _).set_ 2 _).set_ 3 _).set_ 4 _).set_ 5 _).far (by simp) _,
         (((((((A2.far (by simp) _).far (by simp) _).far (by simp) _).far (by simp) _).far (by simp) _).far (by simp) _).set_ 0 _),
         (((((((A3.far (by simp) _).far (by simp) _).far (by simp) _).far (by simp) _).far (by simp) _).far (by simp) _).far (by simp) _),
         ((((((((A4.far (by simp; omega) _).far (by simp; omega) _).far (by simp; omega) _).far (by simp; omega) _).far (by simp; omega) _).far (by simp; omega) _).far (by simp; omega) _).cell 1).trans rfl,
         (((((((h0.setCell (by simp) _).setCell (by simp) _).setCell (by simp) _).setCell (by simp) _).setCell (by simp) _).setCell (by simp) _).setCell (by simp) _)⟩)
  simp only [R.val]
  go_enter Tryz.func170, Tryz.ntmps170
  go_wp2_with (go_at_call 170; refine (HM.out _).mono ?_; rintro e w3 ⟨rfl, hb3⟩; obtain ⟨A1, A2, A3, hb⟩ := HY.out w3 _ _ ⟨hb3.os, hb3.tape, hb3.output, hb3.size, hb3.block⟩; have B4 := Lib.hid (HP.out w3 ⟨hb3.os, hb3.tape, hb3.output, hb3.size, hb3.block⟩); have B1 := Lib.hid A1; obtain ⟨⟨K0, K1, K2, K3, K4, K5⟩, F0, F1, F2, F3, F4, F5⟩ := cells6 A1; obtain ⟨K6, F6⟩ := cells1 A2; have B2 := Lib.hid A2; have B3 := Lib.hid A3; clear A1 A2 A3)
  generalize hW : (((((((w3.setCell ⟨w.heap.size, 0, none⟩ (.int .u8 q0.1.a)).setCell ⟨w.heap.size, 1, none⟩ (.int .u8 q0.1.x)).setCell ⟨w.heap.size, 2, none⟩ (.int .u8 q0.1.y)).setCell ⟨w.heap.size, 3, none⟩ (.int .u8 q0.1.s)).setCell ⟨w.heap.size, 4, none⟩ (.int .u8 q0.1.p)).setCell ⟨w.heap.size, 5, none⟩ (.int .u16 q0.1.pc)).setCell ⟨w.heap.size + 1, 0, none⟩ (.int .u8 q0.2)) = W5
  obtain ⟨D1, D2, D3, P1, hb5⟩ := HQ.out w3 W5 hW B1.out B2.out B3.out B4.out hb
  clear hmm l0 l1 l2 l3 hlk HP HQ HM HY hb3
  clear hW K0 K1 K2 K3 K4 K5 K6 F0 F1 F2 F3 F4 F5 F6
  obtain ⟨⟨K0, K1, K2, K3, K4, K5⟩, F0, F1, F2, F3, F4, F5⟩ := cells6 D1
  obtain ⟨K6, F6⟩ := cells1 D2
  have E2 := Lib.hid D2
  have E3 := Lib.hid D3
  have E1 := Lib.hid D1
  have E4 := Lib.hid P1
  clear D1 D2 D3
  go_region_with (go_at_call 175; refine (HA.out _).mono ?_; rintro e w4 ⟨rfl, hb4⟩; have hb4' : Below W5.heap.size W5 w4 := ⟨hb4.os, hb4.tape, hb4.output, hb4.size, hb4.block⟩; have C2 := E2.out.below hb4' E2.out.lt; have C3 := E3.out.below hb4' E3.out.lt; obtain ⟨K7, F7⟩ := cells1 C2; obtain ⟨⟨Y0, Y1, Y2, Y3, Y4, Y5⟩, H0, H1, H2, H3, H4, H5⟩ := cells6 C3; obtain ⟨⟨J0, J1, J2, J3, J4, J5⟩, _⟩ := cells6 (E1.out.below hb4' E1.out.lt); have J6 := (hb4'.cell (World.block_lt_of_cell? _ _ E4.out)).trans E4.out; have hb9 := hb5.trans (hb4'.mono hb5.size); clear C2 C3)
  all_goals go_wp2
  all_goals
    refine bodyPost_ret (v := .tuple #[(.agg #[.int .u8 q1.a, .int .u8 q1.x, .int .u8 q1.y, .int .u8 q1.s, .int .u8 q1.p, .int .u16 q1.pc]), .int .u8 q0.2]) ?_ rfl ⟨rfl, ?_⟩
    · simp [results, Tryz.results170, go_sem, *]
    · repeat (refine Below.setCell ?_ (by first | (simp; done) | (simp; omega)) _)
      exact hb9
set_option maxHeartbeats 12800000 in
set_option maxRecDepth 100000 in
theorem mod_RRA (n : ByteArray) (r : R) (m : Int) (w : World) (hr : r.ok) (hm : By m) (hn : (n.toList == [82, 82, 65]) = true) :
    Calls Tryz.prog 170 #[.string n, r.val, .int .u8 m] w fun e w' => e = .returned (.tuple #[(readsR [65, 68, 67] (modOne [82, 79, 82] r m).1 (modOne [82, 79, 82] r m).2).val, .int .u8 ((modOne [82, 79, 82] r m).2)]) ∧ Below w.heap.size w w' := by
  obtain ⟨ra, rx, ry, rs, rp, rpc⟩ := r
  have hr0 := hr
  obtain ⟨ha, hx, hy, hs, hp, hq⟩ := hr
  have hat : atName n.toList bothT = some (.agg #[.string ⟨#[82, 79, 82]⟩, .string ⟨#[65, 68, 67]⟩]) := by rw [of_list hn]; simp [bothT, atName, Lib.toList_data]
  obtain ⟨O0, O1, O2, O3, OA, hmm, l0, l1, l2, l3, hlk⟩ := both_laid (((w.alloc (.cells #[.int .u8 ra, .int .u8 rx, .int .u8 ry, .int .u8 rs, .int .u8 rp, .int .u16 rpc] 57)).alloc (.cells #[.int .u8 m] 5)).alloc (.cells #[.int .u8 0, .int .u8 0, .int .u8 0, .int .u8 0, .int .u8 0, .int .u16 0] 57)) n _ hat
  replace hlk : (Instr.lookup 195 (.map (some (((w.alloc (.cells #[.int .u8 ra, .int .u8 rx, .int .u8 ry, .int .u8 rs, .int .u8 rp, .int .u16 rpc] 57)).alloc (.cells #[.int .u8 m] 5)).alloc (.cells #[.int .u8 0, .int .u8 0, .int .u8 0, .int .u8 0, .int .u8 0, .int .u16 0] 57)).heap.size)) (.string n) false).run Tryz.prog ((((w.alloc (.cells #[.int .u8 ra, .int .u8 rx, .int .u8 ry, .int .u8 rs, .int .u8 rp, .int .u16 rpc] 57)).alloc (.cells #[.int .u8 m] 5)).alloc (.cells #[.int .u8 0, .int .u8 0, .int .u8 0, .int .u8 0, .int .u8 0, .int .u16 0] 57)).alloc OA) = .ok (.agg #[.string ⟨#[82, 79, 82]⟩, .string ⟨#[65, 68, 67]⟩]) ((((w.alloc (.cells #[.int .u8 ra, .int .u8 rx, .int .u8 ry, .int .u8 rs, .int .u8 rp, .int .u16 rpc] 57)).alloc (.cells #[.int .u8 m] 5)).alloc (.cells #[.int .u8 0, .int .u8 0, .int .u8 0, .int .u8 0, .int .u8 0, .int .u16 0] 57)).alloc OA) := hlk
  simp only [World.size_alloc] at hmm l0 l1 l2 l3 hlk
  have HX := Lib.hid (fun (w3 : World) (hb3 : Below ((((w.alloc (.cells #[.int .u8 ra, .int .u8 rx, .int .u8 ry, .int .u8 rs, .int .u8 rp, .int .u16 rpc] 57)).alloc (.cells #[.int .u8 m] 5)).alloc (.cells #[.int .u8 0, .int .u8 0, .int .u8 0, .int .u8 0, .int .u8 0, .int .u16 0] 57)).alloc OA).heap.size ((((w.alloc (.cells #[.int .u8 ra, .int .u8 rx, .int .u8 ry, .int .u8 rs, .int .u8 rp, .int .u16 rpc] 57)).alloc (.cells #[.int .u8 m] 5)).alloc (.cells #[.int .u8 0, .int .u8 0, .int .u8 0, .int .u8 0, .int .u8 0, .int .u16 0] 57)).alloc OA) w3) => reg3 w w3 ra rx ry rs rp rpc m (((Below.refl _ _).alloc (by simp) OA).trans (hb3.mono (by simp))))
  have HY := Lib.hid (fun (w3 : World) (cs : Array Value) (t : TypeId) (hb3 : Below (((((w.alloc (.cells #[.int .u8 ra, .int .u8 rx, .int .u8 ry, .int .u8 rs, .int .u8 rp, .int .u16 rpc] 57)).alloc (.cells #[.int .u8 m] 5)).alloc (.cells #[.int .u8 0, .int .u8 0, .int .u8 0, .int .u8 0, .int .u8 0, .int .u16 0] 57)).alloc OA).alloc (.cells cs t)).heap.size (((((w.alloc (.cells #[.int .u8 ra, .int .u8 rx, .int .u8 ry, .int .u8 rs, .int .u8 rp, .int .u16 rpc] 57)).alloc (.cells #[.int .u8 m] 5)).alloc (.cells #[.int .u8 0, .int .u8 0, .int .u8 0, .int .u8 0, .int .u8 0, .int .u16 0] 57)).alloc OA).alloc (.cells cs t)) w3) => reg3 w w3 ra rx ry rs rp rpc m ((((Below.refl _ _).alloc (by simp) OA).alloc (by simp) _).trans (hb3.mono (by simp))))
  clear hat HX
  obtain rfl := of_list hn
  clear hn
  obtain ⟨q0, e0⟩ : ∃ q, q = modOne [82, 79, 82] (R.mk ra rx ry rs rp rpc) m := ⟨_, rfl⟩
  have g0 : q0.1.ok ∧ By q0.2 := e0 ▸ modOne_ok hr0 hm
  obtain ⟨q1, e1⟩ : ∃ q, q = readsR [65, 68, 67] q0.1 q0.2 := ⟨_, rfl⟩
  have HM : Hid (∀ w, Calls Tryz.prog 170 #[.string ⟨#[82, 79, 82]⟩, .agg #[.int .u8 ra, .int .u8 rx, .int .u8 ry, .int .u8 rs, .int .u8 rp, .int .u16 rpc], .int .u8 m] w fun e w' => e = .returned (.tuple #[(.agg #[.int .u8 q0.1.a, .int .u8 q0.1.x, .int .u8 q0.1.y, .int .u8 q0.1.s, .int .u8 q0.1.p, .int .u16 q0.1.pc]), .int .u8 q0.2]) ∧ Below w.heap.size w w') := Lib.hid (fun w => by
    have h := mod_one ⟨#[82, 79, 82]⟩ (R.mk ra rx ry rs rp rpc) m w hr0 hm (by simp [bothT, atName, Lib.toList_data])
    rw [show modOne (ByteArray.toList ⟨#[82, 79, 82]⟩) (R.mk ra rx ry rs rp rpc) m = q0 from by rw [e0, Lib.toList_data]] at h; exact h)
  have HA : Hid (∀ w, Calls Tryz.prog 175 #[.string ⟨#[65, 68, 67]⟩, (.agg #[.int .u8 q0.1.a, .int .u8 q0.1.x, .int .u8 q0.1.y, .int .u8 q0.1.s, .int .u8 q0.1.p, .int .u16 q0.1.pc]), .int .u8 q0.2] w fun e w' => e = .returned (.agg #[.int .u8 q1.a, .int .u8 q1.x, .int .u8 q1.y, .int .u8 q1.s, .int .u8 q1.p, .int .u16 q1.pc]) ∧ Below w.heap.size w w') := Lib.hid (fun w => by have h := reads_any ⟨#[65, 68, 67]⟩ q0.1 q0.2 w g0.1 g0.2; rw [show readsR (ByteArray.toList ⟨#[65, 68, 67]⟩) q0.1 q0.2 = q1 from by rw [e1, Lib.toList_data]] at h; exact h)
  rw [← e0, ← e1]
  clear e0 e1 g0 hr0
  have HP : Hid (∀ w3 : World, Below (((((w.alloc (.cells #[.int .u8 ra, .int .u8 rx, .int .u8 ry, .int .u8 rs, .int .u8 rp, .int .u16 rpc] 57)).alloc (.cells #[.int .u8 m] 5)).alloc (.cells #[.int .u8 0, .int .u8 0, .int .u8 0, .int .u8 0, .int .u8 0, .int .u16 0] 57)).alloc OA).alloc (.cells #[.string ⟨#[82, 79, 82]⟩, .string ⟨#[65, 68, 67]⟩] 194)).heap.size (((((w.alloc (.cells #[.int .u8 ra, .int .u8 rx, .int .u8 ry, .int .u8 rs, .int .u8 rp, .int .u16 rpc] 57)).alloc (.cells #[.int .u8 m] 5)).alloc (.cells #[.int .u8 0, .int .u8 0, .int .u8 0, .int .u8 0, .int .u8 0, .int .u16 0] 57)).alloc OA).alloc (.cells #[.string ⟨#[82, 79, 82]⟩, .string ⟨#[65, 68, 67]⟩] 194)) w3 → Blk w3 (w.heap.size + 1 + 1 + 1 + 1) 194 #[.string ⟨#[82, 79, 82]⟩, .string ⟨#[65, 68, 67]⟩]) := Lib.hid (fun w3 hb => by
    have h := (Blk.new ((((w.alloc (.cells #[.int .u8 ra, .int .u8 rx, .int .u8 ry, .int .u8 rs, .int .u8 rp, .int .u16 rpc] 57)).alloc (.cells #[.int .u8 m] 5)).alloc (.cells #[.int .u8 0, .int .u8 0, .int .u8 0, .int .u8 0, .int .u8 0, .int .u16 0] 57)).alloc OA) 194 #[.string ⟨#[82, 79, 82]⟩, .string ⟨#[65, 68, 67]⟩])
    have h2 := h.below hb (by simp)
    simp only [World.size_alloc] at h2
    exact h2)
  have HQ : Hid (∀ w3 W5 : World, (((((((w3.setCell ⟨w.heap.size, 0, none⟩ (.int .u8 q0.1.a)).setCell ⟨w.heap.size, 1, none⟩ (.int .u8 q0.1.x)).setCell ⟨w.heap.size, 2, none⟩ (.int .u8 q0.1.y)).setCell ⟨w.heap.size, 3, none⟩ (.int .u8 q0.1.s)).setCell ⟨w.heap.size, 4, none⟩ (.int .u8 q0.1.p)).setCell ⟨w.heap.size, 5, none⟩ (.int .u16 q0.1.pc)).setCell ⟨w.heap.size + 1, 0, none⟩ (.int .u8 q0.2)) = W5 → Blk w3 w.heap.size 57 #[.int .u8 ra, .int .u8 rx, .int .u8 ry, .int .u8 rs, .int .u8 rp, .int .u16 rpc] → Blk w3 (w.heap.size + 1) 5 #[.int .u8 m] → Blk w3 (w.heap.size + 2) 57 #[.int .u8 0, .int .u8 0, .int .u8 0, .int .u8 0, .int .u8 0, .int .u16 0] → Blk w3 (w.heap.size + 1 + 1 + 1 + 1) 194 #[.string ⟨#[82, 79, 82]⟩, .string ⟨#[65, 68, 67]⟩] → Below w.heap.size w w3 →
      Blk W5 w.heap.size 57 #[.int .u8 q0.1.a, .int .u8 q0.1.x, .int .u8 q0.1.y, .int .u8 q0.1.s, .int .u8 q0.1.p, .int .u16 q0.1.pc] ∧ Blk W5 (w.heap.size + 1) 5 #[.int .u8 q0.2] ∧ Blk W5 (w.heap.size + 2) 57 #[.int .u8 0, .int .u8 0, .int .u8 0, .int .u8 0, .int .u8 0, .int .u16 0] ∧ W5.cell? ⟨w.heap.size + 1 + 1 + 1 + 1, 1, none⟩ = some (.string ⟨#[65, 68, 67]⟩) ∧ Below w.heap.size w W5) := Lib.hid (fun w3 W5 hW A1 A2 A3 A4 h0 => by
        subst hW
        exact ⟨((((((A1.set_ 0 _).set_ 1 _).set_ 2 _).set_ 3 _).set_ 4 _).set_ 5 _).far (by simp) _,
         (((((((A2.far (by simp) _).far (by simp) _).far (by simp) _).far (by simp) _).far (by simp) _).far (by simp) _).set_ 0 _),
         (((((((A3.far (by simp) _).far (by simp) _).far (by simp) _).far (by simp) _).far (by simp) _).far (by simp) _).far (by simp) _),
         ((((((((A4.far (by simp; omega) _).far (by simp; omega) _).far (by simp; omega) _).far (by simp; omega) _).far (by simp; omega) _).far (by simp; omega) _).far (by simp; omega) _).cell 1).trans rfl,
         (((((((h0.setCell (by simp) _).setCell (by simp) _).setCell (by simp) _).setCell (by simp) _).setCell (by simp) _).setCell (by simp) _).setCell (by simp) _)⟩)
  simp only [R.val]
  go_enter Tryz.func170, Tryz.ntmps170
  go_wp2_with (go_at_call 170; refine (HM.out _).mono ?_; rintro e w3 ⟨rfl, hb3⟩; obtain ⟨A1, A2, A3, hb⟩ := HY.out w3 _ _ ⟨hb3.os, hb3.tape, hb3.output, hb3.size, hb3.block⟩; have B4 := Lib.hid (HP.out w3 ⟨hb3.os, hb3.tape, hb3.output, hb3.size, hb3.block⟩); have B1 := Lib.hid A1; obtain ⟨⟨K0, K1, K2, K3, K4, K5⟩, F0, F1, F2, F3, F4, F5⟩ := cells6 A1; obtain ⟨K6, F6⟩ := cells1 A2; have B2 := Lib.hid A2; have B3 := Lib.hid A3; clear A1 A2 A3)
  generalize hW : (((((((w3.setCell ⟨w.heap.size, 0, none⟩ (.int .u8 q0.1.a)).setCell ⟨w.heap.size, 1, none⟩ (.int .u8 q0.1.x)).setCell ⟨w.heap.size, 2, none⟩ (.int .u8 q0.1.y)).setCell ⟨w.heap.size, 3, none⟩ (.int .u8 q0.1.s)).setCell ⟨w.heap.size, 4, none⟩ (.int .u8 q0.1.p)).setCell ⟨w.heap.size, 5, none⟩ (.int .u16 q0.1.pc)).setCell ⟨w.heap.size + 1, 0, none⟩ (.int .u8 q0.2)) = W5
  obtain ⟨D1, D2, D3, P1, hb5⟩ := HQ.out w3 W5 hW B1.out B2.out B3.out B4.out hb
  clear hmm l0 l1 l2 l3 hlk HP HQ HM HY hb3
  clear hW K0 K1 K2 K3 K4 K5 K6 F0 F1 F2 F3 F4 F5 F6
  obtain ⟨⟨K0, K1, K2, K3, K4, K5⟩, F0, F1, F2, F3, F4, F5⟩ := cells6 D1
  obtain ⟨K6, F6⟩ := cells1 D2
  have E2 := Lib.hid D2
  have E3 := Lib.hid D3
  have E1 := Lib.hid D1
  have E4 := Lib.hid P1
  clear D1 D2 D3
  go_region_with (go_at_call 175; refine (HA.out _).mono ?_; rintro e w4 ⟨rfl, hb4⟩; have hb4' : Below W5.heap.size W5 w4 := ⟨hb4.os, hb4.tape, hb4.output, hb4.size, hb4.block⟩; have C2 := E2.out.below hb4' E2.out.lt; have C3 := E3.out.below hb4' E3.out.lt; obtain ⟨K7, F7⟩ := cells1 C2; obtain ⟨⟨Y0, Y1, Y2, Y3, Y4, Y5⟩, H0, H1, H2, H3, H4, H5⟩ := cells6 C3; obtain ⟨⟨J0, J1, J2, J3, J4, J5⟩, _⟩ := cells6 (E1.out.below hb4' E1.out.lt); have J6 := (hb4'.cell (World.block_lt_of_cell? _ _ E4.out)).trans E4.out; have hb9 := hb5.trans (hb4'.mono hb5.size); clear C2 C3)
  all_goals go_wp2
  all_goals
    refine bodyPost_ret (v := .tuple #[(.agg #[.int .u8 q1.a, .int .u8 q1.x, .int .u8 q1.y, .int .u8 q1.s, .int .u8 q1.p, .int .u16 q1.pc]), .int .u8 q0.2]) ?_ rfl ⟨rfl, ?_⟩
    · simp [results, Tryz.results170, go_sem, *]
    · repeat (refine Below.setCell ?_ (by first | (simp; done) | (simp; omega)) _)
      exact hb9
theorem modifies_any (n : ByteArray) (r : R) (m : Int) (w : World) (hr : r.ok) (hm : By m) :
    Calls Tryz.prog 170 #[.string n, r.val, .int .u8 m] w fun e w' => e = .returned (.tuple #[(modR n.toList r m).1.val, .int .u8 (modR n.toList r m).2]) ∧ Below w.heap.size w w' := by
  unfold modR
  by_cases n0 : (n.toList == [83, 76, 79]) = true
  · rw [if_pos n0]; exact mod_SLO n r m w hr hm n0
  rw [if_neg n0]
  by_cases n1 : (n.toList == [82, 76, 65]) = true
  · rw [if_pos n1]; exact mod_RLA n r m w hr hm n1
  rw [if_neg n1]
  by_cases n2 : (n.toList == [83, 82, 69]) = true
  · rw [if_pos n2]; exact mod_SRE n r m w hr hm n2
  rw [if_neg n2]
  by_cases n3 : (n.toList == [82, 82, 65]) = true
  · rw [if_pos n3]; exact mod_RRA n r m w hr hm n3
  rw [if_neg n3]
  simp only [Bool.not_eq_true] at n0 n1 n2 n3
  exact mod_one n r m w hr hm (bothT_none n0 n1 n2 n3)
end Go.Proofs.YtifajfjiloajfaaGreatDoor.OwnEff

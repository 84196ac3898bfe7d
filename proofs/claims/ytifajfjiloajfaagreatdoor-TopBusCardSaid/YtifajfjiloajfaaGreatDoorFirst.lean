/- What the processor's cycles take: an opcode. Conditions: the processor is a block of its cells, its plan a row of its own; no interrupt is due. -/
import Derived.Test.YtifajfjiloajfaaGreatDoorMTakeG
import Derived.Test.YtifajfjiloajfaaGreatDoorMPlaces
import Derived.Test.YtifajfjiloajfaaGreatDoorMOps
import Derived.BigGuard
namespace Go.Proofs.YtifajfjiloajfaaGreatDoor.OwnCpu
open Go.RowKit Go.Proofs.YtifajfjiloajfaaGreatDoor.Own Go.Proofs.YtifajfjiloajfaaGreatDoor.OwnEff Go.Proofs.YtifajfjiloajfaaGreatDoor.OwnAddr

theorem TakeRet.trans {w wc wx : World} {g : Nat} {v v2 : Value} {c2 : C} {pl2 : List (Nat × Nat)} {e : Ending} (ho : ∀ b, v2.ownBlock = some b → v.ownBlock = some b ∨ w.heap.size ≤ b) (hk : Kept (fun k => k = g ∨ v.ownBlock = some k) w wc) (h : TakeRet wc g v2 c2 pl2 e wx) : TakeRet w g v c2 pl2 e wx := by
  obtain ⟨h1, v3, h2, h3, h4, h5, h6⟩ := h
  refine ⟨h1, v3, h2, h3, h4, fun b hb => ?_, hk.trans (h6.mono fun k _ hs => ?_)⟩
  · rcases h5 b hb with h | h
    · exact ho b h
    · exact .inr (Nat.le_trans hk.size h)
  · rcases hs with h | h
    · exact .inl (.inl h)
    · rcases ho k h with h | h
      · exact .inl (.inr h)
      · exact .inr h
set_option maxHeartbeats 12800000 in
set_option maxRecDepth 100000 in
theorem first_brk (g : Nat) (c : C) (v : Value) (pl : List (Nat × Nat)) (d : Int) (w : World) (h : CAt w g c v) (hp : PlanAt w v pl) (hne : v.ownBlock ≠ some g) (hl : pl.length ≤ 900) (hdue : c.due = false) (p1 : Int) (hp1 : p1 = IntKind.u16.wrap (c.r.pc + 1))
    (nm : ByteArray) (mo ki : Int) (HOf : ∀ w', Kept (fun k => k = g) w w' → Calls Tryz.prog 95 #[.int .u8 d] w' fun e w2 => e = .returned (.agg #[.string nm, .int .i64 mo, .int .i64 ki]) ∧ Below w'.heap.size w' w2)
    (hpl : (placesL mo ki).length ≤ 10) (hdl : (doesL nm.toList mo ki).length ≤ 10) (hb : (nm.toList == [66, 82, 75]) = true) :
    Calls Tryz.prog 70 #[.pointer (some ⟨g, 0, none⟩), .int .u8 d] w (TakeRet w g v ({ c with r := { c.r with pc := p1 }, name := nm, mode := mo, kind := ki, due := false, soft := true, quiet := true }) (pl ++ (placesL mo ki ++ doesL nm.toList mo ki))) := by
  have c5 : w.cell? ⟨g, 5, none⟩ = some (.int .u16 c.r.pc) := (Blk.cell h 5).trans rfl
  have f5 := Blk.frozen h 5
  have c18 : w.cell? ⟨g, 18, none⟩ = some (.bool c.soft) := (Blk.cell h 18).trans rfl
  have f18 := Blk.frozen h 18
  have c21 : w.cell? ⟨g, 21, none⟩ = some (.bool false) := by rw [← hdue]; exact (Blk.cell h 21).trans rfl
  have f21 := Blk.frozen h 21
  have hpw := hp1.symm
  clear hp1
  have hlt := Blk.lt h
  have hK1 : Kept (fun k => k = g) w (((w.setCell ⟨g, 21, none⟩ (.bool false)).setCell ⟨g, 18, none⟩ (.bool true)).setCell ⟨g, 5, none⟩ (.int .u16 p1)) := ((Kept.set g 21 (.bool false) (S := fun k => k = g) rfl).trans ((Kept.set g 18 (.bool true) (S := fun k => k = g) rfl).mono (fun k _ h => .inl h))).trans ((Kept.set g 5 (.int .u16 p1) (S := fun k => k = g) rfl).mono (fun k _ h => .inl h))
  have HO : Hid (Calls Tryz.prog 95 #[.int .u8 d] (((w.setCell ⟨g, 21, none⟩ (.bool false)).setCell ⟨g, 18, none⟩ (.bool true)).setCell ⟨g, 5, none⟩ (.int .u16 p1)) fun e w2 => e = .returned (.agg #[.string nm, .int .i64 mo, .int .i64 ki]) ∧ Below (((w.setCell ⟨g, 21, none⟩ (.bool false)).setCell ⟨g, 18, none⟩ (.bool true)).setCell ⟨g, 5, none⟩ (.int .u16 p1)).heap.size (((w.setCell ⟨g, 21, none⟩ (.bool false)).setCell ⟨g, 18, none⟩ (.bool true)).setCell ⟨g, 5, none⟩ (.int .u16 p1)) w2) := Lib.hid (HOf (((w.setCell ⟨g, 21, none⟩ (.bool false)).setCell ⟨g, 18, none⟩ (.bool true)).setCell ⟨g, 5, none⟩ (.int .u16 p1)) hK1)
  have HG : Hid (∀ w2, Below (((w.setCell ⟨g, 21, none⟩ (.bool false)).setCell ⟨g, 18, none⟩ (.bool true)).setCell ⟨g, 5, none⟩ (.int .u16 p1)).heap.size (((w.setCell ⟨g, 21, none⟩ (.bool false)).setCell ⟨g, 18, none⟩ (.bool true)).setCell ⟨g, 5, none⟩ (.int .u16 p1)) w2 → CAt w2 g { c with r := { c.r with pc := p1 }, due := false, soft := true } v ∧ CAt (((w2.setCell ⟨g, 6, none⟩ (.string nm)).setCell ⟨g, 7, none⟩ (.int .i64 mo)).setCell ⟨g, 8, none⟩ (.int .i64 ki)) g ({ c with r := { c.r with pc := p1 }, name := nm, mode := mo, kind := ki, due := false, soft := true }) v ∧ PlanAt (((w2.setCell ⟨g, 6, none⟩ (.string nm)).setCell ⟨g, 7, none⟩ (.int .i64 mo)).setCell ⟨g, 8, none⟩ (.int .i64 ki)) v pl ∧ Kept (fun k => k = g) w (((w2.setCell ⟨g, 6, none⟩ (.string nm)).setCell ⟨g, 7, none⟩ (.int .i64 mo)).setCell ⟨g, 8, none⟩ (.int .i64 ki))) := Lib.hid (fun w2 hb => by
    have b1 : CAt (((w.setCell ⟨g, 21, none⟩ (.bool false)).setCell ⟨g, 18, none⟩ (.bool true)).setCell ⟨g, 5, none⟩ (.int .u16 p1)) g { c with r := { c.r with pc := p1 }, due := false, soft := true } v := Blk.set_ (Blk.set_ (Blk.set_ h 21 (.bool false)) 18 (.bool true)) 5 (.int .u16 p1)
    have b2 := Blk.below b1 hb b1.lt
    have b3 : CAt (((w2.setCell ⟨g, 6, none⟩ (.string nm)).setCell ⟨g, 7, none⟩ (.int .i64 mo)).setCell ⟨g, 8, none⟩ (.int .i64 ki)) g ({ c with r := { c.r with pc := p1 }, name := nm, mode := mo, kind := ki, due := false, soft := true }) v := Blk.set_ (Blk.set_ (Blk.set_ b2 6 (.string nm)) 7 (.int .i64 mo)) 8 (.int .i64 ki)
    have k2 : Kept (fun k => k = g) w w2 := hK1.trans (Kept.below hb)
    have k3 : Kept (fun k => k = g) w2 (((w2.setCell ⟨g, 6, none⟩ (.string nm)).setCell ⟨g, 7, none⟩ (.int .i64 mo)).setCell ⟨g, 8, none⟩ (.int .i64 ki)) := ((Kept.set g 6 (.string nm) (S := fun k => k = g) rfl).trans ((Kept.set g 7 (.int .i64 mo) (S := fun k => k = g) rfl).mono (fun k _ h => .inl h))).trans ((Kept.set g 8 (.int .i64 ki) (S := fun k => k = g) rfl).mono (fun k _ h => .inl h))
    have k4 : Kept (fun k => k = g) w (((w2.setCell ⟨g, 6, none⟩ (.string nm)).setCell ⟨g, 7, none⟩ (.int .i64 mo)).setCell ⟨g, 8, none⟩ (.int .i64 ki)) := k2.trans (k3.mono (fun k _ h => .inl h))
    exact ⟨b2, b3, hp.kept k4 (fun b hb e => hne (e ▸ hb)), k4⟩)
  have HN := Lib.hid hne
  have HPl := Lib.hid (places_any nm mo ki)
  have HDo := Lib.hid (does_any nm mo ki)
  clear hK1 h hp hne HOf hdue
  obtain ⟨L1, hL1⟩ : ∃ L, L = placesL mo ki := ⟨_, rfl⟩
  obtain ⟨L2, hL2⟩ : ∃ L, L = doesL nm.toList mo ki := ⟨_, rfl⟩
  rw [← hL1] at HPl hpl ⊢
  rw [← hL2] at HDo hdl ⊢
  clear hL1 hL2
  go_enter Tryz.func70, Tryz.ntmps70
  go_wp2_with (go_at_call 95; refine HO.out.mono ?_; rintro e w2 ⟨rfl, hb2⟩; obtain ⟨b2, b3, g2, g3⟩ := HG.out w2 hb2; have k6 : w2.cell? ⟨g, 6, none⟩ = some (.string c.name) := (Blk.cell b2 6).trans rfl; have kf6 := Blk.frozen b2 6; have k7 : w2.cell? ⟨g, 7, none⟩ = some (.int .i64 c.mode) := (Blk.cell b2 7).trans rfl; have kf7 := Blk.frozen b2 7; have k8 : w2.cell? ⟨g, 8, none⟩ = some (.int .i64 c.kind) := (Blk.cell b2 8).trans rfl; have kf8 := Blk.frozen b2 8; have k9 : w2.cell? ⟨g, 9, none⟩ = some v := (Blk.cell b2 9).trans rfl; have GB := Lib.hid b3; have GP := Lib.hid g2; have GK := Lib.hid g3; clear b2 b3 g2 g3 hb2)
  clear c5 f5 c18 f18 c21 f21 hpw HO HG
  go_cut [] from 5 to 96 (fun wx => TakeRet w g v ({ c with r := { c.r with pc := p1 }, name := nm, mode := mo, kind := ki, due := false, soft := true }) (pl ++ L1) (.returned (.tuple #[])) wx)
  case first =>
    generalize hW : (((w2.setCell ⟨g, 6, none⟩ (.string nm)).setCell ⟨g, 7, none⟩ (.int .i64 mo)).setCell ⟨g, 8, none⟩ (.int .i64 ki)) = W5
    rw [hW] at GB GP GK
    have j9 : W5.cell? ⟨g, 9, none⟩ = some v := (Blk.cell GB.out 9).trans rfl
    have j6 : W5.cell? ⟨g, 6, none⟩ = some (.string nm) := (Blk.cell GB.out 6).trans rfl
    have j7 : W5.cell? ⟨g, 7, none⟩ = some (.int .i64 mo) := (Blk.cell GB.out 7).trans rfl
    have j8 : W5.cell? ⟨g, 8, none⟩ = some (.int .i64 ki) := (Blk.cell GB.out 8).trans rfl
    clear hW k6 kf6 k7 kf7 k8 kf8 k9
    have HW : Hid (∀ w4, Below W5.drew.heap.size W5.drew w4 → CAt w4 g ({ c with r := { c.r with pc := p1 }, name := nm, mode := mo, kind := ki, due := false, soft := true }) v ∧ PlanAt w4 v pl ∧ Kept (fun k => k = g) w w4) := Lib.hid (fun w4 hb =>
      have hb' : Below W5.heap.size W5 w4 := ⟨hb.os, hb.tape, hb.output, hb.size, hb.block⟩
      ⟨Blk.below GB.out hb' GB.out.lt, GP.out.below hb', GK.out.trans (Kept.below hb')⟩)
    go_region_law (first
      | (refine step_append_plan (by rfl) (.tmp 58) (.tmp 63) (by rfl) v pl (by rfl) G2.out _ L1 (by rfl) G3.out (by omega) ?_; intro v' w5 hP hgrow hat; obtain ⟨A9, n9, cap9, rfl⟩ := PlanAt.form2 hP; have B5 : CAt w5 g ({ c with r := { c.r with pc := p1 }, name := nm, mode := mo, kind := ki, due := false, soft := true }) v := Blk.grown G1.out hgrow (fun e => HN.out e.symm); have l9 : w5.cell? ⟨g, 9, none⟩ = some v := (Blk.cell B5 9).trans rfl; have lf9 := Blk.frozen B5 9; have H5 := Lib.hid B5; have H6 := Lib.hid hP; have H7 := Lib.hid hgrow; have H8 := Lib.hid hat; clear B5 hP hgrow hat)
      | (go_simp; go_at_call 96; refine (HPl.out _).mono ?_; rintro e w4 ⟨x, rfl, hx, hb4, hfx⟩; obtain ⟨A4, n4, cap4, rfl⟩ := PlanAt.form2 hx; obtain ⟨b4, g4, k4⟩ := HW.out w4 hb4; have m9 : w4.cell? ⟨g, 9, none⟩ = some v := (Blk.cell b4 9).trans rfl; have G1 := Lib.hid b4; have G2 := Lib.hid g4; have G3 := Lib.hid hx; have G4 := Lib.hid k4; clear b4 g4 k4 hx hb4 hfx))
    all_goals
      go_wp2_with fail
      go_meet
      exact TakeRet.close (W := w4) G4.out hlt HN.out H5.out H6.out H7.out H8.out
  case rest =>
    obtain ⟨_, v2, hC, hP, hN2, hO2, hK2⟩ := hcut
    have j9 : wc.cell? ⟨g, 9, none⟩ = some v2 := (Blk.cell hC 9).trans rfl
    have j6 : wc.cell? ⟨g, 6, none⟩ = some (.string nm) := (Blk.cell hC 6).trans rfl
    have j7 : wc.cell? ⟨g, 7, none⟩ = some (.int .i64 mo) := (Blk.cell hC 7).trans rfl
    have j8 : wc.cell? ⟨g, 8, none⟩ = some (.int .i64 ki) := (Blk.cell hC 8).trans rfl
    have hlt2 : g < wc.heap.size := hC.lt
    have HW : Hid (∀ w4, Below wc.drew.heap.size wc.drew w4 → CAt w4 g ({ c with r := { c.r with pc := p1 }, name := nm, mode := mo, kind := ki, due := false, soft := true }) v2 ∧ PlanAt w4 v2 (pl ++ L1) ∧ Kept (fun k => k = g) wc w4) := Lib.hid (fun w4 hb =>
      have hb' : Below wc.heap.size wc w4 := ⟨hb.os, hb.tape, hb.output, hb.size, hb.block⟩
      ⟨Blk.below hC hb' hC.lt, hP.below hb', Kept.below hb'⟩)
    have HN2 := Lib.hid hN2
    have HO2 := Lib.hid hO2
    have HK2 := Lib.hid hK2
    clear hC hP hN2 hO2 hK2 k6 kf6 k7 kf7 k8 kf8 k9 GB GP GK
    go_upto_region 9 with (fail)
    go_cut [] from 5 to 96 (fun wx => TakeRet w g v ({ c with r := { c.r with pc := p1 }, name := nm, mode := mo, kind := ki, due := false, soft := true }) (pl ++ (L1 ++ L2)) (.returned (.tuple #[])) wx)
    case first =>
      go_region_law (first
        | (refine step_append_plan (by rfl) (.tmp 71) (.tmp 76) (by rfl) v2 (pl ++ L1) (by rfl) G2.out _ L2 (by rfl) G3.out (by simp only [List.length_append]; omega) ?_; intro v' w5 hP hgrow hat; rw [List.append_assoc] at hP; obtain ⟨A9, n9, cap9, rfl⟩ := PlanAt.form2 hP; have B5 : CAt w5 g ({ c with r := { c.r with pc := p1 }, name := nm, mode := mo, kind := ki, due := false, soft := true }) v2 := Blk.grown G1.out hgrow (fun e => HN2.out e.symm); have l9 : w5.cell? ⟨g, 9, none⟩ = some v2 := (Blk.cell B5 9).trans rfl; have lf9 := Blk.frozen B5 9; have H5 := Lib.hid B5; have H6 := Lib.hid hP; have H7 := Lib.hid hgrow; have H8 := Lib.hid hat; clear B5 hP hgrow hat)
        | (go_simp; go_at_call 97; refine (HDo.out _).mono ?_; rintro e w4 ⟨x, rfl, hx, hb4, hfx⟩; obtain ⟨A4, n4, cap4, rfl⟩ := PlanAt.form2 hx; obtain ⟨b4, g4, k4⟩ := HW.out w4 hb4; have m9 : w4.cell? ⟨g, 9, none⟩ = some v2 := (Blk.cell b4 9).trans rfl; have G1 := Lib.hid b4; have G2 := Lib.hid g4; have G3 := Lib.hid hx; have G4 := Lib.hid k4; clear b4 g4 k4 hx hb4 hfx))
      all_goals
        go_wp2_with fail
        go_meet
        exact TakeRet.trans HO2.out HK2.out (TakeRet.close (W := w4) G4.out hlt2 HN2.out H5.out H6.out H7.out H8.out)
    case rest =>
      have hT := Lib.hid hcut
      obtain ⟨_, v3, hC, _⟩ := hcut
      have j6 : wc.cell? ⟨g, 6, none⟩ = some (.string nm) := (Blk.cell hC 6).trans rfl
      have j8 : wc.cell? ⟨g, 8, none⟩ = some (.int .i64 ki) := (Blk.cell hC 8).trans rfl
      have j17 : wc.cell? ⟨g, 17, none⟩ = some (.bool c.quiet) := (Blk.cell hC 17).trans rfl
      have jf17 := Blk.frozen hC 17
      clear hC
      go_wp2
      go_end0
      exact TakeRet.set (c' := { c with r := { c.r with pc := p1 }, name := nm, mode := mo, kind := ki, due := false, soft := true }) 17 (.bool true) (fun _ => rfl) hT.out
set_option maxHeartbeats 12800000 in
set_option maxRecDepth 100000 in
theorem first_jam (g : Nat) (c : C) (v : Value) (pl : List (Nat × Nat)) (d : Int) (w : World) (h : CAt w g c v) (hp : PlanAt w v pl) (hne : v.ownBlock ≠ some g) (hl : pl.length ≤ 900) (hdue : c.due = false) (p1 : Int) (hp1 : p1 = IntKind.u16.wrap (c.r.pc + 1))
    (nm : ByteArray) (mo ki : Int) (HOf : ∀ w', Kept (fun k => k = g) w w' → Calls Tryz.prog 95 #[.int .u8 d] w' fun e w2 => e = .returned (.agg #[.string nm, .int .i64 mo, .int .i64 ki]) ∧ Below w'.heap.size w' w2)
    (hpl : (placesL mo ki).length ≤ 10) (hdl : (doesL nm.toList mo ki).length ≤ 10) (hb : (nm.toList == [66, 82, 75]) = false) (hj : (ki == 8) = true) :
    Calls Tryz.prog 70 #[.pointer (some ⟨g, 0, none⟩), .int .u8 d] w (TakeRet w g v ({ c with r := { c.r with pc := p1 }, name := nm, mode := mo, kind := ki, due := false, soft := true, quiet := true }) (pl ++ (placesL mo ki ++ doesL nm.toList mo ki))) := by
  have c5 : w.cell? ⟨g, 5, none⟩ = some (.int .u16 c.r.pc) := (Blk.cell h 5).trans rfl
  have f5 := Blk.frozen h 5
  have c18 : w.cell? ⟨g, 18, none⟩ = some (.bool c.soft) := (Blk.cell h 18).trans rfl
  have f18 := Blk.frozen h 18
  have c21 : w.cell? ⟨g, 21, none⟩ = some (.bool false) := by rw [← hdue]; exact (Blk.cell h 21).trans rfl
  have f21 := Blk.frozen h 21
  have hpw := hp1.symm
  clear hp1
  have hlt := Blk.lt h
  have hK1 : Kept (fun k => k = g) w (((w.setCell ⟨g, 21, none⟩ (.bool false)).setCell ⟨g, 18, none⟩ (.bool true)).setCell ⟨g, 5, none⟩ (.int .u16 p1)) := ((Kept.set g 21 (.bool false) (S := fun k => k = g) rfl).trans ((Kept.set g 18 (.bool true) (S := fun k => k = g) rfl).mono (fun k _ h => .inl h))).trans ((Kept.set g 5 (.int .u16 p1) (S := fun k => k = g) rfl).mono (fun k _ h => .inl h))
  have HO : Hid (Calls Tryz.prog 95 #[.int .u8 d] (((w.setCell ⟨g, 21, none⟩ (.bool false)).setCell ⟨g, 18, none⟩ (.bool true)).setCell ⟨g, 5, none⟩ (.int .u16 p1)) fun e w2 => e = .returned (.agg #[.string nm, .int .i64 mo, .int .i64 ki]) ∧ Below (((w.setCell ⟨g, 21, none⟩ (.bool false)).setCell ⟨g, 18, none⟩ (.bool true)).setCell ⟨g, 5, none⟩ (.int .u16 p1)).heap.size (((w.setCell ⟨g, 21, none⟩ (.bool false)).setCell ⟨g, 18, none⟩ (.bool true)).setCell ⟨g, 5, none⟩ (.int .u16 p1)) w2) := Lib.hid (HOf (((w.setCell ⟨g, 21, none⟩ (.bool false)).setCell ⟨g, 18, none⟩ (.bool true)).setCell ⟨g, 5, none⟩ (.int .u16 p1)) hK1)
  have HG : Hid (∀ w2, Below (((w.setCell ⟨g, 21, none⟩ (.bool false)).setCell ⟨g, 18, none⟩ (.bool true)).setCell ⟨g, 5, none⟩ (.int .u16 p1)).heap.size (((w.setCell ⟨g, 21, none⟩ (.bool false)).setCell ⟨g, 18, none⟩ (.bool true)).setCell ⟨g, 5, none⟩ (.int .u16 p1)) w2 → CAt w2 g { c with r := { c.r with pc := p1 }, due := false, soft := true } v ∧ CAt (((w2.setCell ⟨g, 6, none⟩ (.string nm)).setCell ⟨g, 7, none⟩ (.int .i64 mo)).setCell ⟨g, 8, none⟩ (.int .i64 ki)) g ({ c with r := { c.r with pc := p1 }, name := nm, mode := mo, kind := ki, due := false, soft := true }) v ∧ PlanAt (((w2.setCell ⟨g, 6, none⟩ (.string nm)).setCell ⟨g, 7, none⟩ (.int .i64 mo)).setCell ⟨g, 8, none⟩ (.int .i64 ki)) v pl ∧ Kept (fun k => k = g) w (((w2.setCell ⟨g, 6, none⟩ (.string nm)).setCell ⟨g, 7, none⟩ (.int .i64 mo)).setCell ⟨g, 8, none⟩ (.int .i64 ki))) := Lib.hid (fun w2 hb => by
    have b1 : CAt (((w.setCell ⟨g, 21, none⟩ (.bool false)).setCell ⟨g, 18, none⟩ (.bool true)).setCell ⟨g, 5, none⟩ (.int .u16 p1)) g { c with r := { c.r with pc := p1 }, due := false, soft := true } v := Blk.set_ (Blk.set_ (Blk.set_ h 21 (.bool false)) 18 (.bool true)) 5 (.int .u16 p1)
    have b2 := Blk.below b1 hb b1.lt
    have b3 : CAt (((w2.setCell ⟨g, 6, none⟩ (.string nm)).setCell ⟨g, 7, none⟩ (.int .i64 mo)).setCell ⟨g, 8, none⟩ (.int .i64 ki)) g ({ c with r := { c.r with pc := p1 }, name := nm, mode := mo, kind := ki, due := false, soft := true }) v := Blk.set_ (Blk.set_ (Blk.set_ b2 6 (.string nm)) 7 (.int .i64 mo)) 8 (.int .i64 ki)
    have k2 : Kept (fun k => k = g) w w2 := hK1.trans (Kept.below hb)
    have k3 : Kept (fun k => k = g) w2 (((w2.setCell ⟨g, 6, none⟩ (.string nm)).setCell ⟨g, 7, none⟩ (.int .i64 mo)).setCell ⟨g, 8, none⟩ (.int .i64 ki)) := ((Kept.set g 6 (.string nm) (S := fun k => k = g) rfl).trans ((Kept.set g 7 (.int .i64 mo) (S := fun k => k = g) rfl).mono (fun k _ h => .inl h))).trans ((Kept.set g 8 (.int .i64 ki) (S := fun k => k = g) rfl).mono (fun k _ h => .inl h))
    have k4 : Kept (fun k => k = g) w (((w2.setCell ⟨g, 6, none⟩ (.string nm)).setCell ⟨g, 7, none⟩ (.int .i64 mo)).setCell ⟨g, 8, none⟩ (.int .i64 ki)) := k2.trans (k3.mono (fun k _ h => .inl h))
    exact ⟨b2, b3, hp.kept k4 (fun b hb e => hne (e ▸ hb)), k4⟩)
  have HN := Lib.hid hne
  have HPl := Lib.hid (places_any nm mo ki)
  have HDo := Lib.hid (does_any nm mo ki)
  clear hK1 h hp hne HOf hdue
  obtain ⟨L1, hL1⟩ : ∃ L, L = placesL mo ki := ⟨_, rfl⟩
  obtain ⟨L2, hL2⟩ : ∃ L, L = doesL nm.toList mo ki := ⟨_, rfl⟩
  rw [← hL1] at HPl hpl ⊢
  rw [← hL2] at HDo hdl ⊢
  clear hL1 hL2
  go_enter Tryz.func70, Tryz.ntmps70
  go_wp2_with (go_at_call 95; refine HO.out.mono ?_; rintro e w2 ⟨rfl, hb2⟩; obtain ⟨b2, b3, g2, g3⟩ := HG.out w2 hb2; have k6 : w2.cell? ⟨g, 6, none⟩ = some (.string c.name) := (Blk.cell b2 6).trans rfl; have kf6 := Blk.frozen b2 6; have k7 : w2.cell? ⟨g, 7, none⟩ = some (.int .i64 c.mode) := (Blk.cell b2 7).trans rfl; have kf7 := Blk.frozen b2 7; have k8 : w2.cell? ⟨g, 8, none⟩ = some (.int .i64 c.kind) := (Blk.cell b2 8).trans rfl; have kf8 := Blk.frozen b2 8; have k9 : w2.cell? ⟨g, 9, none⟩ = some v := (Blk.cell b2 9).trans rfl; have GB := Lib.hid b3; have GP := Lib.hid g2; have GK := Lib.hid g3; clear b2 b3 g2 g3 hb2)
  clear c5 f5 c18 f18 c21 f21 hpw HO HG
  go_cut [] from 5 to 96 (fun wx => TakeRet w g v ({ c with r := { c.r with pc := p1 }, name := nm, mode := mo, kind := ki, due := false, soft := true }) (pl ++ L1) (.returned (.tuple #[])) wx)
  case first =>
    generalize hW : (((w2.setCell ⟨g, 6, none⟩ (.string nm)).setCell ⟨g, 7, none⟩ (.int .i64 mo)).setCell ⟨g, 8, none⟩ (.int .i64 ki)) = W5
    rw [hW] at GB GP GK
    have j9 : W5.cell? ⟨g, 9, none⟩ = some v := (Blk.cell GB.out 9).trans rfl
    have j6 : W5.cell? ⟨g, 6, none⟩ = some (.string nm) := (Blk.cell GB.out 6).trans rfl
    have j7 : W5.cell? ⟨g, 7, none⟩ = some (.int .i64 mo) := (Blk.cell GB.out 7).trans rfl
    have j8 : W5.cell? ⟨g, 8, none⟩ = some (.int .i64 ki) := (Blk.cell GB.out 8).trans rfl
    clear hW k6 kf6 k7 kf7 k8 kf8 k9
    have HW : Hid (∀ w4, Below W5.drew.heap.size W5.drew w4 → CAt w4 g ({ c with r := { c.r with pc := p1 }, name := nm, mode := mo, kind := ki, due := false, soft := true }) v ∧ PlanAt w4 v pl ∧ Kept (fun k => k = g) w w4) := Lib.hid (fun w4 hb =>
      have hb' : Below W5.heap.size W5 w4 := ⟨hb.os, hb.tape, hb.output, hb.size, hb.block⟩
      ⟨Blk.below GB.out hb' GB.out.lt, GP.out.below hb', GK.out.trans (Kept.below hb')⟩)
    go_region_law (first
      | (refine step_append_plan (by rfl) (.tmp 58) (.tmp 63) (by rfl) v pl (by rfl) G2.out _ L1 (by rfl) G3.out (by omega) ?_; intro v' w5 hP hgrow hat; obtain ⟨A9, n9, cap9, rfl⟩ := PlanAt.form2 hP; have B5 : CAt w5 g ({ c with r := { c.r with pc := p1 }, name := nm, mode := mo, kind := ki, due := false, soft := true }) v := Blk.grown G1.out hgrow (fun e => HN.out e.symm); have l9 : w5.cell? ⟨g, 9, none⟩ = some v := (Blk.cell B5 9).trans rfl; have lf9 := Blk.frozen B5 9; have H5 := Lib.hid B5; have H6 := Lib.hid hP; have H7 := Lib.hid hgrow; have H8 := Lib.hid hat; clear B5 hP hgrow hat)
      | (go_simp; go_at_call 96; refine (HPl.out _).mono ?_; rintro e w4 ⟨x, rfl, hx, hb4, hfx⟩; obtain ⟨A4, n4, cap4, rfl⟩ := PlanAt.form2 hx; obtain ⟨b4, g4, k4⟩ := HW.out w4 hb4; have m9 : w4.cell? ⟨g, 9, none⟩ = some v := (Blk.cell b4 9).trans rfl; have G1 := Lib.hid b4; have G2 := Lib.hid g4; have G3 := Lib.hid hx; have G4 := Lib.hid k4; clear b4 g4 k4 hx hb4 hfx))
    all_goals
      go_wp2_with fail
      go_meet
      exact TakeRet.close (W := w4) G4.out hlt HN.out H5.out H6.out H7.out H8.out
  case rest =>
    obtain ⟨_, v2, hC, hP, hN2, hO2, hK2⟩ := hcut
    have j9 : wc.cell? ⟨g, 9, none⟩ = some v2 := (Blk.cell hC 9).trans rfl
    have j6 : wc.cell? ⟨g, 6, none⟩ = some (.string nm) := (Blk.cell hC 6).trans rfl
    have j7 : wc.cell? ⟨g, 7, none⟩ = some (.int .i64 mo) := (Blk.cell hC 7).trans rfl
    have j8 : wc.cell? ⟨g, 8, none⟩ = some (.int .i64 ki) := (Blk.cell hC 8).trans rfl
    have hlt2 : g < wc.heap.size := hC.lt
    have HW : Hid (∀ w4, Below wc.drew.heap.size wc.drew w4 → CAt w4 g ({ c with r := { c.r with pc := p1 }, name := nm, mode := mo, kind := ki, due := false, soft := true }) v2 ∧ PlanAt w4 v2 (pl ++ L1) ∧ Kept (fun k => k = g) wc w4) := Lib.hid (fun w4 hb =>
      have hb' : Below wc.heap.size wc w4 := ⟨hb.os, hb.tape, hb.output, hb.size, hb.block⟩
      ⟨Blk.below hC hb' hC.lt, hP.below hb', Kept.below hb'⟩)
    have HN2 := Lib.hid hN2
    have HO2 := Lib.hid hO2
    have HK2 := Lib.hid hK2
    clear hC hP hN2 hO2 hK2 k6 kf6 k7 kf7 k8 kf8 k9 GB GP GK
    go_upto_region 9 with (fail)
    go_cut [] from 5 to 96 (fun wx => TakeRet w g v ({ c with r := { c.r with pc := p1 }, name := nm, mode := mo, kind := ki, due := false, soft := true }) (pl ++ (L1 ++ L2)) (.returned (.tuple #[])) wx)
    case first =>
      go_region_law (first
        | (refine step_append_plan (by rfl) (.tmp 71) (.tmp 76) (by rfl) v2 (pl ++ L1) (by rfl) G2.out _ L2 (by rfl) G3.out (by simp only [List.length_append]; omega) ?_; intro v' w5 hP hgrow hat; rw [List.append_assoc] at hP; obtain ⟨A9, n9, cap9, rfl⟩ := PlanAt.form2 hP; have B5 : CAt w5 g ({ c with r := { c.r with pc := p1 }, name := nm, mode := mo, kind := ki, due := false, soft := true }) v2 := Blk.grown G1.out hgrow (fun e => HN2.out e.symm); have l9 : w5.cell? ⟨g, 9, none⟩ = some v2 := (Blk.cell B5 9).trans rfl; have lf9 := Blk.frozen B5 9; have H5 := Lib.hid B5; have H6 := Lib.hid hP; have H7 := Lib.hid hgrow; have H8 := Lib.hid hat; clear B5 hP hgrow hat)
        | (go_simp; go_at_call 97; refine (HDo.out _).mono ?_; rintro e w4 ⟨x, rfl, hx, hb4, hfx⟩; obtain ⟨A4, n4, cap4, rfl⟩ := PlanAt.form2 hx; obtain ⟨b4, g4, k4⟩ := HW.out w4 hb4; have m9 : w4.cell? ⟨g, 9, none⟩ = some v2 := (Blk.cell b4 9).trans rfl; have G1 := Lib.hid b4; have G2 := Lib.hid g4; have G3 := Lib.hid hx; have G4 := Lib.hid k4; clear b4 g4 k4 hx hb4 hfx))
      all_goals
        go_wp2_with fail
        go_meet
        exact TakeRet.trans HO2.out HK2.out (TakeRet.close (W := w4) G4.out hlt2 HN2.out H5.out H6.out H7.out H8.out)
    case rest =>
      have hT := Lib.hid hcut
      obtain ⟨_, v3, hC, _⟩ := hcut
      have j6 : wc.cell? ⟨g, 6, none⟩ = some (.string nm) := (Blk.cell hC 6).trans rfl
      have j8 : wc.cell? ⟨g, 8, none⟩ = some (.int .i64 ki) := (Blk.cell hC 8).trans rfl
      have j17 : wc.cell? ⟨g, 17, none⟩ = some (.bool c.quiet) := (Blk.cell hC 17).trans rfl
      have jf17 := Blk.frozen hC 17
      clear hC
      go_wp2
      go_end0
      exact TakeRet.set (c' := { c with r := { c.r with pc := p1 }, name := nm, mode := mo, kind := ki, due := false, soft := true }) 17 (.bool true) (fun _ => rfl) hT.out
set_option maxHeartbeats 12800000 in
set_option maxRecDepth 100000 in
theorem first_no (g : Nat) (c : C) (v : Value) (pl : List (Nat × Nat)) (d : Int) (w : World) (h : CAt w g c v) (hp : PlanAt w v pl) (hne : v.ownBlock ≠ some g) (hl : pl.length ≤ 900) (hdue : c.due = false) (p1 : Int) (hp1 : p1 = IntKind.u16.wrap (c.r.pc + 1))
    (nm : ByteArray) (mo ki : Int) (HOf : ∀ w', Kept (fun k => k = g) w w' → Calls Tryz.prog 95 #[.int .u8 d] w' fun e w2 => e = .returned (.agg #[.string nm, .int .i64 mo, .int .i64 ki]) ∧ Below w'.heap.size w' w2)
    (hpl : (placesL mo ki).length ≤ 10) (hdl : (doesL nm.toList mo ki).length ≤ 10) (hb : (nm.toList == [66, 82, 75]) = false) (hj : (ki == 8) = false) :
    Calls Tryz.prog 70 #[.pointer (some ⟨g, 0, none⟩), .int .u8 d] w (TakeRet w g v ({ c with r := { c.r with pc := p1 }, name := nm, mode := mo, kind := ki, due := false, soft := true, quiet := false }) (pl ++ (placesL mo ki ++ doesL nm.toList mo ki))) := by
  have c5 : w.cell? ⟨g, 5, none⟩ = some (.int .u16 c.r.pc) := (Blk.cell h 5).trans rfl
  have f5 := Blk.frozen h 5
  have c18 : w.cell? ⟨g, 18, none⟩ = some (.bool c.soft) := (Blk.cell h 18).trans rfl
  have f18 := Blk.frozen h 18
  have c21 : w.cell? ⟨g, 21, none⟩ = some (.bool false) := by rw [← hdue]; exact (Blk.cell h 21).trans rfl
  have f21 := Blk.frozen h 21
  have hpw := hp1.symm
  clear hp1
  have hlt := Blk.lt h
  have hK1 : Kept (fun k => k = g) w (((w.setCell ⟨g, 21, none⟩ (.bool false)).setCell ⟨g, 18, none⟩ (.bool true)).setCell ⟨g, 5, none⟩ (.int .u16 p1)) := ((Kept.set g 21 (.bool false) (S := fun k => k = g) rfl).trans ((Kept.set g 18 (.bool true) (S := fun k => k = g) rfl).mono (fun k _ h => .inl h))).trans ((Kept.set g 5 (.int .u16 p1) (S := fun k => k = g) rfl).mono (fun k _ h => .inl h))
  have HO : Hid (Calls Tryz.prog 95 #[.int .u8 d] (((w.setCell ⟨g, 21, none⟩ (.bool false)).setCell ⟨g, 18, none⟩ (.bool true)).setCell ⟨g, 5, none⟩ (.int .u16 p1)) fun e w2 => e = .returned (.agg #[.string nm, .int .i64 mo, .int .i64 ki]) ∧ Below (((w.setCell ⟨g, 21, none⟩ (.bool false)).setCell ⟨g, 18, none⟩ (.bool true)).setCell ⟨g, 5, none⟩ (.int .u16 p1)).heap.size (((w.setCell ⟨g, 21, none⟩ (.bool false)).setCell ⟨g, 18, none⟩ (.bool true)).setCell ⟨g, 5, none⟩ (.int .u16 p1)) w2) := Lib.hid (HOf (((w.setCell ⟨g, 21, none⟩ (.bool false)).setCell ⟨g, 18, none⟩ (.bool true)).setCell ⟨g, 5, none⟩ (.int .u16 p1)) hK1)
  have HG : Hid (∀ w2, Below (((w.setCell ⟨g, 21, none⟩ (.bool false)).setCell ⟨g, 18, none⟩ (.bool true)).setCell ⟨g, 5, none⟩ (.int .u16 p1)).heap.size (((w.setCell ⟨g, 21, none⟩ (.bool false)).setCell ⟨g, 18, none⟩ (.bool true)).setCell ⟨g, 5, none⟩ (.int .u16 p1)) w2 → CAt w2 g { c with r := { c.r with pc := p1 }, due := false, soft := true } v ∧ CAt (((w2.setCell ⟨g, 6, none⟩ (.string nm)).setCell ⟨g, 7, none⟩ (.int .i64 mo)).setCell ⟨g, 8, none⟩ (.int .i64 ki)) g ({ c with r := { c.r with pc := p1 }, name := nm, mode := mo, kind := ki, due := false, soft := true }) v ∧ PlanAt (((w2.setCell ⟨g, 6, none⟩ (.string nm)).setCell ⟨g, 7, none⟩ (.int .i64 mo)).setCell ⟨g, 8, none⟩ (.int .i64 ki)) v pl ∧ Kept (fun k => k = g) w (((w2.setCell ⟨g, 6, none⟩ (.string nm)).setCell ⟨g, 7, none⟩ (.int .i64 mo)).setCell ⟨g, 8, none⟩ (.int .i64 ki))) := Lib.hid (fun w2 hb => by
    have b1 : CAt (((w.setCell ⟨g, 21, none⟩ (.bool false)).setCell ⟨g, 18, none⟩ (.bool true)).setCell ⟨g, 5, none⟩ (.int .u16 p1)) g { c with r := { c.r with pc := p1 }, due := false, soft := true } v := Blk.set_ (Blk.set_ (Blk.set_ h 21 (.bool false)) 18 (.bool true)) 5 (.int .u16 p1)
    have b2 := Blk.below b1 hb b1.lt
    have b3 : CAt (((w2.setCell ⟨g, 6, none⟩ (.string nm)).setCell ⟨g, 7, none⟩ (.int .i64 mo)).setCell ⟨g, 8, none⟩ (.int .i64 ki)) g ({ c with r := { c.r with pc := p1 }, name := nm, mode := mo, kind := ki, due := false, soft := true }) v := Blk.set_ (Blk.set_ (Blk.set_ b2 6 (.string nm)) 7 (.int .i64 mo)) 8 (.int .i64 ki)
    have k2 : Kept (fun k => k = g) w w2 := hK1.trans (Kept.below hb)
    have k3 : Kept (fun k => k = g) w2 (((w2.setCell ⟨g, 6, none⟩ (.string nm)).setCell ⟨g, 7, none⟩ (.int .i64 mo)).setCell ⟨g, 8, none⟩ (.int .i64 ki)) := ((Kept.set g 6 (.string nm) (S := fun k => k = g) rfl).trans ((Kept.set g 7 (.int .i64 mo) (S := fun k => k = g) rfl).mono (fun k _ h => .inl h))).trans ((Kept.set g 8 (.int .i64 ki) (S := fun k => k = g) rfl).mono (fun k _ h => .inl h))
    have k4 : Kept (fun k => k = g) w (((w2.setCell ⟨g, 6, none⟩ (.string nm)).setCell ⟨g, 7, none⟩ (.int .i64 mo)).setCell ⟨g, 8, none⟩ (.int .i64 ki)) := k2.trans (k3.mono (fun k _ h => .inl h))
    exact ⟨b2, b3, hp.kept k4 (fun b hb e => hne (e ▸ hb)), k4⟩)
  have HN := Lib.hid hne
  have HPl := Lib.hid (places_any nm mo ki)
  have HDo := Lib.hid (does_any nm mo ki)
  clear hK1 h hp hne HOf hdue
  obtain ⟨L1, hL1⟩ : ∃ L, L = placesL mo ki := ⟨_, rfl⟩
  obtain ⟨L2, hL2⟩ : ∃ L, L = doesL nm.toList mo ki := ⟨_, rfl⟩
  rw [← hL1] at HPl hpl ⊢
  rw [← hL2] at HDo hdl ⊢
  clear hL1 hL2
  go_enter Tryz.func70, Tryz.ntmps70
  go_wp2_with (go_at_call 95; refine HO.out.mono ?_; rintro e w2 ⟨rfl, hb2⟩; obtain ⟨b2, b3, g2, g3⟩ := HG.out w2 hb2; have k6 : w2.cell? ⟨g, 6, none⟩ = some (.string c.name) := (Blk.cell b2 6).trans rfl; have kf6 := Blk.frozen b2 6; have k7 : w2.cell? ⟨g, 7, none⟩ = some (.int .i64 c.mode) := (Blk.cell b2 7).trans rfl; have kf7 := Blk.frozen b2 7; have k8 : w2.cell? ⟨g, 8, none⟩ = some (.int .i64 c.kind) := (Blk.cell b2 8).trans rfl; have kf8 := Blk.frozen b2 8; have k9 : w2.cell? ⟨g, 9, none⟩ = some v := (Blk.cell b2 9).trans rfl; have GB := Lib.hid b3; have GP := Lib.hid g2; have GK := Lib.hid g3; clear b2 b3 g2 g3 hb2)
  clear c5 f5 c18 f18 c21 f21 hpw HO HG
  go_cut [] from 5 to 96 (fun wx => TakeRet w g v ({ c with r := { c.r with pc := p1 }, name := nm, mode := mo, kind := ki, due := false, soft := true }) (pl ++ L1) (.returned (.tuple #[])) wx)
  case first =>
    generalize hW : (((w2.setCell ⟨g, 6, none⟩ (.string nm)).setCell ⟨g, 7, none⟩ (.int .i64 mo)).setCell ⟨g, 8, none⟩ (.int .i64 ki)) = W5
    rw [hW] at GB GP GK
    have j9 : W5.cell? ⟨g, 9, none⟩ = some v := (Blk.cell GB.out 9).trans rfl
    have j6 : W5.cell? ⟨g, 6, none⟩ = some (.string nm) := (Blk.cell GB.out 6).trans rfl
    have j7 : W5.cell? ⟨g, 7, none⟩ = some (.int .i64 mo) := (Blk.cell GB.out 7).trans rfl
    have j8 : W5.cell? ⟨g, 8, none⟩ = some (.int .i64 ki) := (Blk.cell GB.out 8).trans rfl
    clear hW k6 kf6 k7 kf7 k8 kf8 k9
    have HW : Hid (∀ w4, Below W5.drew.heap.size W5.drew w4 → CAt w4 g ({ c with r := { c.r with pc := p1 }, name := nm, mode := mo, kind := ki, due := false, soft := true }) v ∧ PlanAt w4 v pl ∧ Kept (fun k => k = g) w w4) := Lib.hid (fun w4 hb =>
      have hb' : Below W5.heap.size W5 w4 := ⟨hb.os, hb.tape, hb.output, hb.size, hb.block⟩
      ⟨Blk.below GB.out hb' GB.out.lt, GP.out.below hb', GK.out.trans (Kept.below hb')⟩)
    go_region_law (first
      | (refine step_append_plan (by rfl) (.tmp 58) (.tmp 63) (by rfl) v pl (by rfl) G2.out _ L1 (by rfl) G3.out (by omega) ?_; intro v' w5 hP hgrow hat; obtain ⟨A9, n9, cap9, rfl⟩ := PlanAt.form2 hP; have B5 : CAt w5 g ({ c with r := { c.r with pc := p1 }, name := nm, mode := mo, kind := ki, due := false, soft := true }) v := Blk.grown G1.out hgrow (fun e => HN.out e.symm); have l9 : w5.cell? ⟨g, 9, none⟩ = some v := (Blk.cell B5 9).trans rfl; have lf9 := Blk.frozen B5 9; have H5 := Lib.hid B5; have H6 := Lib.hid hP; have H7 := Lib.hid hgrow; have H8 := Lib.hid hat; clear B5 hP hgrow hat)
      | (go_simp; go_at_call 96; refine (HPl.out _).mono ?_; rintro e w4 ⟨x, rfl, hx, hb4, hfx⟩; obtain ⟨A4, n4, cap4, rfl⟩ := PlanAt.form2 hx; obtain ⟨b4, g4, k4⟩ := HW.out w4 hb4; have m9 : w4.cell? ⟨g, 9, none⟩ = some v := (Blk.cell b4 9).trans rfl; have G1 := Lib.hid b4; have G2 := Lib.hid g4; have G3 := Lib.hid hx; have G4 := Lib.hid k4; clear b4 g4 k4 hx hb4 hfx))
    all_goals
      go_wp2_with fail
      go_meet
      exact TakeRet.close (W := w4) G4.out hlt HN.out H5.out H6.out H7.out H8.out
  case rest =>
    obtain ⟨_, v2, hC, hP, hN2, hO2, hK2⟩ := hcut
    have j9 : wc.cell? ⟨g, 9, none⟩ = some v2 := (Blk.cell hC 9).trans rfl
    have j6 : wc.cell? ⟨g, 6, none⟩ = some (.string nm) := (Blk.cell hC 6).trans rfl
    have j7 : wc.cell? ⟨g, 7, none⟩ = some (.int .i64 mo) := (Blk.cell hC 7).trans rfl
    have j8 : wc.cell? ⟨g, 8, none⟩ = some (.int .i64 ki) := (Blk.cell hC 8).trans rfl
    have hlt2 : g < wc.heap.size := hC.lt
    have HW : Hid (∀ w4, Below wc.drew.heap.size wc.drew w4 → CAt w4 g ({ c with r := { c.r with pc := p1 }, name := nm, mode := mo, kind := ki, due := false, soft := true }) v2 ∧ PlanAt w4 v2 (pl ++ L1) ∧ Kept (fun k => k = g) wc w4) := Lib.hid (fun w4 hb =>
      have hb' : Below wc.heap.size wc w4 := ⟨hb.os, hb.tape, hb.output, hb.size, hb.block⟩
      ⟨Blk.below hC hb' hC.lt, hP.below hb', Kept.below hb'⟩)
    have HN2 := Lib.hid hN2
    have HO2 := Lib.hid hO2
    have HK2 := Lib.hid hK2
    clear hC hP hN2 hO2 hK2 k6 kf6 k7 kf7 k8 kf8 k9 GB GP GK
    go_upto_region 9 with (fail)
    go_cut [] from 5 to 96 (fun wx => TakeRet w g v ({ c with r := { c.r with pc := p1 }, name := nm, mode := mo, kind := ki, due := false, soft := true }) (pl ++ (L1 ++ L2)) (.returned (.tuple #[])) wx)
    case first =>
      go_region_law (first
        | (refine step_append_plan (by rfl) (.tmp 71) (.tmp 76) (by rfl) v2 (pl ++ L1) (by rfl) G2.out _ L2 (by rfl) G3.out (by simp only [List.length_append]; omega) ?_; intro v' w5 hP hgrow hat; rw [List.append_assoc] at hP; obtain ⟨A9, n9, cap9, rfl⟩ := PlanAt.form2 hP; have B5 : CAt w5 g ({ c with r := { c.r with pc := p1 }, name := nm, mode := mo, kind := ki, due := false, soft := true }) v2 := Blk.grown G1.out hgrow (fun e => HN2.out e.symm); have l9 : w5.cell? ⟨g, 9, none⟩ = some v2 := (Blk.cell B5 9).trans rfl; have lf9 := Blk.frozen B5 9; have H5 := Lib.hid B5; have H6 := Lib.hid hP; have H7 := Lib.hid hgrow; have H8 := Lib.hid hat; clear B5 hP hgrow hat)
        | (go_simp; go_at_call 97; refine (HDo.out _).mono ?_; rintro e w4 ⟨x, rfl, hx, hb4, hfx⟩; obtain ⟨A4, n4, cap4, rfl⟩ := PlanAt.form2 hx; obtain ⟨b4, g4, k4⟩ := HW.out w4 hb4; have m9 : w4.cell? ⟨g, 9, none⟩ = some v2 := (Blk.cell b4 9).trans rfl; have G1 := Lib.hid b4; have G2 := Lib.hid g4; have G3 := Lib.hid hx; have G4 := Lib.hid k4; clear b4 g4 k4 hx hb4 hfx))
      all_goals
        go_wp2_with fail
        go_meet
        exact TakeRet.trans HO2.out HK2.out (TakeRet.close (W := w4) G4.out hlt2 HN2.out H5.out H6.out H7.out H8.out)
    case rest =>
      have hT := Lib.hid hcut
      obtain ⟨_, v3, hC, _⟩ := hcut
      have j6 : wc.cell? ⟨g, 6, none⟩ = some (.string nm) := (Blk.cell hC 6).trans rfl
      have j8 : wc.cell? ⟨g, 8, none⟩ = some (.int .i64 ki) := (Blk.cell hC 8).trans rfl
      have j17 : wc.cell? ⟨g, 17, none⟩ = some (.bool c.quiet) := (Blk.cell hC 17).trans rfl
      have jf17 := Blk.frozen hC 17
      clear hC
      go_wp2
      go_end0
      exact TakeRet.set (c' := { c with r := { c.r with pc := p1 }, name := nm, mode := mo, kind := ki, due := false, soft := true }) 17 (.bool false) (fun _ => rfl) hT.out
end Go.Proofs.YtifajfjiloajfaaGreatDoor.OwnCpu

/- The EEPROM hears a bit, and has eight judged. Conditions: its pointer lies among its bytes. · Whatever the EEPROM's event is, it goes on. Conditions: kinds one to three; its pointer lies among its bytes; the table of kinds is as the program lays it. -/
import Derived.Test.YtifajfjiloajfaaGreatDoorMEeG
import Derived.StillTailTactics
namespace Go.Proofs.YtifajfjiloajfaaGreatDoor.OwnChip
open Go.RowKit Go.Proofs.YtifajfjiloajfaaGreatDoor.Own
theorem EeJ.drew {S : Nat → Prop} {k : Int} {n g : Nat} {w w' : World} {r : Bool} (h : EeJ S k n w.drew w' g r) : EeJ S k n w w' g r := by
  obtain ⟨h1, kp⟩ := h
  exact ⟨h1, ⟨kp.os, kp.tape, kp.output, kp.size, kp.block⟩⟩
theorem ee_after {S : Nat → Prop} {k : Int} {n g d cap wi : Nat} {co wa : Option Nat} {y z : EeS} {w w3 w4 : World} (kp : Kept S w w3) (hb : Blk w3 g 125 (y.cells k d n cap wi co wa)) (hr : EeR (Fr S w w3) n d wi co wa w3 g) (hb2 : Blk w4 g 125 (z.cells k d n cap wi co wa)) (q : Kept (· = g) w3 w4) (ok : z.Ok n) (ev : Ev (Fr S w w3) w3 g co z) : EeQ S k n w w4 g := by
  have z := Ee.upd hb hr hb2 q ok ev
  exact EeQ.trans kp ⟨z.1.mono fun _ => Or.inl, z.2⟩
section
variable (S : Nat → Prop) (k : Int) (n g d cap wi : Nat) (co wa : Option Nat) (x : EeS) (w : World) (e : Int) (l : Bool)
/-- A rise: one bit more. -/
theorem ee_heard (t v : Int) (hv : By v) (ok : x.Ok n) (hb : Blk w g 125 (x.cells k d n cap wi co wa)) (hr : EeR S n d wi co wa w g) (hx : x.ev = bm 149 g) (hj : Jd S w g co x.ne x.ju) {W : World} (q : Kept (· = g) w W) (hB : Blk W g 125 (EeS.cells { x with bits := t, val := v } k d n cap wi co wa)) : EeQ S k n w W g := by
  have z := Ee.upd (y := { x with bits := t, val := v }) hb hr hB q ⟨hv, ok.hi0, ok.hi1, ok.pt0, ok.pt1, ok.left⟩ (Or.inr (Or.inl ⟨hx, hj⟩))
  exact EeQ.of z.1 z.2
set_option maxHeartbeats 3200000 in
set_option maxRecDepth 100000 in
theorem ee_hears (j : Nat) (he : e = 3 ∨ e = 4 ∨ ((e == 3) = false ∧ (e == 4) = false)) (ok : x.Ok n) (hb : Blk w g 125 (x.cells k d n cap wi co wa)) (hr : EeR S n d wi co wa w g) (hx : x.ev = bm 149 g) (hj : Jd S w g co x.ne x.ju) (hju : x.ju = bm j g)
    (hcall : ∀ args w, (callFunc j args).run Tryz.prog w = .ok (.enter j args) w)
    (HJ : Calls Tryz.prog j #[.pointer (some ⟨g, 0, none⟩), .int .u8 x.val] w.drew fun e w' => ∃ r, e = .returned (.bool r) ∧ EeJ S k n w.drew w' g r) :
    Calls Tryz.prog 149 #[.pointer (some ⟨g, 0, none⟩), .int .i64 e, .bool l] w fun e w' => e = .returned (.tuple #[]) ∧ EeQ S k n w w' g := by
  have c7 : w.cell? ⟨g, 7, none⟩ = some (.int .i64 x.bits) := (hb.cell 7).trans rfl
  have c8 : w.cell? ⟨g, 8, none⟩ = some (.int .u8 x.val) := (hb.cell 8).trans rfl
  have c5 : w.cell? ⟨g, 5, none⟩ = some (.func (.func j) #[ptr g] #[]) := by
    have := hb.cell 5
    simp only [EeS.cells, hju] at this
    exact this.trans rfl
  have f7 := hb.frozen 7
  have f8 := hb.frozen 8
  have HE := Lib.hid (fun t v hv W q hB => ee_heard S k n g d cap wi co wa x w t v hv ok hb hr hx hj (W := W) q hB)
  have HZ : Hid (EeQ S k n w w g) := Lib.hid (EeQ.of ⟨x, d, cap, wi, co, wa, ok, hb, hr, Or.inr (Or.inl ⟨hx, hj⟩)⟩ (Kept.refl _ _))
  have HN : Hid (∀ nq, EeQ S k n w (w.drewN nq) g) := Lib.hid (fun nq => by
    have z := Ee.upd (y := x) hb hr (hb.drewN nq) (kd w nq) ok (Or.inr (Or.inl ⟨hx, hj⟩))
    exact EeQ.of z.1 z.2)
  have HB := Lib.hid hb
  have HV := Lib.hid ok.val
  have HJ2 := Lib.hid HJ
  have HR := Lib.hid (fun y d cap wi co wa w' h => ee_rest k n g d cap wi co wa y w' h)
  clear hb hr hx hj ok HJ hju
  rcases he with rfl | rfl | ⟨h3, h4⟩
  · cases l
    · go_enter Tryz.func149, Tryz.ntmps149
      go_wp2
      go_end0
      exact ⟨rfl, HE.out (wrap64 (x.bits + 1)) (x.val * 2 % 256) ⟨by omega, by omega⟩ _ (kset (S := (· = g)) (Kept.set (S := (· = g)) g 7 _ rfl) rfl 8 _) ((HB.out.set_ 7 _).set_ 8 _)⟩
    · go_enter Tryz.func149, Tryz.ntmps149
      go_wp2
      go_end0
      exact ⟨rfl, HE.out (wrap64 (x.bits + 1)) (bits BinOp.or IntKind.u8 (x.val * 2 % 256) 1) (by_bits _ _ _) _ (kset (S := (· = g)) (kset (S := (· = g)) (Kept.set (S := (· = g)) g 7 _ rfl) rfl 8 _) rfl 8 _) (((HB.out.set_ 7 _).set_ 8 _).set_ 8 _)⟩
  · rcases h8 : (x.bits == 8) with _ | _
    · go_enter Tryz.func149, Tryz.ntmps149
      go_wp2_with fail
      go_quiet (fail)
      go_wp2
      go_end0
      exact ⟨rfl, HN.out _⟩
    · go_enter Tryz.func149, Tryz.ntmps149
      go_wp2_with fail
      refine wp_region_still_tail 18 (by kernel_rfl) (by kernel_rfl) ?_
      simp only [List.take_succ_cons, List.take_zero, List.drop_succ_cons, List.drop_zero]
      repeat still_step
      refine wpStill_nil ?_
      change wpList _ _ _ _ _ w.drew
      go_wp2_with fail
      refine HJ2.out.mono ?_
      rintro e w3 ⟨r, rfl, hq⟩
      obtain ⟨⟨y, d3, cap3, wi3, co3, wa3, ok3, hb3, hr3, he3, hn3⟩, kp3⟩ := hq.drew
      have KP := Lib.hid kp3
      have OK3 := Lib.hid ok3
      have HB3 := Lib.hid hb3
      have HR3 := Lib.hid hr3
      have HE3 := Lib.hid he3
      have HN3 := Lib.hid hn3
      have e3 : w3.cell? ⟨g, 3, none⟩ = some (.bool y.pu) := (hb3.cell 3).trans rfl
      have e4 : w3.cell? ⟨g, 4, none⟩ = some y.ev := (hb3.cell 4).trans rfl
      have e7 : w3.cell? ⟨g, 7, none⟩ = some (.int .i64 y.bits) := (hb3.cell 7).trans rfl
      have k3 := hb3.frozen 3
      have k4 := hb3.frozen 4
      have HR4 := Lib.hid (HR.out y d3 cap3 wi3 co3 wa3 w3 hb3)
      clear hq kp3 ok3 hb3 hr3 he3 hn3
      cases r
      · rcases h9 : (y.bits == 8) with _ | _
        · go_wp2
          go_end0
          exact ⟨rfl, ⟨y, d3, cap3, wi3, co3, wa3, OK3.out, HB3.out, HR3.out, HE3.out⟩, KP.out⟩
        · go_wp2_with (go_at_call 106; with_reducible refine HR4.out.mono ?_; rintro e w4 ⟨rfl, q1, q2⟩; have Q1 := Lib.hid q1; have Q2 := Lib.hid q2; clear q1 q2)
          go_end0
          exact ⟨rfl, ee_after KP.out HB3.out HR3.out Q1.out Q2.out ⟨OK3.out.val, OK3.out.hi0, OK3.out.hi1, OK3.out.pt0, OK3.out.pt1, OK3.out.left⟩ (Or.inl rfl)⟩
      · go_wp2
        go_end0
        exact ⟨rfl, ee_after (z := { y with pu := true, ev := bm 176 g }) KP.out HB3.out HR3.out ((HB3.out.set_ 3 _).set_ 4 _) (kset (S := (· = g)) (Kept.set (S := (· = g)) g 3 _ rfl) rfl 4 _) ⟨OK3.out.val, OK3.out.hi0, OK3.out.hi1, OK3.out.pt0, OK3.out.pt1, OK3.out.left⟩ (Or.inr (Or.inr (Or.inl ⟨rfl, HN3.out (by trivial)⟩)))⟩
  · go_enter Tryz.func149, Tryz.ntmps149
    go_wp2_with fail
    go_quiet (fail)
    go_wp2
    go_end0
    exact ⟨rfl, HN.out _⟩
end
end Go.Proofs.YtifajfjiloajfaaGreatDoor.OwnChip
namespace Go.Proofs.YtifajfjiloajfaaGreatDoor.OwnChip
open Go.RowKit Go.Proofs.YtifajfjiloajfaaGreatDoor.Own
theorem call_49 (args : Array Value) (w : World) : (callFunc 49 args).run Tryz.prog w = .ok (.enter 49 args) w := by kernel_rfl
theorem call_105 (args : Array Value) (w : World) : (callFunc 105 args).run Tryz.prog w = .ok (.enter 105 args) w := by kernel_rfl
theorem call_149 (args : Array Value) (w : World) : (callFunc 149 args).run Tryz.prog w = .ok (.enter 149 args) w := by kernel_rfl
theorem call_151 (args : Array Value) (w : World) : (callFunc 151 args).run Tryz.prog w = .ok (.enter 151 args) w := by kernel_rfl
theorem call_155 (args : Array Value) (w : World) : (callFunc 155 args).run Tryz.prog w = .ok (.enter 155 args) w := by kernel_rfl
theorem call_156 (args : Array Value) (w : World) : (callFunc 156 args).run Tryz.prog w = .ok (.enter 156 args) w := by kernel_rfl
theorem call_176 (args : Array Value) (w : World) : (callFunc 176 args).run Tryz.prog w = .ok (.enter 176 args) w := by kernel_rfl
theorem call_177 (args : Array Value) (w : World) : (callFunc 177 args).run Tryz.prog w = .ok (.enter 177 args) w := by kernel_rfl
theorem call_180 (args : Array Value) (w : World) : (callFunc 180 args).run Tryz.prog w = .ok (.enter 180 args) w := by kernel_rfl
theorem call_181 (args : Array Value) (w : World) : (callFunc 181 args).run Tryz.prog w = .ok (.enter 181 args) w := by kernel_rfl
theorem call_194 (args : Array Value) (w : World) : (callFunc 194 args).run Tryz.prog w = .ok (.enter 194 args) w := by kernel_rfl
/-- Kinds and their bytes. -/
def Kd (k : Int) (n : Nat) : Prop := (k = 1 ∧ n = 128) ∨ (k = 2 ∧ n = 256) ∨ (k = 3 ∧ n = 512)
theorem Kd.lt {k : Int} {n : Nat} (h : Kd k n) : n < 65536 := by
  rcases h with ⟨-, rfl⟩ | ⟨-, rfl⟩ | ⟨-, rfl⟩ <;> decide
section
variable (S : Nat → Prop) (k : Int) (n g d cap wi : Nat) (co wa : Option Nat) (x : EeS) (w : World) (e : Int) (l : Bool) (b : Int)
theorem ee_judge (kd : Kd k n) (ok : x.Ok n) (hb : Blk w g 125 (x.cells k d n cap wi co wa)) (hr : EeR S n d wi co wa w g) (hev : Ev S w g co x) (hj : Jd S w g co x.ne x.ju) (hv : By b) (hgeo : OwnGeo.GeoAt w) (h0 : g ≠ 0) :
    ∃ j, x.ju = bm j g ∧ (∀ args w, (callFunc j args).run Tryz.prog w = .ok (.enter j args) w) ∧ Calls Tryz.prog j #[.pointer (some ⟨g, 0, none⟩), .int .u8 b] w fun e w' => ∃ r, e = .returned (.bool r) ∧ EeJ S k n w w' g r := by
  rcases hj with hj | hj | ⟨hj, hc, hn⟩
  · refine ⟨105, hj, call_105, ?_⟩
    rcases kd with ⟨rfl, rfl⟩ | ⟨rfl, rfl⟩ | ⟨rfl, rfl⟩
    · exact ee_device_1 S g d cap wi co wa x w b ok hb hr hev hv hgeo h0
    · exact ee_device_2 S g d cap wi co wa x w b ok hb hr hev hv hgeo h0
    · exact ee_device_3 S g d cap wi co wa x w b ok hb hr hev hv hgeo h0
  · exact ⟨156, hj, call_156, (ee_lower S k n g d cap wi co wa x w b ok hb hr hev hv).mono fun _ _ q => ⟨true, q⟩⟩
  · refine ⟨181, hj, call_181, ?_⟩
    obtain ⟨B, rfl⟩ : ∃ B, co = some B := by
      cases co with
      | none => exact absurd rfl hc
      | some B => exact ⟨B, rfl⟩
    rcases kd with ⟨rfl, rfl⟩ | ⟨rfl, rfl⟩ | ⟨rfl, rfl⟩
    · exact (ee_store_1 S g d cap wi B wa x w b ok hb hr hev hn hv hgeo).mono fun _ _ q => ⟨true, q⟩
    · exact (ee_store_2 S g d cap wi B wa x w b ok hb hr hev hn hv hgeo).mono fun _ _ q => ⟨true, q⟩
    · exact (ee_store_3 S g d cap wi B wa x w b ok hb hr hev hn hv hgeo).mono fun _ _ q => ⟨true, q⟩
set_option maxHeartbeats 1600000 in
theorem ee_thanks_on (c : Nat) (hx : x.ne = .func (.func c) #[ptr g] #[]) (hb : Blk w g 125 (x.cells k d n cap wi co wa)) (hcall : ∀ args w, (callFunc c args).run Tryz.prog w = .ok (.enter c args) w) (hz : Ee S k n w g)
    (HJ : Calls Tryz.prog c #[ptr g] w fun e w' => e = .returned (.tuple #[]) ∧ Ee S k n w' g ∧ Kept S w w') :
    Calls Tryz.prog 176 #[.pointer (some ⟨g, 0, none⟩), .int .i64 e, .bool l] w fun e w' => e = .returned (.tuple #[]) ∧ Ee S k n w' g ∧ Kept S w w' := by
  have c6 : w.cell? ⟨g, 6, none⟩ = some (.func (.func c) #[ptr g] #[]) := by
    have := hb.cell 6
    simp only [EeS.cells, hx] at this
    exact this.trans rfl
  have HZ := Lib.hid hz
  have HJ2 := Lib.hid HJ
  clear hb hx hz HJ
  by_cases h4 : e = 4
  · subst h4
    go_enter Tryz.func176, Tryz.ntmps176
    go_wp2_with fail
    refine HJ2.out.mono ?_
    rintro e w1 ⟨rfl, q⟩
    have Q := Lib.hid q
    clear q
    go_wp2
    go_end0
    exact ⟨rfl, Q.out⟩
  · have b4 : (e == 4) = false := by simpa using h4
    go_enter Tryz.func176, Tryz.ntmps176
    go_wp2
    go_end0
    exact ⟨rfl, HZ.out, Kept.refl _ _⟩
set_option maxHeartbeats 1600000 in
theorem ee_thanks_by (c p : Nat) (hx : x.ne = .func (.func c) #[] #[ptr p]) (hb : Blk w g 125 (x.cells k d n cap wi co wa)) (hcall : ∀ args w, (callFunc c args).run Tryz.prog w = .ok (.enter c args) w) (hz : Ee S k n w g)
    (HJ : Calls Tryz.prog c #[ptr p] w fun e w' => e = .returned (.tuple #[]) ∧ Ee S k n w' g ∧ Kept S w w') :
    Calls Tryz.prog 176 #[.pointer (some ⟨g, 0, none⟩), .int .i64 e, .bool l] w fun e w' => e = .returned (.tuple #[]) ∧ Ee S k n w' g ∧ Kept S w w' := by
  have c6 : w.cell? ⟨g, 6, none⟩ = some (.func (.func c) #[] #[ptr p]) := by
    have := hb.cell 6
    simp only [EeS.cells, hx] at this
    exact this.trans rfl
  have HZ := Lib.hid hz
  have HJ2 := Lib.hid HJ
  clear hb hx hz HJ
  by_cases h4 : e = 4
  · subst h4
    go_enter Tryz.func176, Tryz.ntmps176
    go_wp2_with fail
    refine HJ2.out.mono ?_
    rintro e w1 ⟨rfl, q⟩
    have Q := Lib.hid q
    clear q
    go_wp2
    go_end0
    exact ⟨rfl, Q.out⟩
  · have b4 : (e == 4) = false := by simpa using h4
    go_enter Tryz.func176, Tryz.ntmps176
    go_wp2
    go_end0
    exact ⟨rfl, HZ.out, Kept.refl _ _⟩
theorem ee_thanks (ok : x.Ok n) (hn : n < 65536) (hb : Blk w g 125 (x.cells k d n cap wi co wa)) (hr : EeR S n d wi co wa w g) (hx : x.ev = bm 176 g) (hne : Nx S w g co x.ne) :
    Calls Tryz.prog 176 #[.pointer (some ⟨g, 0, none⟩), .int .i64 e, .bool l] w fun e w' => e = .returned (.tuple #[]) ∧ Ee S k n w' g ∧ Kept S w w' := by
  have hz : Ee S k n w g := ⟨x, d, cap, wi, co, wa, ok, hb, hr, Or.inr (Or.inr (Or.inl ⟨hx, hne⟩))⟩
  have hne2 := hne
  rcases hne with h | ⟨p, h, hp⟩ | ⟨p, h, hp, hc⟩
  · refine ee_thanks_on S k n g d cap wi co wa x w e l 151 h hb call_151 hz ?_
    exact (ee_send k n g d cap wi co wa x w hb hr.byt ok.pt0 ok.pt1 hn).mono fun _ _ ⟨q1, ⟨b, v, p, hv, p0, p1, q2⟩, q3⟩ => ⟨q1, Ee.upd hb hr q2 q3 ⟨hv, ok.hi0, ok.hi1, p0, p1, ok.left⟩ (Or.inr (Or.inr (Or.inr (Or.inl ⟨rfl, Int.le_refl 0, (show (0 : Int) ≤ 7 by decide)⟩))))⟩
  · refine ee_thanks_by S k n g d cap wi co wa x w e l 155 p h hb call_155 hz ?_
    exact (ee_next k n g d cap wi co wa x w 155 156 p (Or.inl ⟨rfl, rfl⟩) hb hp.2).mono fun _ _ ⟨q1, q2, q3⟩ => ⟨q1, Ee.upd hb hr q2 q3 ⟨by_0, ok.hi0, ok.hi1, ok.pt0, ok.pt1, ok.left⟩ (Or.inr (Or.inl ⟨rfl, Or.inr (Or.inl rfl)⟩))⟩
  · refine ee_thanks_by S k n g d cap wi co wa x w e l 180 p h hb call_180 hz ?_
    exact (ee_next k n g d cap wi co wa x w 180 181 p (Or.inr ⟨rfl, rfl⟩) hb hp.2).mono fun _ _ ⟨q1, q2, q3⟩ => ⟨q1, Ee.upd hb hr q2 q3 ⟨by_0, ok.hi0, ok.hi1, ok.pt0, ok.pt1, ok.left⟩ (Or.inr (Or.inl ⟨rfl, Or.inr (Or.inr ⟨rfl, hc, hne2⟩)⟩))⟩
theorem ee_event (kd : Kd k n) (ok : x.Ok n) (hb : Blk w g 125 (x.cells k d n cap wi co wa)) (hr : EeR S n d wi co wa w g) (hev : Ev S w g co x) (he : e = 3 ∨ e = 4 ∨ ((e == 3) = false ∧ (e == 4) = false)) (hgeo : OwnGeo.GeoAt w) (h0 : g ≠ 0) :
    ∃ j, x.ev = bm j g ∧ (∀ args w, (callFunc j args).run Tryz.prog w = .ok (.enter j args) w) ∧ Calls Tryz.prog j #[.pointer (some ⟨g, 0, none⟩), .int .i64 e, .bool l] w fun e w' => e = .returned (.tuple #[]) ∧ EeQ S k n w w' g := by
  have hz : Ee S k n w g := ⟨x, d, cap, wi, co, wa, ok, hb, hr, hev⟩
  have hev2 := hev
  rcases hev with h | ⟨h, hj⟩ | ⟨h, hne⟩ | ⟨h, b0, b1⟩ | h
  · exact ⟨49, h, call_49, (ee_idle g w e l).mono fun _ _ ⟨q1, q2⟩ => ⟨q1, EeQ.of (q2 ▸ hz) (q2 ▸ Kept.refl _ _)⟩⟩
  · refine ⟨149, h, call_149, ?_⟩
    have kq : Kept (· = g) w w.drew := (Kept.refl _ _).drew
    obtain ⟨j, hju, hcall, HJ⟩ := ee_judge S k n g d cap wi co wa x w.drew x.val kd ok hb.drew (hr.kept hb kq) (hev2.kept hb kq) (hj.kept hb kq) ok.val (hgeo.kept (S := fun _ => False) (Kept.refl _ _).drew (fun h => h)) h0
    exact ee_hears S k n g d cap wi co wa x w e l j he ok hb hr h hj hju hcall HJ
  · exact ⟨176, h, call_176, (ee_thanks S k n g d cap wi co wa x w e l ok kd.lt hb hr h hne).mono fun _ _ q => ⟨q.1, EeQ.of q.2.1 q.2.2⟩⟩
  · exact ⟨177, h, call_177, (ee_tells S k n g d cap wi co wa x w e l ok hb hr h b0 b1).mono fun _ _ q => ⟨q.1, EeQ.of q.2.1 q.2.2⟩⟩
  · exact ⟨194, h, call_194, (ee_asks S k n g d cap wi co wa x w e l ok kd.lt hb hr hev2).mono fun _ _ q => ⟨q.1, EeQ.of q.2.1 q.2.2⟩⟩
end
end Go.Proofs.YtifajfjiloajfaaGreatDoor.OwnChip

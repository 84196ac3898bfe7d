/- The EEPROM judges the device's byte. Conditions: its pointer lies among its bytes. · The EEPROM stores a byte. Conditions: its pointer lies among its bytes. -/
import Derived.Test.YtifajfjiloajfaaGreatDoorMEe
import Derived.BigQuiet
namespace Go.Proofs.YtifajfjiloajfaaGreatDoor.OwnChip
open Go.RowKit Go.Proofs.YtifajfjiloajfaaGreatDoor.Own
/-- What it is in the midst of a judgement. -/
def EeP (S : Nat → Prop) (k : Int) (n : Nat) (w w' : World) (g : Nat) (y : EeS) (d cap wi : Nat) (co wa : Option Nat) : Prop :=
  y.Ok n ∧ Blk w' g 125 (y.cells k d n cap wi co wa) ∧ EeR (Fr S w w') n d wi co wa w' g ∧ Ev (Fr S w w') w' g co y ∧ Kept S w w'
section
variable {S : Nat → Prop} {k : Int} {n g d cap wi : Nat} {co wa : Option Nat} {y z : EeS} {w w2 w3 : World}
theorem Fr.up (q : Kept (· = g) w2 w3) : ∀ j, Fr S w w2 j → Fr S w w3 j := fun _ h => h.imp id fun h => ⟨h.1, Nat.lt_of_lt_of_le h.2 q.size⟩
theorem EeP.blk (h : EeP S k n w w2 g y d cap wi co wa) : Blk w2 g 125 (y.cells k d n cap wi co wa) := h.2.1
theorem Box.blk {p : Nat} (h : Box S w g p) : Blk w p 79 #[ptr g] := h.2
theorem EeP.keep (h : EeP S k n w w2 g y d cap wi co wa) (q : Kept (· = g) w2 w3) (hb : Blk w3 g 125 (z.cells k d n cap wi co wa)) (ok : z.Ok n) (e1 : z.ev = y.ev) (e2 : z.ju = y.ju) (e3 : z.bits = y.bits) (e4 : z.ne = y.ne) (hg : S g) : EeP S k n w w3 g z d cap wi co wa := by
  obtain ⟨-, hb2, hr, he, kp⟩ := h
  refine ⟨ok, hb, (hr.kept hb2 q).mono (Fr.up q), ?_, kp.trans (q.mono (by rintro j - rfl; exact Or.inl hg))⟩
  have he3 := (he.kept hb2 q).mono (Fr.up q)
  unfold Ev at he3 ⊢
  rw [e1, e2, e3, e4]
  exact he3
theorem kd {T : Nat → Prop} (w : World) (nq : Nat) : Kept T w (w.drewN nq) := ⟨rfl, rfl, rfl, Nat.le_refl _, fun _ _ _ => rfl⟩
theorem EeP.drewN {nq : Nat} (h : EeP S k n w w2 g y d cap wi co wa) (hg : S g) : EeP S k n w (w2.drewN nq) g y d cap wi co wa := h.keep (kd w2 nq) h.2.1 h.1 rfl rfl rfl rfl hg
theorem EeP.done (h : EeP S k n w w2 g y d cap wi co wa) : EeJ S k n w w2 g false := by
  obtain ⟨ok, hb2, hr, he, kp⟩ := h
  exact ⟨⟨y, d, cap, wi, co, wa, ok, hb2, hr, he, fun h => by simp at h⟩, kp⟩
theorem EeP.next (h : EeP S k n w w2 g y d cap wi co wa) (q : Kept (· = g) w2 w3) (hb : Blk w3 g 125 (z.cells k d n cap wi co wa)) (ok : z.Ok n) (hn : Nx (Fr S w w3) w3 g co z.ne) (e1 : z.ev = y.ev) (e2 : z.ju = y.ju) (e3 : z.bits = y.bits) (hg : S g) : EeJ S k n w w3 g true := by
  obtain ⟨-, hb2, hr, he, kp⟩ := h
  exact ⟨⟨z, d, cap, wi, co, wa, ok, hb, (hr.kept hb2 q).mono (Fr.up q), he.anew hn (Or.inr rfl) e1 e2 e3, fun _ => hn⟩, kp.trans (q.mono (by rintro j - rfl; exact Or.inl hg))⟩
end
theorem Box.go {S : Nat → Prop} {g p : Nat} {w w3 w4 : World} {cs : Array Value} (h : Box (Fr S w w3) w3 g p) (q : Kept (· = g) w3 w4) (hb : Blk w3 g 125 cs) : Box (Fr S w w4) w4 g p := ⟨Fr.up q _ h.1, q.blk h.2 (ne_type h.2 hb (by decide))⟩
/-- The pointer with a block. -/
abbrev blkpt (m p : Int) : Int := bits BinOp.or IntKind.i64 (wrap64 (m * 256)) (bits BinOp.and IntKind.i64 p 255)
theorem blkpt_in {m p : Int} (m0 : 0 ≤ m) (m1 : m < 2) (p0 : 0 ≤ p) (p1 : p < 512) : 0 ≤ blkpt m p ∧ blkpt m p < 512 := by
  have q : ∀ (a : Fin 2) (c : Fin 512), 0 ≤ blkpt ((a.val : Nat) : Int) ((c.val : Nat) : Int) ∧ blkpt ((a.val : Nat) : Int) ((c.val : Nat) : Int) < 512 := by decide +kernel
  have := q ⟨m.toNat, by omega⟩ ⟨p.toNat, by omega⟩
  simpa [Int.toNat_of_nonneg m0, Int.toNat_of_nonneg p0] using this
/-- The block that the byte names. -/
def named (b : Int) : Int := bits BinOp.and IntKind.i64 (wrap64 (b / 2)) 7
theorem named_in {b : Int} (hb : By b) : 0 ≤ named b ∧ named b ≤ 7 := byte_all (P := fun b => 0 ≤ named b ∧ named b ≤ 7) (by decide +kernel) hb
section
variable (S : Nat → Prop) (k : Int) (n g d cap wi : Nat) (co wa : Option Nat) (x : EeS) (w w2 : World) (b : Int)
abbrev devW (w : World) (g : Nat) (b : Int) : World := (w.setCell ⟨g, 9, none⟩ (.int .i64 (named b))).alloc (.cells #[ptr g] 79)
theorem ee_dev (ok : x.Ok n) (hb : Blk w g 125 (x.cells k d n cap wi co wa)) (hr : EeR S n d wi co wa w g) (hev : Ev S w g co x) (hbel : Below (devW w g b).heap.size (devW w g b) w2) :
    EeP S k n w w2 g { x with blk := named b } d cap wi co wa ∧ Box (Fr S w w2) w2 g w.heap.size := by
  have hsz : (devW w g b).heap.size = w.heap.size + 1 := by simp [World.setCell]
  have q : Kept (· = g) w (devW w g b) := kalloc (S := (· = g)) (Kept.set (S := (· = g)) g 9 _ rfl) _
  have q2 : Kept (· = g) w w2 := q.trans (Kept.below hbel)
  have hs : ∀ j, S j → Fr S w w2 j := fun _ => Or.inl
  have hB : Blk (devW w g b) g 125 (EeS.cells { x with blk := named b } k d n cap wi co wa) := (hb.set_ 9 _).alloc _
  have hX : Blk (devW w g b) w.heap.size 79 #[ptr g] := by
    have := Blk.new (w.setCell ⟨g, 9, none⟩ (.int .i64 (named b))) 79 #[ptr g]
    rwa [show (w.setCell ⟨g, 9, none⟩ (.int .i64 (named b))).heap.size = w.heap.size by simp [World.setCell]] at this
  have h1 := hbel.size
  refine ⟨⟨⟨ok.val, ok.hi0, ok.hi1, ok.pt0, ok.pt1, ok.left⟩, hB.below hbel hB.lt, (hr.kept hb q2).mono hs, ?_, kin q2 hr.inG⟩, Or.inr ⟨Nat.le_refl _, by omega⟩, hX.below hbel hX.lt⟩
  have he := (hev.kept hb q2).mono hs
  exact he
theorem ee_dev3 {S : Nat → Prop} {k : Int} {n g d cap wi p : Nat} {co wa : Option Nat} {y : EeS} {w w2 w3 : World} (nq : Nat) (h : EeP S k n w w2 g y d cap wi co wa) (hx : Box (Fr S w w2) w2 g p) (hbel : Below (w2.drewN nq).heap.size (w2.drewN nq) w3) (hg : S g) :
    EeP S k n w w3 g y d cap wi co wa ∧ Box (Fr S w w3) w3 g p := by
  have q : Kept (· = g) w2 w3 := (kd w2 nq).trans (Kept.below hbel)
  have hb2 := h.blk
  exact ⟨h.keep q ((hb2.drewN nq).below hbel hb2.lt) h.1 rfl rfl rfl rfl hg, Fr.up q _ hx.1, q.blk hx.2 (ne_type hx.2 hb2 (by decide))⟩
end
section
variable (S : Nat → Prop) (g d cap wi : Nat) (co wa : Option Nat) (x : EeS) (w : World) (b : Int)
set_option maxHeartbeats 3200000 in
theorem ee_device_1 (ok : x.Ok 128) (hb : Blk w g 125 (x.cells 1 d 128 cap wi co wa)) (hr : EeR S 128 d wi co wa w g) (hev : Ev S w g co x) (hv : By b) (hgeo : OwnGeo.GeoAt w) (h0 : g ≠ 0) :
    Calls Tryz.prog 105 #[.pointer (some ⟨g, 0, none⟩), .int .u8 b] w fun e w' => ∃ r, e = .returned (.bool r) ∧ EeJ S 1 128 w w' g r := by
  have hp0 := ok.pt0
  have hp1 : x.pt < 128 := ok.pt1
  have c0 : w.cell? ⟨g, 0, none⟩ = some (.int .i64 1) := (hb.cell 0).trans rfl
  have c9 : w.cell? ⟨g, 9, none⟩ = some (.int .i64 x.blk) := (hb.cell 9).trans rfl
  have f9 := hb.frozen 9
  have hlt := hb.lt
  have OK := Lib.hid ok
  have hG : OwnGeo.GeoAt (devW w g b) := (hgeo.kept (S := (· = g)) (Kept.set (S := (· = g)) g 9 _ rfl) (fun e => h0 e.symm)).alloc _
  have hGS := Lib.hid hr.inG
  have HG := Lib.hid hG
  have HD := Lib.hid (fun w2 => ee_dev S 1 128 g d cap wi co wa x w w2 b ok hb hr hev)
  have HK : Hid (Calls Tryz.prog 150 #[.int .i64 1] ((w.setCell ⟨g, 9, none⟩ (.int .i64 (bits BinOp.and IntKind.i64 (wrap64 (b / 2)) 7))).alloc (.cells #[ptr g] 79)) fun e w' => e = .returned (.int .i64 0) ∧ Below (devW w g b).heap.size (devW w g b) w') := Lib.hid (OwnGeo.blocks_1 (devW w g b) hG)
  obtain ⟨lf, hlf0⟩ : ∃ lf : Int, lf = x.left := ⟨_, rfl⟩
  have hlf := Lib.hid hlf0
  clear hlf0
  clear hb hr hev ok hG hgeo
  go_enter Tryz.func105, Tryz.ntmps105
  go_wp2_with (go_at_call 150; with_reducible refine HK.out.mono ?_; rintro e w2 ⟨rfl, hbel⟩; have HP := Lib.hid (HD.out w2 hbel); have G2 := Lib.hid (HG.out.below hbel); have hb2 := HP.out.1.blk; have d0 : w2.cell? ⟨w.heap.size, 0, none⟩ = some (ptr g) := (HP.out.2.blk.cell 0).trans rfl; have d9 : w2.cell? ⟨g, 9, none⟩ = some (.int .i64 (named b)) := (hb2.cell 9).trans rfl; have d14 : w2.cell? ⟨g, 14, none⟩ = some (.int .i64 lf) := (by rw [hlf.out]; exact (hb2.cell 14).trans rfl); have d0k : w2.cell? ⟨g, 0, none⟩ = some (.int .i64 1) := (hb2.cell 0).trans rfl; have d6 : w2.cell? ⟨g, 6, none⟩ = some x.ne := (hb2.cell 6).trans rfl; have d11 : w2.cell? ⟨g, 11, none⟩ = some (.int .i64 x.pt) := (hb2.cell 11).trans rfl; have g6 := hb2.frozen 6; have g11 := hb2.frozen 11; have HW := Lib.hid (fun nq => OwnGeo.wide_1 (w2.drewN nq) (G2.out.kept (S := fun _ => False) (kd w2 nq) (fun h => h))); clear hb2 hbel)
  rcases h1 : (b / 16 != 10) with _ | _
  · rcases h2 : decide (1 ≤ named b) with _ | _
    · rcases h3 : decide (0 < lf) with _ | _
      · rcases h4 : (bits BinOp.and IntKind.u8 b 1 == 1) with _ | _
        · go_quiet (fail)
          go_wp2_with (go_at_call 152; with_reducible refine (HW.out _).mono ?_; rintro e w3 ⟨rfl, hbel⟩; have HP3 := Lib.hid (ee_dev3 nq HP.out.1 HP.out.2 hbel hGS.out); have hb3 := HP3.out.1.blk; have e0 : w3.cell? ⟨w.heap.size, 0, none⟩ = some (ptr g) := (HP3.out.2.blk.cell 0).trans rfl; have e9 : w3.cell? ⟨g, 9, none⟩ = some (.int .i64 (named b)) := (hb3.cell 9).trans rfl; have e10 : w3.cell? ⟨g, 10, none⟩ = some (.int .i64 x.hi) := (hb3.cell 10).trans rfl; have e6 : w3.cell? ⟨g, 6, none⟩ = some x.ne := (hb3.cell 6).trans rfl; have k6 := hb3.frozen 6; have k10 := hb3.frozen 10; clear hb3 hbel)
          go_region
          all_goals
            go_wp2
            go_ret
            have q : Kept (· = g) w3 ((w3.setCell ⟨g, 10, none⟩ (.int .i64 (named b))).setCell ⟨g, 6, none⟩ (.func (.func 155) #[] #[ptr w.heap.size])).drew := Kept.drew (kset (S := (· = g)) (Kept.set (S := (· = g)) g 10 _ rfl) rfl 6 _)
            exact ⟨true, rfl, HP3.out.1.next (z := { x with blk := named b, hi := named b, ne := .func (.func 155) #[] #[ptr w.heap.size] }) q ((HP3.out.1.blk.set_ 10 _).set_ 6 _).drew ⟨OK.out.val, (named_in hv).1, (named_in hv).2, OK.out.pt0, OK.out.pt1, OK.out.left⟩ (Or.inr (Or.inl ⟨_, rfl, HP3.out.2.go q HP3.out.1.blk⟩)) rfl rfl rfl hGS.out⟩
        · go_quiet (fail)
          go_wp2
          go_ret
          exact ⟨true, rfl, HP.out.1.next (z := { x with blk := named b, ne := bm 151 g }) (kset (S := (· = g)) (kd w2 _) rfl 6 _) ((HP.out.1.blk.drewN _).set_ 6 _) ⟨OK.out.val, OK.out.hi0, OK.out.hi1, OK.out.pt0, OK.out.pt1, OK.out.left⟩ (Or.inl rfl) rfl rfl rfl hGS.out⟩
      · go_quiet (fail)
        go_wp2
        go_ret
        exact ⟨false, rfl, (HP.out.1.drewN hGS.out).done⟩
    · go_quiet (fail)
      go_wp2
      go_ret
      exact ⟨false, rfl, (HP.out.1.drewN hGS.out).done⟩
  · go_quiet (fail)
    go_wp2
    go_ret
    exact ⟨false, rfl, (HP.out.1.drewN hGS.out).done⟩
set_option maxHeartbeats 3200000 in
theorem ee_device_2 (ok : x.Ok 256) (hb : Blk w g 125 (x.cells 2 d 256 cap wi co wa)) (hr : EeR S 256 d wi co wa w g) (hev : Ev S w g co x) (hv : By b) (hgeo : OwnGeo.GeoAt w) (h0 : g ≠ 0) :
    Calls Tryz.prog 105 #[.pointer (some ⟨g, 0, none⟩), .int .u8 b] w fun e w' => ∃ r, e = .returned (.bool r) ∧ EeJ S 2 256 w w' g r := by
  have hp0 := ok.pt0
  have hp1 : x.pt < 256 := ok.pt1
  have c0 : w.cell? ⟨g, 0, none⟩ = some (.int .i64 2) := (hb.cell 0).trans rfl
  have c9 : w.cell? ⟨g, 9, none⟩ = some (.int .i64 x.blk) := (hb.cell 9).trans rfl
  have f9 := hb.frozen 9
  have hlt := hb.lt
  have OK := Lib.hid ok
  have hG : OwnGeo.GeoAt (devW w g b) := (hgeo.kept (S := (· = g)) (Kept.set (S := (· = g)) g 9 _ rfl) (fun e => h0 e.symm)).alloc _
  have hGS := Lib.hid hr.inG
  have HG := Lib.hid hG
  have HD := Lib.hid (fun w2 => ee_dev S 2 256 g d cap wi co wa x w w2 b ok hb hr hev)
  have HK : Hid (Calls Tryz.prog 150 #[.int .i64 2] ((w.setCell ⟨g, 9, none⟩ (.int .i64 (bits BinOp.and IntKind.i64 (wrap64 (b / 2)) 7))).alloc (.cells #[ptr g] 79)) fun e w' => e = .returned (.int .i64 0) ∧ Below (devW w g b).heap.size (devW w g b) w') := Lib.hid (OwnGeo.blocks_2 (devW w g b) hG)
  obtain ⟨lf, hlf0⟩ : ∃ lf : Int, lf = x.left := ⟨_, rfl⟩
  have hlf := Lib.hid hlf0
  clear hlf0
  clear hb hr hev ok hG hgeo
  go_enter Tryz.func105, Tryz.ntmps105
  go_wp2_with (go_at_call 150; with_reducible refine HK.out.mono ?_; rintro e w2 ⟨rfl, hbel⟩; have HP := Lib.hid (HD.out w2 hbel); have G2 := Lib.hid (HG.out.below hbel); have hb2 := HP.out.1.blk; have d0 : w2.cell? ⟨w.heap.size, 0, none⟩ = some (ptr g) := (HP.out.2.blk.cell 0).trans rfl; have d9 : w2.cell? ⟨g, 9, none⟩ = some (.int .i64 (named b)) := (hb2.cell 9).trans rfl; have d14 : w2.cell? ⟨g, 14, none⟩ = some (.int .i64 lf) := (by rw [hlf.out]; exact (hb2.cell 14).trans rfl); have d0k : w2.cell? ⟨g, 0, none⟩ = some (.int .i64 2) := (hb2.cell 0).trans rfl; have d6 : w2.cell? ⟨g, 6, none⟩ = some x.ne := (hb2.cell 6).trans rfl; have d11 : w2.cell? ⟨g, 11, none⟩ = some (.int .i64 x.pt) := (hb2.cell 11).trans rfl; have g6 := hb2.frozen 6; have g11 := hb2.frozen 11; have HW := Lib.hid (fun nq => OwnGeo.wide_2 (w2.drewN nq) (G2.out.kept (S := fun _ => False) (kd w2 nq) (fun h => h))); clear hb2 hbel)
  rcases h1 : (b / 16 != 10) with _ | _
  · rcases h2 : decide (1 ≤ named b) with _ | _
    · rcases h3 : decide (0 < lf) with _ | _
      · rcases h4 : (bits BinOp.and IntKind.u8 b 1 == 1) with _ | _
        · go_quiet (fail)
          go_wp2_with (go_at_call 152; with_reducible refine (HW.out _).mono ?_; rintro e w3 ⟨rfl, hbel⟩; have HP3 := Lib.hid (ee_dev3 nq HP.out.1 HP.out.2 hbel hGS.out); have hb3 := HP3.out.1.blk; have e0 : w3.cell? ⟨w.heap.size, 0, none⟩ = some (ptr g) := (HP3.out.2.blk.cell 0).trans rfl; have e9 : w3.cell? ⟨g, 9, none⟩ = some (.int .i64 (named b)) := (hb3.cell 9).trans rfl; have e10 : w3.cell? ⟨g, 10, none⟩ = some (.int .i64 x.hi) := (hb3.cell 10).trans rfl; have e6 : w3.cell? ⟨g, 6, none⟩ = some x.ne := (hb3.cell 6).trans rfl; have k6 := hb3.frozen 6; have k10 := hb3.frozen 10; clear hb3 hbel)
          go_region
          all_goals
            go_wp2
            go_ret
            have q : Kept (· = g) w3 ((w3.setCell ⟨g, 10, none⟩ (.int .i64 (named b))).setCell ⟨g, 6, none⟩ (.func (.func 155) #[] #[ptr w.heap.size])).drew := Kept.drew (kset (S := (· = g)) (Kept.set (S := (· = g)) g 10 _ rfl) rfl 6 _)
            exact ⟨true, rfl, HP3.out.1.next (z := { x with blk := named b, hi := named b, ne := .func (.func 155) #[] #[ptr w.heap.size] }) q ((HP3.out.1.blk.set_ 10 _).set_ 6 _).drew ⟨OK.out.val, (named_in hv).1, (named_in hv).2, OK.out.pt0, OK.out.pt1, OK.out.left⟩ (Or.inr (Or.inl ⟨_, rfl, HP3.out.2.go q HP3.out.1.blk⟩)) rfl rfl rfl hGS.out⟩
        · go_quiet (fail)
          go_wp2
          go_ret
          exact ⟨true, rfl, HP.out.1.next (z := { x with blk := named b, ne := bm 151 g }) (kset (S := (· = g)) (kd w2 _) rfl 6 _) ((HP.out.1.blk.drewN _).set_ 6 _) ⟨OK.out.val, OK.out.hi0, OK.out.hi1, OK.out.pt0, OK.out.pt1, OK.out.left⟩ (Or.inl rfl) rfl rfl rfl hGS.out⟩
      · go_quiet (fail)
        go_wp2
        go_ret
        exact ⟨false, rfl, (HP.out.1.drewN hGS.out).done⟩
    · go_quiet (fail)
      go_wp2
      go_ret
      exact ⟨false, rfl, (HP.out.1.drewN hGS.out).done⟩
  · go_quiet (fail)
    go_wp2
    go_ret
    exact ⟨false, rfl, (HP.out.1.drewN hGS.out).done⟩
set_option maxHeartbeats 3200000 in
theorem ee_device_3 (ok : x.Ok 512) (hb : Blk w g 125 (x.cells 3 d 512 cap wi co wa)) (hr : EeR S 512 d wi co wa w g) (hev : Ev S w g co x) (hv : By b) (hgeo : OwnGeo.GeoAt w) (h0 : g ≠ 0) :
    Calls Tryz.prog 105 #[.pointer (some ⟨g, 0, none⟩), .int .u8 b] w fun e w' => ∃ r, e = .returned (.bool r) ∧ EeJ S 3 512 w w' g r := by
  have hp0 := ok.pt0
  have hp1 : x.pt < 512 := ok.pt1
  have c0 : w.cell? ⟨g, 0, none⟩ = some (.int .i64 3) := (hb.cell 0).trans rfl
  have c9 : w.cell? ⟨g, 9, none⟩ = some (.int .i64 x.blk) := (hb.cell 9).trans rfl
  have f9 := hb.frozen 9
  have hlt := hb.lt
  have OK := Lib.hid ok
  have hG : OwnGeo.GeoAt (devW w g b) := (hgeo.kept (S := (· = g)) (Kept.set (S := (· = g)) g 9 _ rfl) (fun e => h0 e.symm)).alloc _
  have hGS := Lib.hid hr.inG
  have HG := Lib.hid hG
  have HD := Lib.hid (fun w2 => ee_dev S 3 512 g d cap wi co wa x w w2 b ok hb hr hev)
  have HK : Hid (Calls Tryz.prog 150 #[.int .i64 3] ((w.setCell ⟨g, 9, none⟩ (.int .i64 (bits BinOp.and IntKind.i64 (wrap64 (b / 2)) 7))).alloc (.cells #[ptr g] 79)) fun e w' => e = .returned (.int .i64 1) ∧ Below (devW w g b).heap.size (devW w g b) w') := Lib.hid (OwnGeo.blocks_3 (devW w g b) hG)
  obtain ⟨lf, hlf0⟩ : ∃ lf : Int, lf = x.left := ⟨_, rfl⟩
  have hlf := Lib.hid hlf0
  clear hlf0
  clear hb hr hev ok hG hgeo
  go_enter Tryz.func105, Tryz.ntmps105
  go_wp2_with (go_at_call 150; with_reducible refine HK.out.mono ?_; rintro e w2 ⟨rfl, hbel⟩; have HP := Lib.hid (HD.out w2 hbel); have G2 := Lib.hid (HG.out.below hbel); have hb2 := HP.out.1.blk; have d0 : w2.cell? ⟨w.heap.size, 0, none⟩ = some (ptr g) := (HP.out.2.blk.cell 0).trans rfl; have d9 : w2.cell? ⟨g, 9, none⟩ = some (.int .i64 (named b)) := (hb2.cell 9).trans rfl; have d14 : w2.cell? ⟨g, 14, none⟩ = some (.int .i64 lf) := (by rw [hlf.out]; exact (hb2.cell 14).trans rfl); have d0k : w2.cell? ⟨g, 0, none⟩ = some (.int .i64 3) := (hb2.cell 0).trans rfl; have d6 : w2.cell? ⟨g, 6, none⟩ = some x.ne := (hb2.cell 6).trans rfl; have d11 : w2.cell? ⟨g, 11, none⟩ = some (.int .i64 x.pt) := (hb2.cell 11).trans rfl; have g6 := hb2.frozen 6; have g11 := hb2.frozen 11; have HW := Lib.hid (fun nq => OwnGeo.wide_3 (w2.drewN nq) (G2.out.kept (S := fun _ => False) (kd w2 nq) (fun h => h))); clear hb2 hbel)
  rcases h1 : (b / 16 != 10) with _ | _
  · rcases h2 : decide (2 ≤ named b) with _ | _
    · rcases h3 : decide (0 < lf) with _ | _
      · have hbp := Lib.hid (blkpt_in (m := named b) (p := x.pt) (named_in hv).1 (by simp at h2; omega) hp0 (by omega))
        rcases h4 : (bits BinOp.and IntKind.u8 b 1 == 1) with _ | _
        · go_quiet (fail)
          go_wp2_with (go_at_call 152; with_reducible refine (HW.out _).mono ?_; rintro e w3 ⟨rfl, hbel⟩; have HP3 := Lib.hid (ee_dev3 nq HP.out.1 HP.out.2 hbel hGS.out); have hb3 := HP3.out.1.blk; have e0 : w3.cell? ⟨w.heap.size, 0, none⟩ = some (ptr g) := (HP3.out.2.blk.cell 0).trans rfl; have e9 : w3.cell? ⟨g, 9, none⟩ = some (.int .i64 (named b)) := (hb3.cell 9).trans rfl; have e10 : w3.cell? ⟨g, 10, none⟩ = some (.int .i64 x.hi) := (hb3.cell 10).trans rfl; have e6 : w3.cell? ⟨g, 6, none⟩ = some x.ne := (hb3.cell 6).trans rfl; have k6 := hb3.frozen 6; have k10 := hb3.frozen 10; clear hb3 hbel)
          go_region
          all_goals
            go_wp2
            go_ret
            have q : Kept (· = g) w3 ((w3.setCell ⟨g, 10, none⟩ (.int .i64 (named b))).setCell ⟨g, 6, none⟩ (.func (.func 155) #[] #[ptr w.heap.size])).drew := Kept.drew (kset (S := (· = g)) (Kept.set (S := (· = g)) g 10 _ rfl) rfl 6 _)
            exact ⟨true, rfl, HP3.out.1.next (z := { x with blk := named b, hi := named b, ne := .func (.func 155) #[] #[ptr w.heap.size] }) q ((HP3.out.1.blk.set_ 10 _).set_ 6 _).drew ⟨OK.out.val, (named_in hv).1, (named_in hv).2, OK.out.pt0, OK.out.pt1, OK.out.left⟩ (Or.inr (Or.inl ⟨_, rfl, HP3.out.2.go q HP3.out.1.blk⟩)) rfl rfl rfl hGS.out⟩
        · go_quiet (fail)
          go_wp2_with fail
          go_region
          all_goals
            go_wp2
            go_ret
            exact ⟨true, rfl, HP.out.1.next (z := { x with blk := named b, pt := blkpt (named b) x.pt, ne := bm 151 g }) (kset (S := (· = g)) (kset (S := (· = g)) (kd w2 _) rfl 11 _) rfl 6 _) (((HP.out.1.blk.drewN _).set_ 11 _).set_ 6 _) ⟨OK.out.val, OK.out.hi0, OK.out.hi1, hbp.out.1, hbp.out.2, OK.out.left⟩ (Or.inl rfl) rfl rfl rfl hGS.out⟩
      · go_quiet (fail)
        go_wp2
        go_ret
        exact ⟨false, rfl, (HP.out.1.drewN hGS.out).done⟩
    · go_quiet (fail)
      go_wp2
      go_ret
      exact ⟨false, rfl, (HP.out.1.drewN hGS.out).done⟩
  · go_quiet (fail)
    go_wp2
    go_ret
    exact ⟨false, rfl, (HP.out.1.drewN hGS.out).done⟩
end
end Go.Proofs.YtifajfjiloajfaaGreatDoor.OwnChip
namespace Go.Proofs.YtifajfjiloajfaaGreatDoor.OwnChip
open Go.RowKit Go.Proofs.YtifajfjiloajfaaGreatDoor.Own
section
variable (S : Nat → Prop) (k : Int) (n g d cap wi B : Nat) (wa : Option Nat) (x : EeS) (w : World) (b : Int)
theorem ee_stored (p : Int) (p0 : 0 ≤ p) (p1 : p < n) (w1 w2 : World) (ok : x.Ok n) (hb : Blk w g 125 (x.cells k d n cap wi (some B) wa)) (hr : EeR S n d wi (some B) wa w g) (hev : Ev S w g (some B) x) (hn : Nx S w g (some B) x.ne) (hB : Mp n w B) (hB1 : Mp n w1 B) (hg : w.grownBy w1 (some B)) (hbel : Below w1.heap.size w1 w2) :
    EeJ S k n w (w2.setCell ⟨g, 11, none⟩ (.int .i64 p)) g true := by
  have hb1 := hB.blk hg hb
  have hr1 := hr.turned hB hB1 hg
  have q1 : Kept (· = g) w1 (w2.setCell ⟨g, 11, none⟩ (.int .i64 p)) := kset (S := (· = g)) (Kept.below hbel) rfl 11 _
  have hq : Kept S w (w2.setCell ⟨g, 11, none⟩ (.int .i64 p)) := (Kept.grown hg (hr.mco B rfl).1).trans ((kin q1 hr.inG).mono fun _ _ => Or.inl)
  have hs : ∀ j, S j → Fr S w (w2.setCell ⟨g, 11, none⟩ (.int .i64 p)) j := fun _ => Or.inl
  exact ⟨⟨{ x with pt := p }, d, cap, wi, some B, wa, ⟨ok.val, ok.hi0, ok.hi1, p0, p1, ok.left⟩, (hb1.below hbel hb1.lt).set_ 11 _, (hr1.kept hb1 q1).mono hs, (((hev.turned hB hg).kept hb1 q1).mono hs).anew (((hn.turned hB hg).kept hb1 q1).mono hs) (Or.inr rfl) rfl rfl rfl, fun _ => ((hn.turned hB hg).kept hb1 q1).mono hs⟩, hq⟩
end
section
variable (S : Nat → Prop) (g d cap wi B : Nat) (wa : Option Nat) (x : EeS) (w : World) (b : Int)
set_option maxHeartbeats 3200000 in
theorem ee_store_1 (ok : x.Ok 128) (hb : Blk w g 125 (x.cells 1 d 128 cap wi (some B) wa)) (hr : EeR S 128 d wi (some B) wa w g) (hev : Ev S w g (some B) x) (hn : Nx S w g (some B) x.ne) (hv : By b) (hgeo : OwnGeo.GeoAt w) :
    Calls Tryz.prog 181 #[.pointer (some ⟨g, 0, none⟩), .int .u8 b] w fun e w' => e = .returned (.bool true) ∧ EeJ S 1 128 w w' g true := by
  obtain ⟨hSB, hB⟩ := hr.mco B rfl
  obtain ⟨w1, hrun, hB1, hg0⟩ := (show Mp 128 w.drew B from hB).store (by decide) ok.pt0 ok.pt1 hv
  have hg : w.grownBy w1 (some B) := ⟨hg0.os, hg0.tape, hg0.output, hg0.size, hg0.block⟩
  clear hg0
  have hp0 := ok.pt0
  have hp1 : x.pt < 128 := ok.pt1
  have HE := Lib.hid (fun w2 => ee_stored S 1 128 g d cap wi B wa x w (x.pt / 8 * 8 + (x.pt + 1) % 8) (by omega) (by omega) w1 w2 ok hb hr hev hn hB hB1 hg)
  have c0 : w.cell? ⟨g, 0, none⟩ = some (.int .i64 1) := (hb.cell 0).trans rfl
  have c11 : w.cell? ⟨g, 11, none⟩ = some (.int .i64 x.pt) := (hb.cell 11).trans rfl
  have c12 : w.cell? ⟨g, 12, none⟩ = some (.map (some B)) := (hb.cell 12).trans rfl
  have hb1 := hB.blk hg hb
  have c01 : w1.cell? ⟨g, 0, none⟩ = some (.int .i64 1) := (hb1.cell 0).trans rfl
  have f11 := hb1.frozen 11
  have HB1 := Lib.hid hb1
  have HP : Hid (Calls Tryz.prog 195 #[.int .i64 1] w1 fun e w' => e = .returned (.int .i64 8) ∧ Below w1.heap.size w1 w') := Lib.hid (OwnGeo.page_1 w1 (hB.blk hg hgeo))
  clear hb hr hev ok hn hb1 hgeo hg hB hB1
  go_enter Tryz.func181, Tryz.ntmps181
  go_wp2_with fail
  go_region
  all_goals
    go_wp2_with (go_at_call 195; with_reducible refine HP.out.mono ?_; rintro e w2 ⟨rfl, hbel⟩; have H2 := Lib.hid (HB1.out.below hbel HB1.out.lt); have c02 : w2.cell? ⟨g, 11, none⟩ = some (.int .i64 x.pt) := (H2.out.cell 11).trans rfl; have f112 := H2.out.frozen 11; have HBL := Lib.hid hbel; clear hbel)
    go_ret
    exact ⟨rfl, HE.out w2 HBL.out⟩
set_option maxHeartbeats 3200000 in
theorem ee_store_2 (ok : x.Ok 256) (hb : Blk w g 125 (x.cells 2 d 256 cap wi (some B) wa)) (hr : EeR S 256 d wi (some B) wa w g) (hev : Ev S w g (some B) x) (hn : Nx S w g (some B) x.ne) (hv : By b) (hgeo : OwnGeo.GeoAt w) :
    Calls Tryz.prog 181 #[.pointer (some ⟨g, 0, none⟩), .int .u8 b] w fun e w' => e = .returned (.bool true) ∧ EeJ S 2 256 w w' g true := by
  obtain ⟨hSB, hB⟩ := hr.mco B rfl
  obtain ⟨w1, hrun, hB1, hg0⟩ := (show Mp 256 w.drew B from hB).store (by decide) ok.pt0 ok.pt1 hv
  have hg : w.grownBy w1 (some B) := ⟨hg0.os, hg0.tape, hg0.output, hg0.size, hg0.block⟩
  clear hg0
  have hp0 := ok.pt0
  have hp1 : x.pt < 256 := ok.pt1
  have HE := Lib.hid (fun w2 => ee_stored S 2 256 g d cap wi B wa x w (x.pt / 8 * 8 + (x.pt + 1) % 8) (by omega) (by omega) w1 w2 ok hb hr hev hn hB hB1 hg)
  have c0 : w.cell? ⟨g, 0, none⟩ = some (.int .i64 2) := (hb.cell 0).trans rfl
  have c11 : w.cell? ⟨g, 11, none⟩ = some (.int .i64 x.pt) := (hb.cell 11).trans rfl
  have c12 : w.cell? ⟨g, 12, none⟩ = some (.map (some B)) := (hb.cell 12).trans rfl
  have hb1 := hB.blk hg hb
  have c01 : w1.cell? ⟨g, 0, none⟩ = some (.int .i64 2) := (hb1.cell 0).trans rfl
  have f11 := hb1.frozen 11
  have HB1 := Lib.hid hb1
  have HP : Hid (Calls Tryz.prog 195 #[.int .i64 2] w1 fun e w' => e = .returned (.int .i64 8) ∧ Below w1.heap.size w1 w') := Lib.hid (OwnGeo.page_2 w1 (hB.blk hg hgeo))
  clear hb hr hev ok hn hb1 hgeo hg hB hB1
  go_enter Tryz.func181, Tryz.ntmps181
  go_wp2_with fail
  go_region
  all_goals
    go_wp2_with (go_at_call 195; with_reducible refine HP.out.mono ?_; rintro e w2 ⟨rfl, hbel⟩; have H2 := Lib.hid (HB1.out.below hbel HB1.out.lt); have c02 : w2.cell? ⟨g, 11, none⟩ = some (.int .i64 x.pt) := (H2.out.cell 11).trans rfl; have f112 := H2.out.frozen 11; have HBL := Lib.hid hbel; clear hbel)
    go_ret
    exact ⟨rfl, HE.out w2 HBL.out⟩
set_option maxHeartbeats 3200000 in
theorem ee_store_3 (ok : x.Ok 512) (hb : Blk w g 125 (x.cells 3 d 512 cap wi (some B) wa)) (hr : EeR S 512 d wi (some B) wa w g) (hev : Ev S w g (some B) x) (hn : Nx S w g (some B) x.ne) (hv : By b) (hgeo : OwnGeo.GeoAt w) :
    Calls Tryz.prog 181 #[.pointer (some ⟨g, 0, none⟩), .int .u8 b] w fun e w' => e = .returned (.bool true) ∧ EeJ S 3 512 w w' g true := by
  obtain ⟨hSB, hB⟩ := hr.mco B rfl
  obtain ⟨w1, hrun, hB1, hg0⟩ := (show Mp 512 w.drew B from hB).store (by decide) ok.pt0 ok.pt1 hv
  have hg : w.grownBy w1 (some B) := ⟨hg0.os, hg0.tape, hg0.output, hg0.size, hg0.block⟩
  clear hg0
  have hp0 := ok.pt0
  have hp1 : x.pt < 512 := ok.pt1
  have HE := Lib.hid (fun w2 => ee_stored S 3 512 g d cap wi B wa x w (x.pt / 16 * 16 + (x.pt + 1) % 16) (by omega) (by omega) w1 w2 ok hb hr hev hn hB hB1 hg)
  have c0 : w.cell? ⟨g, 0, none⟩ = some (.int .i64 3) := (hb.cell 0).trans rfl
  have c11 : w.cell? ⟨g, 11, none⟩ = some (.int .i64 x.pt) := (hb.cell 11).trans rfl
  have c12 : w.cell? ⟨g, 12, none⟩ = some (.map (some B)) := (hb.cell 12).trans rfl
  have hb1 := hB.blk hg hb
  have c01 : w1.cell? ⟨g, 0, none⟩ = some (.int .i64 3) := (hb1.cell 0).trans rfl
  have f11 := hb1.frozen 11
  have HB1 := Lib.hid hb1
  have HP : Hid (Calls Tryz.prog 195 #[.int .i64 3] w1 fun e w' => e = .returned (.int .i64 16) ∧ Below w1.heap.size w1 w') := Lib.hid (OwnGeo.page_3 w1 (hB.blk hg hgeo))
  clear hb hr hev ok hn hb1 hgeo hg hB hB1
  go_enter Tryz.func181, Tryz.ntmps181
  go_wp2_with fail
  go_region
  all_goals
    go_wp2_with (go_at_call 195; with_reducible refine HP.out.mono ?_; rintro e w2 ⟨rfl, hbel⟩; have H2 := Lib.hid (HB1.out.below hbel HB1.out.lt); have c02 : w2.cell? ⟨g, 11, none⟩ = some (.int .i64 x.pt) := (H2.out.cell 11).trans rfl; have f112 := H2.out.frozen 11; have HBL := Lib.hid hbel; clear hbel)
    go_ret
    exact ⟨rfl, HE.out w2 HBL.out⟩
end
end Go.Proofs.YtifajfjiloajfaaGreatDoor.OwnChip

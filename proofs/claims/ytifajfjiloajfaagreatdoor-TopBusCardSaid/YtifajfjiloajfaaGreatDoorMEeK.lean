/- The EEPROM ticks: what waits is written at the end. Conditions: its pointer lies among its bytes; its blocks are old. · A step of the EEPROM; it is made. Conditions: kinds one to three; the table of kinds is as the program lays it, and none of its blocks. · The EEPROM is made. Conditions: kinds one to three, with the slice of bytes that they ask; or none; the table of kinds is as the program lays it. -/
import Derived.Test.YtifajfjiloajfaaGreatDoorMEeH
import Derived.WalkKit
import Derived.Test.YtifajfjiloajfaaGreatDoorMFlash
import Derived.Test.YtifajfjiloajfaaGreatDoorOut
namespace Go.Proofs.YtifajfjiloajfaaGreatDoor.OwnChip
open Go.RowKit Go.Proofs.YtifajfjiloajfaaGreatDoor.Own
section
variable {S T : Nat → Prop} {n d wi g : Nat} {k : Int} {co wa : Option Nat} {w w' : World} {x : EeS}
theorem Nx.map {v : Value} (hbx : ∀ p, Box S w g p → Box T w' g p) (h : Nx S w g co v) : Nx T w' g co v := by
  rcases h with h | ⟨p, e, h⟩ | ⟨p, e, h, hc⟩
  · exact Or.inl h
  · exact Or.inr (Or.inl ⟨p, e, hbx p h⟩)
  · exact Or.inr (Or.inr ⟨p, e, hbx p h, hc⟩)
theorem Ev.map (hbx : ∀ p, Box S w g p → Box T w' g p) (h : Ev S w g co x) : Ev T w' g co x := by
  rcases h with h | ⟨e, h⟩ | ⟨e, h⟩ | h | h
  · exact Or.inl h
  · refine Or.inr (Or.inl ⟨e, ?_⟩)
    rcases h with h | h | ⟨e, hc, h⟩
    · exact Or.inl h
    · exact Or.inr (Or.inl h)
    · exact Or.inr (Or.inr ⟨e, hc, h.map hbx⟩)
  · exact Or.inr (Or.inr (Or.inl ⟨e, h.map hbx⟩))
  · exact Or.inr (Or.inr (Or.inr (Or.inl h)))
  · exact Or.inr (Or.inr (Or.inr (Or.inr h)))
/-- Nothing of its own is touched. -/
theorem EeR.out (q : Kept T w w') (hd : ∀ j, S j → ¬ T j) (h : EeR S n d wi co wa w g) : EeR S n d wi co wa w' g := by
  obtain ⟨y, hy⟩ := h.wr
  exact ⟨h.inG, h.inD, h.inW, h.byt.kept q (hd _ h.inD), ⟨y, q.blk hy (hd _ h.inW)⟩, fun B e => ⟨(h.mco B e).1, (h.mco B e).2.kept q (hd _ (h.mco B e).1)⟩, fun B e => ⟨(h.mwa B e).1, (h.mwa B e).2.kept q (hd _ (h.mwa B e).1)⟩⟩
theorem Ev.out (q : Kept T w w') (hd : ∀ j, S j → ¬ T j) (h : Ev S w g co x) : Ev S w' g co x := h.map fun p hp => ⟨hp.1, q.blk hp.2 (hd p hp.1)⟩
theorem Ee.kept (q : Kept T w w') (hd : ∀ j, S j → ¬ T j) (h : Ee S k n w g) : Ee S k n w' g := by
  obtain ⟨x, d, cap, wi, co, wa, ok, hb, hr, he⟩ := h
  exact ⟨x, d, cap, wi, co, wa, ok, q.blk hb (hd g hr.inG), hr.out q hd, he.out q hd⟩
/-- A byte is stored. -/
theorem EeR.data {i : Nat} {c : Int} (hc : By c) (h : EeR S n d wi co wa w g) : EeR S n d wi co wa (w.setCell ⟨d, i, none⟩ (.int .u8 c)) g := by
  obtain ⟨y, hy⟩ := h.wr
  obtain ⟨cap, -, ds, hd, -⟩ := h.byt
  have hm : ∀ B, Mp n w B → Mp n (w.setCell ⟨d, i, none⟩ (.int .u8 c)) B := fun B hB => hB.of (Below.heap_setCell w _ _ B (fun e => hB.ne hd e.symm))
  exact ⟨h.inG, h.inD, h.inW, h.byt.set i c hc, ⟨y, upd_blk _ hy (ne_type hy hd (by decide))⟩, fun B e => ⟨(h.mco B e).1, hm B (h.mco B e).2⟩, fun B e => ⟨(h.mwa B e).1, hm B (h.mwa B e).2⟩⟩
theorem Ev.data {i : Nat} {u : Value} (h : EeR S n d wi co wa w g) (he : Ev S w g co x) : Ev S (w.setCell ⟨d, i, none⟩ u) g co x := by
  obtain ⟨cap, -, ds, hd, -⟩ := h.byt
  exact he.map fun p hp => ⟨hp.1, upd_blk _ hp.2 (ne_type hp.2 hd (by decide))⟩
theorem EeR.ended (h : EeR S n d wi co wa w g) : EeR S n d wi co none w g := ⟨h.inG, h.inD, h.inW, h.byt, h.wr, h.mco, fun _ e => by simp at e⟩
end
section
variable (S : Nat → Prop) (k : Int) (n g d cap wi : Nat) (co wa : Option Nat) (x : EeS) (w : World)
/-- At the end nothing waits. -/
theorem ee_ended {wr : World} (ok : x.Ok n) (hb : Blk wr g 125 (EeS.cells { x with left := 0 } k d n cap wi co wa)) (hr : EeR S n d wi co wa wr g) (hev : Ev S wr g co { x with left := 0 }) (q : Kept S w wr) :
    Ee S k n (wr.setCell ⟨g, 13, none⟩ (.map none)) g ∧ Kept S w (wr.setCell ⟨g, 13, none⟩ (.map none)) := by
  have qs : Kept (· = g) wr (wr.setCell ⟨g, 13, none⟩ (.map none)) := Kept.set (S := (· = g)) g 13 _ rfl
  exact ⟨⟨{ x with left := 0 }, d, cap, wi, co, none, ⟨ok.val, ok.hi0, ok.hi1, ok.pt0, ok.pt1, Nat.zero_le _⟩, hb.set_ 13 _, (hr.kept hb qs).ended, hev.kept hb qs⟩, q.trans ((kin qs hr.inG).mono fun _ _ => Or.inl)⟩
set_option maxHeartbeats 3200000 in
set_option maxRecDepth 100000 in
theorem ee_tick (_hn : n < 65536) (hlt : ∀ j, S j → j < w.heap.size) (h : Ee S k n w g) :
    Calls Tryz.prog 90 #[.pointer (some ⟨g, 0, none⟩)] w fun e w' => e = .returned (.tuple #[]) ∧ Ee S k n w' g ∧ Kept S w w' := by
  have HZ := Lib.hid h
  obtain ⟨x, d, cap, wi, co, wa, ok, hb, hr, hev⟩ := h
  have f14 := hb.frozen 14
  rcases hl : x.left with _ | l
  · have c14 : w.cell? ⟨g, 14, none⟩ = some (.int .i64 0) := by
      have q := hb.cell 14
      simp only [EeS.cells, hl] at q
      exact q.trans rfl
    clear hb hr hev ok hl
    go_enter Tryz.func90, Tryz.ntmps90
    go_wp2
    refine bodyPost_ret (results_none rfl _ _ _) rfl ?_
    exact ⟨rfl, HZ.out, Kept.refl _ _⟩
  have c14 : w.cell? ⟨g, 14, none⟩ = some (.int .i64 ((l : Int) + 1)) := by
    have q := hb.cell 14
    simp only [EeS.cells, hl] at q
    exact q.trans rfl
  have hl50 := ok.left
  rcases Nat.eq_zero_or_pos l with rfl | hpos
  · have c14' : w.cell? ⟨g, 14, none⟩ = some (.int .i64 1) := c14
    have hb1 : Blk (w.setCell ⟨g, 14, none⟩ (.int .i64 0)) g 125 (EeS.cells { x with left := 0 } k d n cap wi co wa) := hb.set_ 14 _
    have q1 : Kept (· = g) w (w.setCell ⟨g, 14, none⟩ (.int .i64 0)) := Kept.set (S := (· = g)) g 14 _ rfl
    have hr1 := hr.kept hb q1
    have he1 : Ev S (w.setCell ⟨g, 14, none⟩ (.int .i64 0)) g co { x with left := 0 } := hev.kept hb q1
    have hgl := hlt g hr.inG
    have c13 : w.cell? ⟨g, 13, none⟩ = some (.map wa) := (hb.cell 13).trans rfl
    have hk1 := kin q1 hr.inG
    have HB1 := Lib.hid hb1
    have HR1 := Lib.hid hr1
    have HE1 := Lib.hid he1
    have HK1 := Lib.hid hk1
    have OK := Lib.hid ok
    have hgS := Lib.hid hr.inG
    have hdS := Lib.hid hr.inD
    have HL := Lib.hid hlt
    cases wa with
    | none =>
      have hrn := run_range_nilMap (P := Tryz.prog) (w.setCell ⟨g, 14, none⟩ (.int .i64 0)) 123 3 5 Tryz.underlying123
      have hnx : ∀ ty, (Instr.next (.pointer (some ⟨w.heap.size, 0, none⟩)) false ty).run Tryz.prog ((w.setCell ⟨g, 14, none⟩ (.int .i64 0)).alloc (.mapIter none 0 #[] 0)) = .ok (.tuple #[.bool false]) ((w.setCell ⟨g, 14, none⟩ (.int .i64 0)).alloc (.mapIter none 0 #[] 0)) := fun ty => by
        have q := run_next_nilMap (P := Tryz.prog) (w.setCell ⟨g, 14, none⟩ (.int .i64 0)) ty 0 0 #[]
        rw [show (w.setCell ⟨g, 14, none⟩ (.int .i64 0)).heap.size = w.heap.size by simp [World.setCell]] at q
        exact q
      have f13 := hb.frozen 13
      clear hb hr hev ok hl hb1 hr1 he1 hk1 hlt c14 q1
      go_enter Tryz.func90, Tryz.ntmps90
      go_wp2
      refine wp_loop_rounds 1 ?_
      rw [rounds_succ]
      go_wp2
      go_end0
      have z := ee_ended S k n g d cap wi co none x w OK.out HB1.out HR1.out HE1.out HK1.out
      exact ⟨rfl, z.1.kept (T := fun _ => False) (Kept.alloc _) (fun _ _ h => h), kalloc z.2 _⟩
    | some B =>
      obtain ⟨hSB, L, hown, hsm⟩ := hr1.mwa B rfl
      have HS := Lib.hid hsm
      have hap := Lib.hid (hown.entries law3)
      have HO := Lib.hid hown
      clear hb hr hev ok hl hb1 hr1 he1 hk1 hlt c14 q1 hsm
      go_enter Tryz.func90, Tryz.ntmps90
      go_wp2_with (first
        | (at_range; refine wpList_range_own _ rfl _ 123 rfl 3 5 law3 Tryz.underlying123 _ B n _ rfl HO.out ?_; intro w0 hrg0 hg0 hs0)
        | go_in)
      go_frame
      have hrs : (w.setCell ⟨g, 14, none⟩ (.int .i64 0)).heap.size = w.heap.size := by simp [World.setCell]
      rw [hrs] at hrg0 hs0 ⊢
      have hn0 : Kept S w w0 := HK1.out.trans ⟨hg0.os, hg0.tape, hg0.output, hg0.size, fun j hj _ => hg0.block j hj (by simp)⟩
      have qf : Kept (fun _ => False) (w.setCell ⟨g, 14, none⟩ (.int .i64 0)) w0 := ⟨hg0.os, hg0.tape, hg0.output, hg0.size, fun j hj _ => hg0.block j hj (by simp)⟩
      have HB2 := Lib.hid (qf.blk HB1.out (fun h => h))
      have HR2 := Lib.hid (HR1.out.out qf (fun _ _ h => h))
      have HE2 := Lib.hid (HE1.out.out qf (fun _ _ h => h))
      have HN0 := Lib.hid hn0
      have hin : ∀ kl, Maps.has (DataW.map L) kl = true → Small n kl := by
        intro kl hkl
        obtain ⟨p, hp, hpk⟩ := List.any_eq_true.1 hkl
        have := HS.out p hp
        rwa [WideAt.sameKey_eq hpk] at this
      clear hn0 qf hg0 hown HO hap
      go_loopw [2, 3] (fun _ _ wr => ∃ (left : Lit → Bool) (cnt : Nat), wr.ranges Tryz.prog 3 (plainElem Tryz.prog 5) B w.heap.size n (DataW.map L) left cnt ∧ (∀ kl, left kl = true → Small n kl) ∧ Hid (Blk wr g 125 (EeS.cells { x with left := 0 } k d n cap wi co (some B))) ∧ Hid (EeR S n d wi co (some B) wr g) ∧ Hid (Ev S wr g co { x with left := 0 }) ∧ Hid (Kept S w wr))
        (fun _ _ wr => wr.rangeLeft B w.heap.size)
      case atStart => exact ⟨_, _, hrg0, hin, HB2, HR2, HE2, HN0⟩
      case round =>
        obtain ⟨left, cnt, hrg, hsmall, HB3, HR3, HE3, HN3⟩ := hrel
        have hb3 := HB3.out
        have e13 : wr.cell? ⟨g, 13, none⟩ = some (.map (some B)) := (hb3.cell 13).trans rfl
        have k13 := hb3.frozen 13
        clear hb3
        go_wp2_with (first
          | (at_next; refine wpList_next_ranges_ii _ rfl _ rfl 3 5 .i64 .u8 law3 Tryz.underlying3 Tryz.underlying5 B w.heap.size n _ _ _ rfl hrg ?_ ?_)
          | go_in)
        · intro _ hl0
          go_wp2
          go_end0
          exact ⟨rfl, ee_ended S k n g d cap wi co (some B) x w OK.out HB3.out HR3.out HE3.out HN3.out⟩
        · intro i c w1 cnt1 hwi hwc hli hat hrg1 hlt1 hg1 hs1 hen
          obtain ⟨i', hi, i0, i1⟩ := hsmall _ hli
          cases hi
          have hc := by_wf hwc
          have q1 : Kept (· = w.heap.size) wr w1 := Kept.grown hg1 rfl
          have hd1 : ∀ j, S j → ¬ j = w.heap.size := fun j hj e => Nat.lt_irrefl _ (e ▸ HL.out j hj)
          have hb4 := q1.blk HB3.out (hd1 g hgS.out)
          have hr4 := HR3.out.out q1 hd1
          have he4 := HE3.out.out q1 hd1
          have hn4 := HN3.out.trans (q1.mono (T := fun j => S j ∨ w.heap.size ≤ j) (by rintro j - rfl; exact Or.inr (Nat.le_refl _)))
          obtain ⟨y, hy, cy⟩ := hr4.byt.cell i.toNat (by omega)
          have ky := hr4.byt.frozen i.toNat
          have e1 : w1.cell? ⟨g, 1, none⟩ = some (.slice (some ⟨d, 0, none⟩) n cap) := (hb4.cell 1).trans rfl
          have HR4 := Lib.hid hr4
          have HB4 := Lib.hid hb4
          have HE4 := Lib.hid he4
          have HN4 := Lib.hid hn4
          have hmB := (hr4.mwa B rfl).2
          have hdB : d ≠ B := by
            obtain ⟨cap, -, ds, hdd, -⟩ := hr4.byt
            exact hmB.ne hdd
          have hdr : d ≠ w.heap.size := hd1 d hdS.out
          have hgd : g ≠ d := hr4.byt.ne hb4 (by decide)
          clear hr4 hb4 he4 hn4 q1 hat hmB
          go_wp2_with fail
          have hgr : w1.grownBy (w1.setCell ⟨d, i.toNat, none⟩ (.int .u8 c)) (some d) := OwnWire.only_set (OwnWire.only_refl w1 (some d)) _
          have hrg2 := hrg1.kept hgr (by simpa using fun e : B = d => hdB e.symm) (by simpa using fun e : w.heap.size = d => hdr e.symm)
          refine ⟨⟨_, cnt1, hrg2, fun kl h => hsmall kl (by simp at h; exact h.1), Lib.hid (upd_blk _ HB4.out hgd), Lib.hid (HR4.out.data hc), Lib.hid (Ev.data HR4.out HE4.out), Lib.hid (kset HN4.out hdS.out _ _)⟩, ?_⟩
          rw [hrg2.left_eq, hrg.left_eq]
          exact hlt1
  · have hw := Lib.hid (IntWalk.wrap64_in (l : Int) (by omega))
    have hne : (wrap64 (l : Int) == 0) = false := by rw [hw.out]; simp; omega
    have H1 : Hid (Ee S k n (w.setCell ⟨g, 14, none⟩ (.int .i64 l)) g ∧ Kept S w (w.setCell ⟨g, 14, none⟩ (.int .i64 l))) := Lib.hid (Ee.upd (y := { x with left := l }) hb hr (hb.set_ 14 _) (Kept.set (S := (· = g)) g 14 _ rfl) ⟨ok.val, ok.hi0, ok.hi1, ok.pt0, ok.pt1, by show l ≤ 50; omega⟩ hev)
    clear hb hr hev ok hl
    go_enter Tryz.func90, Tryz.ntmps90
    go_wp2
    all_goals first | go_end0 | (refine bodyPost_ret (results_none rfl _ _ _) rfl ?_)
    all_goals
      rw [hw.out]
      exact ⟨rfl, H1.out⟩
end
end Go.Proofs.YtifajfjiloajfaaGreatDoor.OwnChip
namespace Go.Proofs.YtifajfjiloajfaaGreatDoor.OwnChip
open Go.RowKit Go.Proofs.YtifajfjiloajfaaGreatDoor.Own
theorem tell_in (x y : Bool × Bool) : 0 ≤ OwnWire.tell x y ∧ OwnWire.tell x y ≤ 4 := by
  obtain ⟨a, b⟩ := x
  obtain ⟨c, d⟩ := y
  cases a <;> cases b <;> cases c <;> cases d <;> decide
theorem EeQ.behind {S : Nat → Prop} {k : Int} {n g : Nat} {w w2 w3 : World} (h1 : Kept S w w2) (h2 : EeQ S k n w2 w3 g) : EeQ S k n w w3 g :=
  ⟨h2.1.mono (fun _ hj => hj.imp id fun h => ⟨Nat.le_trans h1.size h.1, h.2⟩), h1.trans (h2.2.mono fun _ _ => Or.inl)⟩
section
variable (S : Nat → Prop) (k : Int) (n g d cap wi : Nat) (co wa : Option Nat) (x : EeS) (w : World)
theorem ee_wire (a b : Bool) (hb : Blk w g 125 (x.cells k d n cap wi co wa)) (hr : EeR S n d wi co wa w g) (hev : Ev S w g co x) :
    Calls Tryz.prog 91 #[.pointer (some ⟨wi, 0, none⟩), .agg #[.bool a, .bool b]] w fun e w' => ∃ v : Int, e = .returned (.int .i64 v) ∧ (0 ≤ v ∧ v ≤ 4) ∧ Blk w' g 125 (x.cells k d n cap wi co wa) ∧ EeR S n d wi co wa w' g ∧ Ev S w' g co x ∧ Kept S w w' := by
  obtain ⟨y, hy⟩ := hr.wr
  refine (OwnWire.step_any wi y (a, b) w hy).mono ?_
  rintro e w' ⟨rfl, h2, hg⟩
  have q : Kept (· = wi) w w' := Kept.grown hg rfl
  have hby : d ≠ wi := fun e => hr.byt.ne hy (by decide) e.symm
  have hm : ∀ B, Mp n w B → Mp n w' B := fun B hB => hB.kept q (fun e => hB.ne hy e.symm)
  refine ⟨_, rfl, tell_in _ _, q.blk hb (ne_type hb hy (by decide)), ⟨hr.inG, hr.inD, hr.inW, hr.byt.kept q hby, ⟨_, h2⟩, fun B e => ⟨(hr.mco B e).1, hm B (hr.mco B e).2⟩, fun B e => ⟨(hr.mwa B e).1, hm B (hr.mwa B e).2⟩⟩, hev.map fun p hp => ⟨hp.1, q.blk hp.2 (ne_type hp.2 hy (by decide))⟩, q.mono (by rintro j - rfl; exact hr.inW)⟩
theorem ee_any (kd : Kd k n) (ok : x.Ok n) (hb : Blk w g 125 (x.cells k d n cap wi co wa)) (hr : EeR S n d wi co wa w g) (hev : Ev S w g co x) (hgeo : OwnGeo.GeoAt w) (h0 : g ≠ 0) :
    ∃ j, x.ev = bm j g ∧ (∀ args w, (callFunc j args).run Tryz.prog w = .ok (.enter j args) w) ∧ ∀ (e : Int) (l : Bool), (e = 3 ∨ e = 4 ∨ ((e == 3) = false ∧ (e == 4) = false)) → Calls Tryz.prog j #[ptr g, .int .i64 e, .bool l] w fun e w' => e = .returned (.tuple #[]) ∧ EeQ S k n w w' g := by
  obtain ⟨j, hj, hc, -⟩ := ee_event S k n g d cap wi co wa x w 3 true kd ok hb hr hev (Or.inl rfl) hgeo h0
  refine ⟨j, hj, hc, fun e l he => ?_⟩
  obtain ⟨j2, hj2, -, H⟩ := ee_event S k n g d cap wi co wa x w e l kd ok hb hr hev he hgeo h0
  have : j = j2 := by
    have e := hj.symm.trans hj2
    simpa [bm] using e
  rw [this]
  exact H
theorem EeQ.pulls {w' : World} (h : EeQ S k n w w' g) : ∃ b, w'.cell? ⟨g, 3, none⟩ = some (.bool b) := by
  obtain ⟨⟨x, d, cap, wi, co, wa, ok, hb, hr, he⟩, -⟩ := h
  exact ⟨x.pu, (hb.cell 3).trans rfl⟩
set_option maxHeartbeats 3200000 in
set_option maxRecDepth 100000 in
theorem ee_step (scl sda wp : Bool) (kd : Kd k n) (h : Ee S k n w g) (hlt : ∀ j, S j → j < w.heap.size) (h0 : ¬ S 0) (hgeo : OwnGeo.GeoAt w) :
    Calls Tryz.prog 68 #[.pointer (some ⟨g, 0, none⟩), .bool scl, .bool sda, .bool wp] w fun e w' => (∃ b, e = .returned (.bool b)) ∧ EeQ S k n w w' g := by
  have HT := Lib.hid (ee_tick S k n g w kd.lt hlt h)
  have HG := Lib.hid hgeo
  clear h hgeo hlt
  go_enter Tryz.func68, Tryz.ntmps68
  go_wp2_with (first
    | (go_at_call 90
       refine HT.out.mono ?_
       rintro e w1 ⟨rfl, ⟨x, d, cap, wi, co, wa, ok, hb, hr, hev⟩, kp1⟩
       have OK := Lib.hid ok
       have KP1 := Lib.hid kp1
       have HW := Lib.hid (fun a b => ee_wire S k n g d cap wi co wa x w1 a b hb hr hev)
       have c2 : w1.cell? ⟨g, 2, none⟩ = some (ptr wi) := (hb.cell 2).trans rfl
       have c3 : w1.cell? ⟨g, 3, none⟩ = some (.bool x.pu) := (hb.cell 3).trans rfl
       clear ok kp1 hb hr hev)
    | (go_at_call 91
       refine (HW.out _ _).mono ?_
       rintro e w2 ⟨v, rfl, hv, hb2, hr2, he2, kp2⟩
       have KP2 := Lib.hid (KP1.out.trans (kp2.mono fun _ _ => Or.inl))
       have HS := Lib.hid (ee_start S k n g d cap wi co wa x w2 OK.out hb2 hr2)
       have HP := Lib.hid (ee_stop S k n g d cap wi co wa x w2 wp OK.out hb2 hr2)
       obtain ⟨j, hj, hcall, HJ⟩ := ee_any S k n g d cap wi co wa x w2 kd OK.out hb2 hr2 he2 (HG.out.kept KP2.out h0) (fun e => h0 (e ▸ hr2.inG))
       have c4 : w2.cell? ⟨g, 4, none⟩ = some (.func (.func j) #[ptr g] #[]) := by
         have q := hb2.cell 4
         simp only [EeS.cells, hj] at q
         exact q.trans rfl
       have HJ2 := Lib.hid HJ
       have hv5 : v = 0 ∨ v = 1 ∨ v = 2 ∨ v = 3 ∨ v = 4 := by omega
       clear hb2 hr2 he2 kp2 HJ hj hv
       rcases hv5 with rfl | rfl | rfl | rfl | rfl)
    | (go_at_call 92
       refine HS.out.mono ?_
       rintro e w3 ⟨rfl, q1, q2⟩
       have Q := Lib.hid (EeQ.behind KP2.out (EeQ.of q1 q2))
       obtain ⟨pb, c33⟩ := EeQ.pulls S k n g w Q.out
       clear q1 q2)
    | (go_at_call 93
       refine HP.out.mono ?_
       rintro e w3 ⟨rfl, q1⟩
       have Q := Lib.hid (EeQ.behind KP2.out q1)
       obtain ⟨pb, c33⟩ := EeQ.pulls S k n g w Q.out
       clear q1))
  all_goals first
    | (go_ret
       exact ⟨⟨_, rfl⟩, Q.out⟩)
    | (refine (HJ2.out _ _ (by simp)).mono ?_
       rintro e w3 ⟨rfl, q1⟩
       have Q := Lib.hid (EeQ.behind KP2.out q1)
       obtain ⟨pb, c33⟩ := EeQ.pulls S k n g w Q.out
       clear q1
       go_wp2
       all_goals
         go_ret
         exact ⟨⟨_, rfl⟩, Q.out⟩)
    | trace_state
end
end Go.Proofs.YtifajfjiloajfaaGreatDoor.OwnChip
namespace Go.Proofs.YtifajfjiloajfaaGreatDoor.OwnChip
open Go.RowKit Go.Proofs.YtifajfjiloajfaaGreatDoor.Own
theorem Src.below {n d off : Nat} {w w' : World} (hb : Below w.heap.size w w') (h : Src n w d off) : Src n w' d off := by
  obtain ⟨zs, h1, h2, h3⟩ := h
  refine ⟨zs, h1, h2, fun j hj => ?_⟩
  have := h3 j hj
  exact (cell_of (hb.block d (cell_lt this))).trans this
set_option maxHeartbeats 1600000 in
theorem ee_none (A : Option Addr) (n c : Nat) (w : World) (hg : OwnGeo.GeoAt w) :
    Calls Tryz.prog 29 #[.int .i64 0, .slice A n c] w fun e w' => e = .returned (.tuple #[.pointer none, .int .i64 1]) ∧ Below w.heap.size w w' := by
  have HB := Lib.hid (OwnGeo.eeprom_0 w hg)
  clear hg
  go_enter Tryz.func29, Tryz.ntmps29
  go_wp2_with (go_at_call 33; with_reducible refine HB.out.mono ?_; rintro e w1 ⟨rfl, hb⟩; have HK := Lib.hid hb; clear hb)
  go_ret2
  exact ⟨rfl, HK.out⟩
def eeZero (g : Nat) : EeS := { pu := false, ev := bm 49 g, ju := .nilFunc, ne := .nilFunc, bits := 0, val := 0, blk := 0, hi := 0, pt := 0, left := 0 }
theorem ee_made (k : Int) (n g cap : Nat) (w w3 : World) (hz : ¬ (n : Int) = 0) (hk : Kept (fun _ => False) w w3) (hg : w.heap.size ≤ g) (hy : Byt n w3 g) :
    Ee (fun j => w.heap.size ≤ j ∧ j < ((w3.alloc (.cells #[.bool true, .bool true] 147)).alloc (.cells (EeS.cells (eeZero (w3.heap.size + 1)) k g n cap w3.heap.size none none) 125)).heap.size) k n ((w3.alloc (.cells #[.bool true, .bool true] 147)).alloc (.cells (EeS.cells (eeZero (w3.heap.size + 1)) k g n cap w3.heap.size none none) 125)) (w3.heap.size + 1) := by
  have q1 := hk.size
  have q2 := hy.lt
  have hb := new_1 w3 (.cells #[.bool true, .bool true] 147) 125 (EeS.cells (eeZero (w3.heap.size + 1)) k g n cap w3.heap.size none none)
  have hw : OwnWire.Wr ((w3.alloc (.cells #[.bool true, .bool true] 147)).alloc (.cells (EeS.cells (eeZero (w3.heap.size + 1)) k g n cap w3.heap.size none none) 125)) w3.heap.size (true, true) := (Blk.new w3 147 #[.bool true, .bool true]).alloc _
  have hy2 : Byt n ((w3.alloc (.cells #[.bool true, .bool true] 147)).alloc (.cells (EeS.cells (eeZero (w3.heap.size + 1)) k g n cap w3.heap.size none none) 125)) g := hy.kept (S := fun _ => False) (kalloc (Kept.alloc _) _) (fun h => h)
  refine ⟨eeZero (w3.heap.size + 1), g, cap, w3.heap.size, none, none, ⟨by_0, Int.le_refl 0, (show (0 : Int) ≤ 7 by decide), Int.le_refl 0, ?_, Nat.zero_le _⟩, hb, ⟨?_, ?_, ?_, hy2, ⟨_, hw⟩, fun B e => by simp at e, fun B e => by simp at e⟩, Or.inl rfl⟩
  · show (0 : Int) < n
    omega
  · simp
    omega
  · simp
    omega
  · simp
    omega
set_option maxHeartbeats 1600000 in
theorem ee_new (k : Int) (n d off c : Nat) (w : World) (kd : Kd k n) (h : Src n w d off) (hg : OwnGeo.GeoAt w) :
    Calls Tryz.prog 29 #[.int .i64 k, .slice (some ⟨d, off, none⟩) n c] w fun e w' => (∃ g, e = .returned (.tuple #[.pointer (some ⟨g, 0, none⟩), .int .i64 0]) ∧ Ee (fun j => w.heap.size ≤ j ∧ j < w'.heap.size) k n w' g) ∧ Below w.heap.size w w' := by
  have HB : Hid (∀ W, OwnGeo.GeoAt W → Calls Tryz.prog 33 #[.int .i64 k] W fun e w' => e = .returned (.int .i64 n) ∧ Below W.heap.size W w') := by
    refine Lib.hid fun W hW => ?_
    rcases kd with ⟨rfl, rfl⟩ | ⟨rfl, rfl⟩ | ⟨rfl, rfl⟩
    · exact OwnGeo.eeprom_1 W hW
    · exact OwnGeo.eeprom_2 W hW
    · exact OwnGeo.eeprom_3 W hW
  have hz : ¬ (n : Int) = 0 := by rcases kd with ⟨-, rfl⟩ | ⟨-, rfl⟩ | ⟨-, rfl⟩ <;> decide
  have HG := Lib.hid hg
  have HC := Lib.hid (fun w' (hb : Below w.heap.size w w') => clone_any n d off c w' (h.below hb) kd.lt)
  have HWn := Lib.hid OwnWire.new_any
  clear hg h kd
  go_enter Tryz.func29, Tryz.ntmps29
  go_wp2_with (first
    | (go_at_call 33; with_reducible refine (HB.out w HG.out).mono ?_; rintro e w1 ⟨rfl, hb⟩; have K1 := Lib.hid hb; have G1 := Lib.hid (HG.out.below hb); clear hb)
    | (go_at_call 33; with_reducible refine (HB.out w1 G1.out).mono ?_; rintro e w2 ⟨rfl, hb⟩; have K2 := Lib.hid (bel_trans K1.out hb); clear hb)
    | (go_at_call 26; refine (HC.out _ K2.out).mono ?_; rintro e w3 ⟨⟨g, cap, rfl, hg3, hB⟩, hb⟩; have B3 := Lib.hid hB; have K3 := Lib.hid (bel_trans K2.out hb); have hg4 := Nat.le_trans K2.out.size hg3; clear hB hb hg3)
    | (go_at_call 48; refine (HWn.out _).mono ?_; rintro e w4 ⟨rfl, rfl⟩))
  go_ret2
  exact ⟨⟨_, rfl, ee_made k n g cap w w3 hz (Kept.below K3.out) hg4 B3.out⟩, Kept.none_below (kalloc (kalloc (Kept.below K3.out) _) _)⟩
end Go.Proofs.YtifajfjiloajfaaGreatDoor.OwnChip

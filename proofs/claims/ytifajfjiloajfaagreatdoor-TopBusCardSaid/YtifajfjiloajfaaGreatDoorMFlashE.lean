/- The flash chip takes a write, whichever step stands; it is written. Conditions: as before. · The flash chip is written, read, ticks; it is made. Conditions: as before. · The flash chip ticks. Conditions: as before. · The flash chip is made. Conditions: one or two sectors of 256 bytes, as the slice that comes in has them; or none. -/
import Derived.Test.YtifajfjiloajfaaGreatDoorMFlash
import Derived.Deep.LoopGhost
namespace Go.Proofs.YtifajfjiloajfaaGreatDoor.OwnChip
open Go.RowKit Go.Proofs.YtifajfjiloajfaaGreatDoor.Own

set_option maxHeartbeats 1600000 in
set_option maxRecDepth 100000 in
theorem fl_taken_caught (S : Nat → Prop) (n g a : Nat) (v : Int) (w : World) (k p q : Nat) (x : FlS) (d cap : Nat) (hb : Blk w g 130 (FlS.cells x d n cap (.func (.func k) #[] #[ptr p, ptr q]))) (ok : x.Ok n) (hg : S g) (hd : S d) (hy : Byt n w d)
    (hcall : ∀ args w, (callFunc k args).run Tryz.prog w = .ok (.enter k args) w)
    (hstep : ∀ w', Kept (· = g) w w' → Fl (fun j => S j ∨ (w.heap.size ≤ j ∧ j < w'.heap.size)) n w' g → Calls Tryz.prog k #[.int .i64 a, .int .u8 v, ptr p, ptr q] w' fun e w2 => e = .returned (.tuple #[]) ∧ FlR (fun j => S j ∨ (w.heap.size ≤ j ∧ j < w'.heap.size)) n w' w2 g) :
    Calls Tryz.prog 85 #[.pointer (some ⟨g, 0, none⟩), .int .i64 a, .int .u8 v] w fun e w' => e = .returned (.tuple #[]) ∧ FlR S n w w' g := by
  have HB := Lib.hid hb
  have HS := Lib.hid hstep
  have c2 : w.cell? ⟨g, 2, none⟩ = some (.func (.func k) #[] #[ptr p, ptr q]) := (hb.cell 2).trans rfl
  have c10 : w.cell? ⟨g, 10, none⟩ = some (.bool x.raw) := (hb.cell 10).trans rfl
  have f10 := hb.frozen 10
  have HR := Lib.hid (fun (w1 : World) (h1 : Blk w1 g 130 (FlS.cells { x with raw := false } d n cap (.func (.func k) #[] #[ptr p, ptr q]))) => fl_rest n g d cap { x with raw := false } _ w1 h1)
  have HY := Lib.hid hy
  have OK := Lib.hid ok
  clear hb ok hy hstep
  go_enter Tryz.func85, Tryz.ntmps85
  go_wp2_with fail
  go_quiet (fail)
  go_wp2_with (go_at_call 50; refine (HR.out _ ?_).mono ?_; (focus exact (HB.out.drewN _).set_ 10 _); rintro e w3 ⟨rfl, ⟨sv2, hb3, hk3⟩, kp3⟩; have H3 := Lib.hid (fl_after hg hd HB.out HY.out OK.out hb3 hk3 kp3); have HB3 := Lib.hid hb3; have c3 : w3.cell? ⟨g, 3, none⟩ = some (.bool x.nm) := (hb3.cell 3).trans rfl; have f3 := hb3.frozen 3; clear hb3 hk3 kp3)
  all_goals (try subst_vars)
  all_goals first
    | (refine bodyPost_ret (results_none rfl _ _ _) rfl ?_
       exact ⟨rfl, (fl_named false H3.out.2).mono (fun j hj => by simpa using hj), kset (H3.out.1.mono (by rintro j - rfl; exact hg)) hg 3 _⟩)
    | (refine Calls.mono (HS.out w3 ?_ ?_) ?_
       · exact H3.out.1
       · exact H3.out.2
       · rintro e w4 ⟨rfl, q4⟩
         have Q4 := Lib.hid q4
         clear q4
         go_wp2
         go_end0
         exact ⟨rfl, FlR.trans (H3.out.1.mono (by rintro j - rfl; exact hg)) Q4.out⟩)
theorem Thn.not_new {n g d cap : Nat} {x : FlS} {sv : Value} {w w' : World} {t p : Nat} {cs : Array Value} (hb : Blk w g 130 (FlS.cells x d n cap sv)) (k : Kept (· = g) w w') (h : Blk w p t cs) (ht : t ≠ 130) : Blk w' p t cs :=
  k.blk h (fun e => ne_type h hb ht e)
theorem fl_taken (S : Nat → Prop) (f g a : Nat) (v : Int) (w : World) (h : Fl S (f * 256) w g) (ha : a < f * 256) (hf : f ≤ 2) (hv : By v) :
    Calls Tryz.prog 85 #[.pointer (some ⟨g, 0, none⟩), .int .i64 a, .int .u8 v] w fun e w' => e = .returned (.tuple #[]) ∧ FlR S (f * 256) w w' g := by
  obtain ⟨hg, x, d, cap, sv, hd, ok, hb, hy, hs⟩ := h
  have hbound : ∀ k, k = 76 ∨ k = 102 ∨ k = 101 → (∀ args w, (callFunc k args).run Tryz.prog w = .ok (.enter k args) w) → sv = .func (.func k) #[ptr g] #[] →
      Calls Tryz.prog 85 #[.pointer (some ⟨g, 0, none⟩), .int .i64 a, .int .u8 v] w fun e w' => e = .returned (.tuple #[]) ∧ FlR S (f * 256) w w' g := by
    intro k hk hcall e
    subst e
    exact fl_taken_bound S (f * 256) g a v w k x d cap hb ok hg hd hy hcall fun w' _ h' => fl_then _ f g a v w' k h' hk ha hf hv
  rcases hs with ⟨p, q, s2, rfl, hp, hq, k1, k2, k3⟩ | ⟨p, q, th, rfl, hp, hq, k1, k2, k3⟩ | (rfl | rfl) | rfl
  · refine fl_taken_caught S (f * 256) g a v w 100 p q x d cap hb ok hg hd hy call_100 fun w' k h' => ?_
    have hk : Sec (fun j => S j ∨ (w.heap.size ≤ j ∧ j < w'.heap.size)) w' g s2 := (k3.same (S := S) fun j t cs _ ht _ h => Thn.not_new hb k h ht).mono fun _ => Or.inl
    exact (fl_first _ (f * 256) g q p a v s2 w' h' (Thn.not_new hb k k1 (by decide)) (Thn.not_new hb k k2 (by decide)) hk).mono fun _ _ z => ⟨z.1, FlR.of z.2.1 z.2.2⟩
  · refine fl_taken_caught S (f * 256) g a v w 99 p q x d cap hb ok hg hd hy call_99 fun w' k h' => ?_
    exact (fl_second _ (f * 256) g q p a v th w' h' (Thn.not_new hb k k1 (by decide)) (Thn.not_new hb k k2 (by decide)) k3).mono fun _ _ z => ⟨z.1, FlR.of z.2.1 z.2.2⟩
  · exact hbound 76 (Or.inl rfl) call_76 rfl
  · exact hbound 102 (Or.inr (Or.inl rfl)) call_102 rfl
  · exact hbound 101 (Or.inr (Or.inr rfl)) call_101 rfl
end Go.Proofs.YtifajfjiloajfaaGreatDoor.OwnChip
namespace Go.Proofs.YtifajfjiloajfaaGreatDoor.OwnChip
open Go.RowKit Go.Proofs.YtifajfjiloajfaaGreatDoor.Own

set_option maxHeartbeats 1600000 in
theorem fl_write (S : Nat → Prop) (f g a : Nat) (v : Int) (w : World) (h : Fl S (f * 256) w g) (ha : a < f * 256) (hf : f ≤ 2) (hv : By v) :
    Calls Tryz.prog 64 #[.pointer (some ⟨g, 0, none⟩), .int .i64 a, .int .u8 v] w fun e w' => e = .returned (.tuple #[]) ∧ FlR S (f * 256) w w' g := by
  have HT := Lib.hid (fl_taken S f g a v w h ha hf hv)
  have HS := Lib.hid h
  obtain ⟨hg, x, d, cap, sv, hd, ok, hb, hy, hs⟩ := h
  have HA := Lib.hid (fl_at (f * 256) g d cap a x sv w hb ha (by omega))
  have c9 : w.cell? ⟨g, 9, none⟩ = some (.int .i64 x.left) := (hb.cell 9).trans rfl
  clear hb hy hs ok
  go_enter Tryz.func64, Tryz.ntmps64
  go_wp2_with (first
    | (go_at_call 86; refine HA.out.mono ?_; rintro e w' ⟨rfl, rfl⟩)
    | (go_at_call 85; refine HT.out.mono ?_; rintro e w1 ⟨rfl, q⟩; have Q := Lib.hid q; clear q))
  all_goals first
    | (refine bodyPost_ret (results_none rfl _ _ _) rfl ?_
       exact ⟨rfl, FlR.of HS.out (Kept.refl _ _)⟩)
    | (go_end0
       exact ⟨rfl, Q.out⟩)
theorem u8_wrap (n : Int) : By (IntKind.u8.wrap n) := by
  constructor <;> simp [IntKind.wrap, IntKind.bits, IntKind.signed] <;> omega
theorem fl_turn {T : Nat → Prop} {n g : Nat} {w : World} (t : Int) (ht : By t) (h : Fl T n w g) : Fl T n (w.setCell ⟨g, 4, none⟩ (.int .u8 t)) g := by
  obtain ⟨hg, x, d, cap, sv, hd, ok, hb, hy, hs⟩ := h
  have hdg : d ≠ g := fun e => (hy.ne hb (by decide)) e.symm
  exact ⟨hg, { x with tu := t }, d, cap, sv, hd, ⟨ok.k0, ok.k1, ht, ok.val, ok.fits, ok.left⟩, hb.set_ 4 _, hy.of (Below.heap_setCell w _ _ d hdg), hs.same (Same.set hb (Or.inl rfl) 4 _)⟩
set_option maxHeartbeats 1600000 in
theorem fl_read (S : Nat → Prop) (f g a : Nat) (w : World) (h : Fl S (f * 256) w g) (ha : a < f * 256) (hf : f ≤ 2) :
    Calls Tryz.prog 67 #[.pointer (some ⟨g, 0, none⟩), .int .i64 a] w fun e w' => (∃ x, By x ∧ e = .returned (.int .u8 x)) ∧ Fl S (f * 256) w' g ∧ Kept S w w' := by
  have HS := Lib.hid h
  obtain ⟨hg, x, d, cap, sv, hd, ok, hb, hy, hs⟩ := h
  have HA := Lib.hid (fl_at (f * 256) g d cap a x sv w hb ha (by omega))
  have c0 : w.cell? ⟨g, 0, none⟩ = some (.int .i64 x.k) := (hb.cell 0).trans rfl
  have c1 : w.cell? ⟨g, 1, none⟩ = some (.slice (some ⟨d, 0, none⟩) (f * 256) cap) := (hb.cell 1).trans rfl
  have c3 : w.cell? ⟨g, 3, none⟩ = some (.bool x.nm) := (hb.cell 3).trans rfl
  have c4 : w.cell? ⟨g, 4, none⟩ = some (.int .u8 x.tu) := (hb.cell 4).trans rfl
  have c5 : w.cell? ⟨g, 5, none⟩ = some (.int .i64 x.kind) := (hb.cell 5).trans rfl
  have c8 : w.cell? ⟨g, 8, none⟩ = some (.int .u8 x.val) := (hb.cell 8).trans rfl
  have c9 : w.cell? ⟨g, 9, none⟩ = some (.int .i64 x.left) := (hb.cell 9).trans rfl
  have f4 := hb.frozen 4
  obtain ⟨y, hy0, hcy⟩ := hy.cell a ha
  have htu := ok.tu
  clear hb hy hs ok
  go_enter Tryz.func67, Tryz.ntmps67
  go_wp2_with (go_at_call 86; refine HA.out.mono ?_; rintro e w' ⟨rfl, rfl⟩)
  all_goals go_ret
  all_goals first
    | exact ⟨⟨_, hy0, rfl⟩, HS.out, Kept.refl _ _⟩
    | exact ⟨⟨_, ⟨by omega, by omega⟩, rfl⟩, HS.out, Kept.refl _ _⟩
    | exact ⟨⟨_, u8_wrap _, rfl⟩, HS.out, Kept.refl _ _⟩
    | exact ⟨⟨_, htu, rfl⟩, fl_turn _ (by_bits _ _ _) HS.out, Kept.set g 4 _ hg⟩
    | exact ⟨⟨_, by_bits _ _ _, rfl⟩, fl_turn _ (by_bits _ _ _) HS.out, Kept.set g 4 _ hg⟩
    | skip
end Go.Proofs.YtifajfjiloajfaaGreatDoor.OwnChip
namespace Go.Proofs.YtifajfjiloajfaaGreatDoor.OwnChip
open Go.RowKit Go.Proofs.YtifajfjiloajfaaGreatDoor.Own

theorem fl_less {T : Nat → Prop} {n g : Nat} {w : World} {x : FlS} {d cap l : Nat} {sv : Value} (hg : T g) (hd : T d) (ok : x.Ok n) (hb : Blk w g 130 (x.cells d n cap sv)) (hy : Byt n w d) (hs : Stp T w g sv) (hl : l ≤ 200) :
    Fl T n (w.setCell ⟨g, 9, none⟩ (.int .i64 l)) g := by
  have hdg : d ≠ g := fun e => (hy.ne hb (by decide)) e.symm
  exact ⟨hg, { x with left := l }, d, cap, sv, hd, ⟨ok.k0, ok.k1, ok.tu, ok.val, ok.fits, hl⟩, hb.set_ 9 _, hy.of (Below.heap_setCell w _ _ d hdg), hs.same (Same.set hb (Or.inl rfl) 9 _)⟩
theorem fl_dot {S : Nat → Prop} {n d i : Nat} {w : World} (h : Byt n w d) (u : Value) : Same S w (w.setCell ⟨d, i, none⟩ u) := by
  obtain ⟨cap, -, cs, hb, -⟩ := h
  exact Same.set hb (Or.inr rfl) i u
theorem fl_ended {S : Nat → Prop} {n g d cap : Nat} {x : FlS} {sv : Value} {w : World} (hg : S g) (hd : S d) (ok : x.Ok n) (hb : Blk w g 130 (FlS.cells { x with left := 0 } d n cap sv)) (hy : Byt n w d) (hs : Stp S w g sv) :
    Fl S n ((((w.setCell ⟨g, 5, none⟩ (.int .i64 0)).setCell ⟨g, 6, none⟩ (.int .i64 0)).setCell ⟨g, 7, none⟩ (.int .i64 0)).setCell ⟨g, 8, none⟩ (.int .u8 0)) g ∧
    Kept S w ((((w.setCell ⟨g, 5, none⟩ (.int .i64 0)).setCell ⟨g, 6, none⟩ (.int .i64 0)).setCell ⟨g, 7, none⟩ (.int .i64 0)).setCell ⟨g, 8, none⟩ (.int .u8 0)) := by
  have k : Kept (· = g) w ((((w.setCell ⟨g, 5, none⟩ (.int .i64 0)).setCell ⟨g, 6, none⟩ (.int .i64 0)).setCell ⟨g, 7, none⟩ (.int .i64 0)).setCell ⟨g, 8, none⟩ (.int .u8 0)) := by
    iterate 4 refine kset (S := (· = g)) ?_ rfl _ _
    exact Kept.refl _ _
  refine Fl.begun (y := { x with left := 0, kind := 0, fr := 0, many := 0, val := 0 }) hg hd hb hy hs ?_ k ⟨ok.k0, ok.k1, ok.tu, by_0, Nat.zero_le _, Nat.zero_le _⟩
  exact (((hb.set_ 5 _).set_ 6 _).set_ 7 _).set_ 8 _
set_option maxHeartbeats 3200000 in
set_option maxRecDepth 100000 in
theorem fl_tick (S : Nat → Prop) (n g : Nat) (w : World) (h : Fl S n w g) (hn : n < 65536) (hlt : ∀ j, S j → j < w.heap.size) :
    Calls Tryz.prog 69 #[.pointer (some ⟨g, 0, none⟩)] w fun e w' => e = .returned (.tuple #[]) ∧ Fl S n w' g ∧ Kept S w w' := by
  have HS := Lib.hid h
  obtain ⟨hg, x, d, cap, sv, hd, ok, hb, hy, hs⟩ := h
  have hdg : d ≠ g := fun e => (hy.ne hb (by decide)) e.symm
  have c5 : w.cell? ⟨g, 5, none⟩ = some (.int .i64 x.kind) := (hb.cell 5).trans rfl
  have c6 : w.cell? ⟨g, 6, none⟩ = some (.int .i64 x.fr) := (hb.cell 6).trans rfl
  have c7 : w.cell? ⟨g, 7, none⟩ = some (.int .i64 x.many) := (hb.cell 7).trans rfl
  have c8 : w.cell? ⟨g, 8, none⟩ = some (.int .u8 x.val) := (hb.cell 8).trans rfl
  have f9 := hb.frozen 9
  have hfit := ok.fits
  have hll := ok.left
  rcases hl : x.left with _ | l
  · have c9 : w.cell? ⟨g, 9, none⟩ = some (.int .i64 0) := by
      have q := hb.cell 9
      simp only [FlS.cells, hl] at q
      exact q.trans rfl
    clear hb hy hs ok hl
    go_enter Tryz.func69, Tryz.ntmps69
    go_wp2
    refine bodyPost_ret (results_none rfl _ _ _) rfl ?_
    exact ⟨rfl, HS.out, Kept.refl _ _⟩
  have H1 := Lib.hid (fl_less (l := l) hg hd ok hb hy hs (by omega))
  have c9 : w.cell? ⟨g, 9, none⟩ = some (.int .i64 ((l : Int) + 1)) := by
    have q := hb.cell 9
    simp only [FlS.cells, hl] at q
    exact q.trans rfl
  rcases Nat.eq_zero_or_pos l with rfl | hpos
  · have c9' : w.cell? ⟨g, 9, none⟩ = some (.int .i64 1) := c9
    have HB := Lib.hid (hb.set_ 9 (.int .i64 0))
    have HY := Lib.hid (hy.of (Below.heap_setCell w ⟨g, 9, none⟩ (.int .i64 0) d hdg))
    have HT := Lib.hid (hs.same (Same.set hb (Or.inl rfl) 9 (.int .i64 0)))
    have OK := Lib.hid ok
    have hlt1 := hlt g hg
    have hlt2 := hlt d hd
    clear hb hy hs ok hl c9 H1 hll
    go_enter Tryz.func69, Tryz.ntmps69
    go_wp2_with fail
    go_loopg [3] x.many (fun m iv wr => ∃ k : Nat, k + m = x.many ∧ iv = .int .i64 ((x.fr : Int) + k) ∧ Hid (Blk wr g 130 (FlS.cells { x with left := 0 } d n cap sv)) ∧ Hid (Byt n wr d) ∧ Hid (Stp S wr g sv) ∧ Hid (Blk wr w.heap.size 128 #[.int .i64 x.kind, .int .i64 x.fr, .int .i64 x.many, .int .u8 x.val]) ∧ Hid (Kept S w wr))
    case atStart =>
      refine ⟨0, by omega, by simp, Lib.hid (HB.out.alloc _), Lib.hid (HY.out.of (Below.heap_alloc _ _ _ HY.out.lt)), Lib.hid (HT.out.same (Same.below ((Below.refl _ _).alloc (Nat.le_refl _) _))), Lib.hid ?_, Lib.hid (kalloc (Kept.set g 9 _ hg) _)⟩
      have q := Blk.new (w.setCell ⟨g, 9, none⟩ (.int .i64 0)) 128 #[Value.int IntKind.i64 x.kind, Value.int IntKind.i64 ↑x.fr, Value.int IntKind.i64 ↑x.many, Value.int IntKind.u8 x.val]
      rwa [show (w.setCell ⟨g, 9, none⟩ (.int .i64 0)).heap.size = w.heap.size by simp [World.setCell]] at q
    case round =>
      obtain ⟨k, hk, rfl, HB1, HY1, HT1, HW1, HK1⟩ := hrel
      have hb1 := HB1.out
      have hw1 := HW1.out
      have d0 : wr.cell? ⟨w.heap.size, 0, none⟩ = some (.int .i64 x.kind) := (hw1.cell 0).trans rfl
      have d1 : wr.cell? ⟨w.heap.size, 1, none⟩ = some (.int .i64 x.fr) := (hw1.cell 1).trans rfl
      have d2 : wr.cell? ⟨w.heap.size, 2, none⟩ = some (.int .i64 x.many) := (hw1.cell 2).trans rfl
      have d3 : wr.cell? ⟨w.heap.size, 3, none⟩ = some (.int .u8 x.val) := (hw1.cell 3).trans rfl
      have e1 : wr.cell? ⟨g, 1, none⟩ = some (.slice (some ⟨d, 0, none⟩) n cap) := (hb1.cell 1).trans rfl
      have hwa : IntKind.i64.wrap ((x.fr : Int) + x.many) = (x.fr : Int) + x.many := IntWalk.i64_in _ (by omega)
      by_cases hkm : k < x.many
      · obtain ⟨y, hyb, ey⟩ := HY1.out.cell (x.fr + k) (by omega)
        have fy := HY1.out.frozen (x.fr + k)
        have hwk : IntKind.i64.wrap ((x.fr : Int) + k + 1) = (x.fr : Int) + k + 1 := IntWalk.i64_in _ (by omega)
        have t1 : (x.fr : Int) + k < (x.fr : Int) + x.many := by omega
        have t2 : 0 ≤ (x.fr : Int) + k := by omega
        have t3 : (x.fr : Int) + k < n := by omega
        have t4 : ((x.fr : Int) + k).toNat = x.fr + k := by omega
        clear hb1 hw1 c5 c6 c7 c8 f9 c9'
        go_wp2_with fail
        · go_region
          all_goals
            go_wp2_with fail
            go_roundg (gk - 1)
            case measure => omega
            case rel => exact ⟨k + 1, by omega, by go_num, Lib.hid (upd_blk _ HB1.out hdg.symm), Lib.hid (HY1.out.set _ _ (by_bits _ _ _)), Lib.hid (HT1.out.same (fl_dot HY1.out _)), Lib.hid (upd_blk _ HW1.out (by omega)), Lib.hid (kset HK1.out hd _ _).drew⟩
        · go_roundg (gk - 1)
          case measure => omega
          case rel => exact ⟨k + 1, by omega, by go_num, Lib.hid (upd_blk _ HB1.out hdg.symm), Lib.hid (HY1.out.set _ _ ⟨by omega, by omega⟩), Lib.hid (HT1.out.same (fl_dot HY1.out _)), Lib.hid (upd_blk _ HW1.out (by omega)), Lib.hid (kset HK1.out hd _ _)⟩
      · obtain rfl : k = x.many := by omega
        have g5 := hb1.frozen 5
        have g6 := hb1.frozen 6
        have g7 := hb1.frozen 7
        have g8 := hb1.frozen 8
        have e5 : wr.cell? ⟨g, 5, none⟩ = some (.int .i64 x.kind) := (hb1.cell 5).trans rfl
        have e6 : wr.cell? ⟨g, 6, none⟩ = some (.int .i64 x.fr) := (hb1.cell 6).trans rfl
        have e7 : wr.cell? ⟨g, 7, none⟩ = some (.int .i64 x.many) := (hb1.cell 7).trans rfl
        have e8 : wr.cell? ⟨g, 8, none⟩ = some (.int .u8 x.val) := (hb1.cell 8).trans rfl
        clear hb1 hw1 c5 c6 c7 c8 f9 c9'
        go_wp2
        go_end0
        exact ⟨rfl, (fl_ended hg hd OK.out HB1.out HY1.out HT1.out).1, HK1.out.trans ((fl_ended hg hd OK.out HB1.out HY1.out HT1.out).2.mono fun _ _ => Or.inl)⟩
  · have hw := Lib.hid (IntWalk.wrap64_in (l : Int) (by omega))
    have hpos2 : (0 : Int) < wrap64 (l : Int) := by rw [hw.out]; omega
    clear hb hy hs ok hl
    go_enter Tryz.func69, Tryz.ntmps69
    go_wp2
    refine bodyPost_ret (results_none rfl _ _ _) rfl ?_
    rw [hw.out]
    exact ⟨rfl, H1.out, Kept.set g 9 _ hg⟩
end Go.Proofs.YtifajfjiloajfaaGreatDoor.OwnChip
namespace Go.Proofs.YtifajfjiloajfaaGreatDoor.OwnChip
open Go.RowKit Go.Proofs.YtifajfjiloajfaaGreatDoor.Own

set_option maxHeartbeats 1600000 in
theorem fl_none (A : Option Addr) (n c : Nat) (w : World) :
    Calls Tryz.prog 30 #[.int .i64 0, .slice A n c] w fun e w' => e = .returned (.tuple #[.pointer none, .int .i64 1]) ∧ w' = w := by
  have HB := Lib.hid (fun w => OwnGeo.flash_any 0 w (by omega) (by omega))
  go_enter Tryz.func30, Tryz.ntmps30
  go_wp2_with (go_at_call 34; refine (HB.out _).mono ?_; rintro e w' ⟨rfl, rfl⟩)
  go_ret2
  exact ⟨rfl, rfl⟩
def flZero (f : Nat) : FlS := { k := f, nm := false, tu := 0, kind := 0, fr := 0, many := 0, val := 0, left := 0, raw := false }
theorem fl_made (f g cap : Nat) (w w1 w3 : World) (sv2 : Value) (h0 : 1 ≤ f) (h1 : f ≤ 2) (hk : Below w.heap.size w w1) (hg : w.heap.size ≤ g) (hy : Byt (f * 256) w1 g)
    (hb : Blk w3 w1.heap.size 130 (FlS.cells (flZero f) g (f * 256) cap sv2)) (hs : Key (fun j => (w1.alloc (.cells (FlS.cells (flZero f) g (f * 256) cap .nilFunc) 130)).heap.size ≤ j ∧ j < w3.heap.size) w3 w1.heap.size sv2) (k : Kept (· = w1.heap.size) (w1.alloc (.cells (FlS.cells (flZero f) g (f * 256) cap .nilFunc) 130)) w3) :
    Fl (fun j => w.heap.size ≤ j ∧ j < w3.heap.size) (f * 256) w3 w1.heap.size ∧ Below w.heap.size w w3 := by
  have hsz : (w1.alloc (.cells (FlS.cells (flZero f) g (f * 256) cap .nilFunc) 130)).heap.size = w1.heap.size + 1 := by simp
  have q1 := hk.size
  have q2 := k.size
  have q3 := hy.lt
  rw [hsz] at hs q2
  refine ⟨⟨⟨q1, by omega⟩, flZero f, g, cap, sv2, ⟨hg, by omega⟩, ⟨by show (0 : Int) ≤ f; omega, by show (f : Int) ≤ 2; omega, by_0, by_0, Nat.zero_le _, Nat.zero_le _⟩, hb, ?_, Or.inl (hs.mono fun j hj => ⟨by omega, hj.2⟩)⟩, ?_⟩
  · exact Byt.kept k (by omega) (hy.of (Below.heap_alloc w1 _ g q3))
  · refine Kept.none_below ?_
    exact (Kept.below hk).trans ((Kept.alloc _).trans (k.mono fun j _ e => Or.inl (Or.inr (by rw [e]; exact q1))))
set_option maxHeartbeats 1600000 in
theorem fl_new (f : Nat) (d off c : Nat) (w : World) (h0 : 1 ≤ f) (h1 : f ≤ 2) (h : Src (f * 256) w d off) :
    Calls Tryz.prog 30 #[.int .i64 f, .slice (some ⟨d, off, none⟩) (f * 256) c] w fun e w' => (∃ g, e = .returned (.tuple #[.pointer (some ⟨g, 0, none⟩), .int .i64 0]) ∧ Fl (fun j => w.heap.size ≤ j ∧ j < w'.heap.size) (f * 256) w' g) ∧ Below w.heap.size w w' := by
  have HB := Lib.hid (fun w => OwnGeo.flash_any f w (by omega) (by omega))
  have HC := Lib.hid (clone_any (f * 256) d off c w h (by omega))
  have HR := Lib.hid (fun (w1 : World) (g cap : Nat) => fl_rest (f * 256) w1.heap.size g cap (flZero f) .nilFunc (w1.alloc (.cells (FlS.cells (flZero f) g (f * 256) cap .nilFunc) 130)) (Blk.new _ _ _))
  have HM := Lib.hid (fl_made f)
  have e1 : (f : Int) * 256 ≠ 0 := by omega
  have e2 : ((f * 256 : Nat) : Int) = (f : Int) * 256 := by omega
  have e3 : ¬ (f : Int) = 0 := by omega
  clear h
  go_enter Tryz.func30, Tryz.ntmps30
  go_wp2_with (first
    | (go_at_call 34; refine (HB.out _).mono ?_; rintro e w' ⟨rfl, rfl⟩)
    | (go_at_call 26; refine HC.out.mono ?_; rintro e w1 ⟨⟨g, cap, rfl, hg, hB⟩, hb⟩; have HB2 := Lib.hid hB; have HK := Lib.hid hb; clear hB hb)
    | (go_at_call 50; refine (HR.out w1 g cap).mono ?_; rintro e w3 ⟨rfl, ⟨sv2, hb3, hk3⟩, kp3⟩; have H3 := Lib.hid (HM.out g cap w w1 w3 sv2 h0 h1 HK.out hg HB2.out hb3 hk3 kp3); clear hb3 hk3 kp3))
  go_ret2
  exact ⟨⟨_, rfl, H3.out.1⟩, H3.out.2⟩
end Go.Proofs.YtifajfjiloajfaaGreatDoor.OwnChip

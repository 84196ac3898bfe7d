/- What the processor's cycles take: those that lengthen the plan. Conditions: the processor is a block of its cells, its plan a row of its own; bytes are bytes. · What the processor's cycles take: a branch. Conditions: the processor is a block of its cells, its plan a row of its own; bytes are bytes. -/
import Derived.Test.YtifajfjiloajfaaGreatDoorPlan
import Derived.Laws.EntriesVeiled
import Derived.Deep.CutRange
import Derived.BigQuiet
import Derived.Deep.QuietTactic
namespace Go.Proofs.YtifajfjiloajfaaGreatDoor.OwnCpu
open Go.RowKit Go.Proofs.YtifajfjiloajfaaGreatDoor.Own Go.Proofs.YtifajfjiloajfaaGreatDoor.OwnEff Go.Proofs.YtifajfjiloajfaaGreatDoor.OwnAddr

/-- Behind a take: the processor is c', its plan pl'; nothing else that was there has changed. -/
def TakeRet (w : World) (g : Nat) (v : Value) (c' : C) (pl' : List (Nat × Nat)) (e : Ending) (w' : World) : Prop :=
  e = .returned (.tuple #[]) ∧ ∃ v', CAt w' g c' v' ∧ PlanAt w' v' pl' ∧ v'.ownBlock ≠ some g ∧ (∀ b, v'.ownBlock = some b → v.ownBlock = some b ∨ w.heap.size ≤ b) ∧ Kept (fun k => k = g ∨ v.ownBlock = some k) w w'
theorem PlanAt.form2 {w : World} {v : Value} {pl : List (Nat × Nat)} (h : PlanAt w v pl) : ∃ A n cap, v = .slice A n cap := by
  obtain ⟨A, cap, h⟩ := h.form
  exact ⟨A, _, cap, h⟩
theorem TakeRet.same {w w' : World} {g : Nat} {v : Value} {c' : C} {pl : List (Nat × Nat)} {e : Ending} (hp : PlanAt w v pl) (hne : v.ownBlock ≠ some g) (h : e = .returned (.tuple #[]) ∧ CAt w' g c' v ∧ w.grownBy w' (some g)) : TakeRet w g v c' pl e w' :=
  ⟨h.1, v, h.2.1, hp.grown h.2.2 (.inr hne), hne, fun _ hb => .inl hb, Kept.grown h.2.2 (.inl rfl)⟩
theorem TakeRet.close {w W w1 : World} {g : Nat} {c' : C} {v v' : Value} {pl' : List (Nat × Nat)} (hk : Kept (fun k => k = g) w W) (hg : g < w.heap.size) (hne : v.ownBlock ≠ some g) (B1 : CAt w1 g c' v) (hP : PlanAt w1 v' pl') (hgrow : W.grownBy w1 v.ownBlock) (hat : v'.ownBlock = v.ownBlock ∨ v'.ownBlock = some W.heap.size) :
    TakeRet w g v c' pl' (.returned (.tuple #[])) (w1.setCell ⟨g, 9, none⟩ v') := by
  have hsz := hk.size
  have hne' : v'.ownBlock ≠ some g := by
    rcases hat with h | h
    · rw [h]; exact hne
    · rw [h]; intro e; simp at e; omega
  refine ⟨rfl, v', Blk.set_ B1 9 v', hP.kept (S := fun k => k = g) (Kept.set g 9 v' rfl) (fun b hb e => hne' (e ▸ hb)), hne', fun b hb => ?_, ?_⟩
  · rcases hat with h | h
    · exact .inl (h ▸ hb)
    · right
      rw [h] at hb
      simp at hb
      omega
  · refine (hk.mono (fun k _ h => .inl h)).trans (Kept.trans (S := fun j => (j = g ∨ v.ownBlock = some j) ∨ w.heap.size ≤ j) (b := w1) ⟨hgrow.os, hgrow.tape, hgrow.output, hgrow.size, fun k hk hn => hgrow.block k hk (fun e => hn (.inl (.inr e.symm)))⟩ ((Kept.set g 9 v' (S := fun k => k = g) rfl).mono (fun k _ h => .inl (.inl (.inl h)))))
theorem TakeRet.set {w w' : World} {g : Nat} {v : Value} {c' c2 : C} {pl : List (Nat × Nat)} {e : Ending} (i : Nat) (u : Value) (hc : ∀ x, (c'.cells x).setIfInBounds i u = c2.cells x) (h : TakeRet w g v c' pl e w') : TakeRet w g v c2 pl e (w'.setCell ⟨g, i, none⟩ u) := by
  obtain ⟨h1, v', h2, h3, h4, h5, h6⟩ := h
  refine ⟨h1, v', ?_, h3.kept (S := fun k => k = g) (Kept.set g i u rfl) (fun b hb e => h4 (e ▸ hb)), h4, h5, h6.trans ((Kept.set g i u (S := fun k => k = g) rfl).mono (fun k _ h => .inl (.inl h)))⟩
  have := Blk.set_ h2 i u
  rw [hc] at this
  exact this
theorem cat_set {w : World} {g : Nat} {c : C} {v : Value} (_h : CAt w g c v) (i : Nat) (u : Value) : Kept (fun k => k = g) w (w.setCell ⟨g, i, none⟩ u) := Kept.set g i u rfl
set_option maxHeartbeats 6400000 in
set_option maxRecDepth 100000 in
theorem maybe_eq (g : Nat) (c : C) (v : Value) (pl : List (Nat × Nat)) (d : Int) (w : World) (h : CAt w g c v) (hp : PlanAt w v pl) (hne : v.ownBlock ≠ some g) (_hl : pl.length ≤ 900) (hr : c.r.ok) (hd : By d) (hb : (c.rough == c.place) = true) : Calls Tryz.prog 146 #[.pointer (some ⟨g, 0, none⟩), .int .u8 d] w (TakeRet w g v ({ c with r := readsR c.name.toList c.r d }) (pl)) := by
  have c14 : w.cell? ⟨g, 14, none⟩ = some (.int .u16 c.rough) := (Blk.cell h 14).trans rfl
  have c15 : w.cell? ⟨g, 15, none⟩ = some (.int .u16 c.place) := (Blk.cell h 15).trans rfl
  have HI : Hid (∀ n, Calls Tryz.prog 147 #[.pointer (some ⟨g, 0, none⟩), .int .u8 d] (w.drewN n) fun e w' => TakeRet w g v { c with r := readsR c.name.toList c.r d } pl e w') := Lib.hid (fun n => (OwnCpu.reads_any g c v d (w.drewN n) (Blk.drewN h n) hr hd).mono (fun e w' k => TakeRet.same hp hne ⟨k.1, k.2.1, ⟨k.2.2.os, k.2.2.tape, k.2.2.output, k.2.2.size, k.2.2.block⟩⟩))
  clear h hp hr hd
  go_enter Tryz.func146, Tryz.ntmps146
  go_wp2_with fail
  go_quiet (fail)
  go_wp2_with (go_at_call 147; refine (HI.out _).mono ?_; rintro e w3 hT; have he := hT.1; have GT := Lib.hid hT; clear hT; subst he)
  go_end0
  exact GT.out
set_option maxHeartbeats 6400000 in
set_option maxRecDepth 100000 in
theorem maybe_ne (g : Nat) (c : C) (v : Value) (pl : List (Nat × Nat)) (d : Int) (w : World) (h : CAt w g c v) (hp : PlanAt w v pl) (hne : v.ownBlock ≠ some g) (hl : pl.length ≤ 900) (hb : (c.rough == c.place) = false) : Calls Tryz.prog 146 #[.pointer (some ⟨g, 0, none⟩), .int .u8 d] w (TakeRet w g v (c) (pl ++ [(117, 147)])) := by
  have c14 : w.cell? ⟨g, 14, none⟩ = some (.int .u16 c.rough) := (Blk.cell h 14).trans rfl
  have c15 : w.cell? ⟨g, 15, none⟩ = some (.int .u16 c.place) := (Blk.cell h 15).trans rfl
  have c9 : w.cell? ⟨g, 9, none⟩ = some v := (Blk.cell h 9).trans rfl
  have hlt := Blk.lt h
  have H0 := Lib.hid h
  have HP := Lib.hid hp
  have HN := Lib.hid hne
  clear h hp hne
  go_enter Tryz.func146, Tryz.ntmps146
  go_wp2_with fail
  go_quiet (fail)
  go_wp2_with (at_builtin; refine wpList_append_plan rfl (.tmp 20) (.tmp 22) (by rfl) v pl (by rfl) ((PlanAt.drewN HP.out _).alloc _) _ [(117, 147)] (by rfl) (PlanAt.lit (w := w.drewN _) #[.func (.func 117) #[] #[], .func (.func 147) #[] #[]] [(117, 147)] rfl (by decide)) (by simp; omega) ?_; intro v' w1 hP hgrow hat; obtain ⟨A9, n9, cap9, rfl⟩ := PlanAt.form2 hP; have B1 : CAt w1 g c v := Blk.grown (Blk.alloc (Blk.drewN H0.out _) _) hgrow (fun e => HN.out e.symm); have k9 : w1.cell? ⟨g, 9, none⟩ = some v := (Blk.cell B1 9).trans rfl; have kf9 := Blk.frozen B1 9; have GB := Lib.hid B1; have GP := Lib.hid hP; have GG := Lib.hid hgrow; have GA := Lib.hid hat; clear B1 hP hgrow hat)
  go_end0
  exact TakeRet.close (W := (w.drewN _).alloc _) ⟨rfl, rfl, rfl, by simp, fun k hk _ => Below.heap_alloc w _ k hk⟩ hlt HN.out GB.out GP.out GG.out GA.out
set_option maxHeartbeats 6400000 in
set_option maxRecDepth 100000 in
theorem arrives_eq (g : Nat) (c : C) (v : Value) (pl : List (Nat × Nat)) (d : Int) (w : World) (h : CAt w g c v) (hp : PlanAt w v pl) (hne : v.ownBlock ≠ some g) (_hl : pl.length ≤ 900) (hb : (c.rough != c.place) = false) : Calls Tryz.prog 168 #[.pointer (some ⟨g, 0, none⟩), .int .u8 d] w (TakeRet w g v ({ c with r := { c.r with pc := c.place } }) (pl)) := by
  have c5 : w.cell? ⟨g, 5, none⟩ = some (.int .u16 c.r.pc) := (Blk.cell h 5).trans rfl
  have f5 := Blk.frozen h 5
  have c14 : w.cell? ⟨g, 14, none⟩ = some (.int .u16 c.rough) := (Blk.cell h 14).trans rfl
  have c15 : w.cell? ⟨g, 15, none⟩ = some (.int .u16 c.place) := (Blk.cell h 15).trans rfl
  have HT : Hid (∀ n, TakeRet w g v ({ c with r := { c.r with pc := c.place } }) pl (.returned (.tuple #[])) ((w.setCell ⟨g, 5, none⟩ (.int .u16 c.place)).drewN n)) := Lib.hid (fun n => TakeRet.same hp hne ⟨rfl, Blk.drewN (Blk.set_ h 5 (.int .u16 c.place)) n, ⟨rfl, rfl, rfl, by simp [World.setCell], fun k hk hn => Below.heap_setCell w _ _ k (fun e => hn (by rw [e]))⟩⟩)
  clear h hp
  go_enter Tryz.func168, Tryz.ntmps168
  go_wp2_with fail
  go_quiet (fail)
  go_wp2
  go_end0
  exact HT.out _
set_option maxHeartbeats 6400000 in
set_option maxRecDepth 100000 in
theorem arrives_ne (g : Nat) (c : C) (v : Value) (pl : List (Nat × Nat)) (d : Int) (w : World) (h : CAt w g c v) (hp : PlanAt w v pl) (hne : v.ownBlock ≠ some g) (hl : pl.length ≤ 900) (hb : (c.rough != c.place) = true) : Calls Tryz.prog 168 #[.pointer (some ⟨g, 0, none⟩), .int .u8 d] w (TakeRet w g v ({ c with r := { c.r with pc := c.place }, quiet := false }) (pl ++ [(129, 56)])) := by
  have c5 : w.cell? ⟨g, 5, none⟩ = some (.int .u16 c.r.pc) := (Blk.cell h 5).trans rfl
  have f5 := Blk.frozen h 5
  have c14 : w.cell? ⟨g, 14, none⟩ = some (.int .u16 c.rough) := (Blk.cell h 14).trans rfl
  have c15 : w.cell? ⟨g, 15, none⟩ = some (.int .u16 c.place) := (Blk.cell h 15).trans rfl
  have c9 : w.cell? ⟨g, 9, none⟩ = some v := (Blk.cell h 9).trans rfl
  have hlt := Blk.lt h
  have H0 : Hid (CAt (w.setCell ⟨g, 5, none⟩ (.int .u16 c.place)) g ({ c with r := { c.r with pc := c.place } }) v) := Lib.hid (Blk.set_ h 5 _)
  have HP := Lib.hid (hp.kept (cat_set h 5 (.int .u16 c.place)) (fun b hb e => hne (e ▸ hb)))
  have HN := Lib.hid hne
  have hsz : (w.setCell ⟨g, 5, none⟩ (.int .u16 c.place)).heap.size = w.heap.size := by simp [World.setCell]
  have HLIT : Hid (∀ n, PlanAt (((w.setCell ⟨g, 5, none⟩ (.int .u16 c.place)).drewN n).alloc (.cells #[.func (.func 129) #[] #[], .func (.func 56) #[] #[]] 103)) (.slice (some ⟨w.heap.size, 0, none⟩) 1 1) [(129, 56)]) := Lib.hid (fun n => by
    have h := PlanAt.lit (w := (w.setCell ⟨g, 5, none⟩ (.int .u16 c.place)).drewN n) #[.func (.func 129) #[] #[], .func (.func 56) #[] #[]] [(129, 56)] rfl (by decide)
    rw [show ((w.setCell ⟨g, 5, none⟩ (.int .u16 c.place)).drewN n).heap.size = w.heap.size from hsz] at h
    exact h)
  clear hsz
  clear h hp hne
  go_enter Tryz.func168, Tryz.ntmps168
  go_wp2_with fail
  go_quiet (fail)
  go_wp2_with (at_builtin; refine wpList_append_plan rfl (.tmp 25) (.tmp 27) (by rfl) v pl (by rfl) ((PlanAt.drewN HP.out _).alloc _) _ [(129, 56)] (by rfl) (HLIT.out _) (by simp; omega) ?_; intro v' w1 hP hgrow hat; obtain ⟨A9, n9, cap9, rfl⟩ := PlanAt.form2 hP; have B1 : CAt w1 g ({ c with r := { c.r with pc := c.place } }) v := Blk.grown (Blk.alloc (Blk.drewN H0.out _) _) hgrow (fun e => HN.out e.symm); have k9 : w1.cell? ⟨g, 9, none⟩ = some v := (Blk.cell B1 9).trans rfl; have kf9 := Blk.frozen B1 9; have k17 : w1.cell? ⟨g, 17, none⟩ = some (.bool c.quiet) := (Blk.cell B1 17).trans rfl; have kf17 := Blk.frozen B1 17; have GB := Lib.hid B1; have GP := Lib.hid hP; have GG := Lib.hid hgrow; have GA := Lib.hid hat; clear B1 hP hgrow hat)
  go_end0
  exact TakeRet.set (c' := { c with r := { c.r with pc := c.place } }) 17 (.bool false) (fun _ => rfl) (TakeRet.close (W := ((w.setCell ⟨g, 5, none⟩ (.int .u16 c.place)).drewN _).alloc _) ⟨rfl, rfl, rfl, by simp [World.setCell], fun k hk hn => (Below.heap_alloc _ _ k (by simpa [World.setCell] using hk)).trans (Below.heap_setCell w _ _ k hn)⟩ hlt HN.out GB.out GP.out GG.out GA.out)
end Go.Proofs.YtifajfjiloajfaaGreatDoor.OwnCpu
namespace Go.Proofs.YtifajfjiloajfaaGreatDoor.OwnCpu
open Go.RowKit Go.Proofs.YtifajfjiloajfaaGreatDoor.Own Go.Proofs.YtifajfjiloajfaaGreatDoor.OwnEff Go.Proofs.YtifajfjiloajfaaGreatDoor.OwnAddr

set_option maxHeartbeats 6400000 in
set_option maxRecDepth 100000 in
theorem branch_no (g : Nat) (c : C) (v : Value) (pl : List (Nat × Nat)) (d : Int) (w : World) (h : CAt w g c v) (hp : PlanAt w v pl) (hne : v.ownBlock ≠ some g) (_hl : pl.length ≤ 900) (p1 : Int) (hp1 : p1 = IntKind.u16.wrap (c.r.pc + 1)) (ht : takenB c.name.toList c.r.p = false) : Calls Tryz.prog 134 #[.pointer (some ⟨g, 0, none⟩), .int .u8 d] w (TakeRet w g v ({ c with r := { c.r with pc := p1 } }) (pl)) := by
  have c5 : w.cell? ⟨g, 5, none⟩ = some (.int .u16 c.r.pc) := (Blk.cell h 5).trans rfl
  have hpw := hp1.symm
  clear hp1
  have f5 := Blk.frozen h 5
  have hlt := Blk.lt h
  have B1 : CAt (w.setCell ⟨g, 5, none⟩ (.int .u16 p1)) g ({ c with r := { c.r with pc := p1 } }) v := Blk.set_ h 5 _
  have hK1 : Kept (fun k => k = g) w (w.setCell ⟨g, 5, none⟩ (.int .u16 p1)) := cat_set h 5 _
  have hP1 : PlanAt (w.setCell ⟨g, 5, none⟩ (.int .u16 p1)) v pl := hp.kept hK1 (fun b hb e => hne (e ▸ hb))
  have c6 : (w.setCell ⟨g, 5, none⟩ (.int .u16 p1)).cell? ⟨g, 6, none⟩ = some (.string c.name) := (Blk.cell B1 6).trans rfl
  have c4 : (w.setCell ⟨g, 5, none⟩ (.int .u16 p1)).cell? ⟨g, 4, none⟩ = some (.int .u8 c.r.p) := (Blk.cell B1 4).trans rfl
  have c4' : w.cell? ⟨g, 4, none⟩ = some (.int .u8 c.r.p) := (Blk.cell h 4).trans rfl
  have c6' : w.cell? ⟨g, 6, none⟩ = some (.string c.name) := (Blk.cell h 6).trans rfl
  have HT : Hid (∀ w, Calls Tryz.prog 166 #[.string c.name, .int .u8 c.r.p] w fun e w' => e = .returned (.bool false) ∧ Below w.heap.size w w') := Lib.hid (fun w => by have k := taken_any c.name c.r.p w; rw [ht] at k; exact k)
  have HF : Hid (∀ w3, Below (w.setCell ⟨g, 5, none⟩ (.int .u16 p1)).heap.size (w.setCell ⟨g, 5, none⟩ (.int .u16 p1)).drew w3 → CAt w3 g ({ c with r := { c.r with pc := p1 } }) v ∧ PlanAt w3 v pl ∧ Kept (fun k => k = g) w w3) := Lib.hid (fun w3 hb =>
    have hb' : Below (w.setCell ⟨g, 5, none⟩ (.int .u16 p1)).heap.size (w.setCell ⟨g, 5, none⟩ (.int .u16 p1)) w3 := ⟨hb.os, hb.tape, hb.output, hb.size, hb.block⟩
    ⟨Blk.below B1 hb' B1.lt, hP1.below hb', hK1.trans (Kept.below hb')⟩)
  clear B1 hK1 hP1 h hp
  go_enter Tryz.func134, Tryz.ntmps134
  go_upto_region 1 with (fail)
  go_cut [23] from 4 to 52 (fun x wx => x = .bool false ∧ CAt wx g ({ c with r := { c.r with pc := p1 } }) v ∧ PlanAt wx v pl ∧ Kept (fun k => k = g) w wx)
  case first =>
    go_region_with (go_at_call 166; refine (HT.out _).mono ?_; rintro e w3 ⟨rfl, hb3⟩; have G3 := Lib.hid hb3; clear hb3)
    all_goals
      go_wp2_with fail
      go_meet
      exact ⟨rfl, HF.out w3 G3.out⟩
  case rest =>
    obtain ⟨rfl, hC, hP, hK⟩ := hcut
    have GC := Lib.hid hC
    have GP := Lib.hid hP
    have GK := Lib.hid hK
    clear hC hP hK
    go_wp2
    go_end0
    exact ⟨rfl, v, GC.out, GP.out, hne, fun _ hb => .inl hb, GK.out.mono (fun k _ h => .inl h)⟩
set_option maxHeartbeats 6400000 in
set_option maxRecDepth 100000 in
theorem branch_yes (g : Nat) (c : C) (v : Value) (pl : List (Nat × Nat)) (d : Int) (w : World) (h : CAt w g c v) (hp : PlanAt w v pl) (hne : v.ownBlock ≠ some g) (hl : pl.length ≤ 900) (p1 : Int) (hp1 : p1 = IntKind.u16.wrap (c.r.pc + 1)) (ht : takenB c.name.toList c.r.p = true) (hd : By d) (ro ri : Int) (hro : ro = roughV p1 (if d > 127 then d + 65280 else d)) (hri : ri = rightV p1 (if d > 127 then d + 65280 else d)) : Calls Tryz.prog 134 #[.pointer (some ⟨g, 0, none⟩), .int .u8 d] w (TakeRet w g v ({ c with r := { c.r with pc := p1 }, rough := ro, place := ri, quiet := true }) (pl ++ [(55, 168)])) := by
  have HBr : Hid (∀ w, Calls Tryz.prog 167 #[.int .u16 p1, .int .u8 d] w fun e w' => e = .returned (.tuple #[.int .u16 ro, .int .u16 ri]) ∧ Below w.heap.size w w') := Lib.hid (fun w => by
    have k := branch_any p1 d w (by rw [hp1, w16]; omega) (by rw [hp1, w16]; omega) hd.1 hd.2
    rw [← hro, ← hri] at k; exact k)
  clear hro hri hd
  have c5 : w.cell? ⟨g, 5, none⟩ = some (.int .u16 c.r.pc) := (Blk.cell h 5).trans rfl
  have hpw := hp1.symm
  clear hp1
  have f5 := Blk.frozen h 5
  have hlt := Blk.lt h
  have B1 : CAt (w.setCell ⟨g, 5, none⟩ (.int .u16 p1)) g ({ c with r := { c.r with pc := p1 } }) v := Blk.set_ h 5 _
  have hK1 : Kept (fun k => k = g) w (w.setCell ⟨g, 5, none⟩ (.int .u16 p1)) := cat_set h 5 _
  have hP1 : PlanAt (w.setCell ⟨g, 5, none⟩ (.int .u16 p1)) v pl := hp.kept hK1 (fun b hb e => hne (e ▸ hb))
  have c6 : (w.setCell ⟨g, 5, none⟩ (.int .u16 p1)).cell? ⟨g, 6, none⟩ = some (.string c.name) := (Blk.cell B1 6).trans rfl
  have c4 : (w.setCell ⟨g, 5, none⟩ (.int .u16 p1)).cell? ⟨g, 4, none⟩ = some (.int .u8 c.r.p) := (Blk.cell B1 4).trans rfl
  have c4' : w.cell? ⟨g, 4, none⟩ = some (.int .u8 c.r.p) := (Blk.cell h 4).trans rfl
  have c6' : w.cell? ⟨g, 6, none⟩ = some (.string c.name) := (Blk.cell h 6).trans rfl
  have HT : Hid (∀ w, Calls Tryz.prog 166 #[.string c.name, .int .u8 c.r.p] w fun e w' => e = .returned (.bool true) ∧ Below w.heap.size w w') := Lib.hid (fun w => by have k := taken_any c.name c.r.p w; rw [ht] at k; exact k)
  have HF : Hid (∀ w3, Below (w.setCell ⟨g, 5, none⟩ (.int .u16 p1)).heap.size (w.setCell ⟨g, 5, none⟩ (.int .u16 p1)).drew w3 → CAt w3 g ({ c with r := { c.r with pc := p1 } }) v ∧ PlanAt w3 v pl ∧ Kept (fun k => k = g) w w3) := Lib.hid (fun w3 hb =>
    have hb' : Below (w.setCell ⟨g, 5, none⟩ (.int .u16 p1)).heap.size (w.setCell ⟨g, 5, none⟩ (.int .u16 p1)) w3 := ⟨hb.os, hb.tape, hb.output, hb.size, hb.block⟩
    ⟨Blk.below B1 hb' B1.lt, hP1.below hb', hK1.trans (Kept.below hb')⟩)
  clear B1 hK1 hP1 h hp
  go_enter Tryz.func134, Tryz.ntmps134
  go_upto_region 1 with (fail)
  go_cut [23] from 4 to 52 (fun x wx => x = .bool true ∧ CAt wx g ({ c with r := { c.r with pc := p1 } }) v ∧ PlanAt wx v pl ∧ Kept (fun k => k = g) w wx)
  case first =>
    go_region_with (go_at_call 166; refine (HT.out _).mono ?_; rintro e w3 ⟨rfl, hb3⟩; have G3 := Lib.hid hb3; clear hb3)
    all_goals
      go_wp2_with fail
      go_meet
      exact ⟨rfl, HF.out w3 G3.out⟩
  case rest =>
    obtain ⟨rfl, hC, hP, hK⟩ := hcut
    have k5 : wc.cell? ⟨g, 5, none⟩ = some (.int .u16 p1) := (Blk.cell hC 5).trans rfl
    have HG : Hid (∀ w4, Below wc.heap.size wc w4 → CAt w4 g ({ c with r := { c.r with pc := p1 } }) v ∧ CAt (((w4.setCell ⟨g, 14, none⟩ (.int .u16 ro)).setCell ⟨g, 15, none⟩ (.int .u16 ri)).alloc (.cells #[.func (.func 55) #[] #[], .func (.func 168) #[] #[]] 103)) g ({ c with r := { c.r with pc := p1 }, rough := ro, place := ri }) v ∧ PlanAt (((w4.setCell ⟨g, 14, none⟩ (.int .u16 ro)).setCell ⟨g, 15, none⟩ (.int .u16 ri)).alloc (.cells #[.func (.func 55) #[] #[], .func (.func 168) #[] #[]] 103)) v pl ∧ PlanAt (((w4.setCell ⟨g, 14, none⟩ (.int .u16 ro)).setCell ⟨g, 15, none⟩ (.int .u16 ri)).alloc (.cells #[.func (.func 55) #[] #[], .func (.func 168) #[] #[]] 103)) (.slice (some ⟨w4.heap.size, 0, none⟩) 1 1) [(55, 168)] ∧ Kept (fun k => k = g) w (((w4.setCell ⟨g, 14, none⟩ (.int .u16 ro)).setCell ⟨g, 15, none⟩ (.int .u16 ri)).alloc (.cells #[.func (.func 55) #[] #[], .func (.func 168) #[] #[]] 103))) := Lib.hid (fun w4 hb => by
      have b0 := Blk.below hC hb hC.lt
      have b1 : CAt ((w4.setCell ⟨g, 14, none⟩ (.int .u16 ro)).setCell ⟨g, 15, none⟩ (.int .u16 ri)) g ({ c with r := { c.r with pc := p1 }, rough := ro, place := ri }) v := Blk.set_ (Blk.set_ b0 14 (.int .u16 ro)) 15 (.int .u16 ri)
      have k1 : Kept (fun k => k = g) w4 ((w4.setCell ⟨g, 14, none⟩ (.int .u16 ro)).setCell ⟨g, 15, none⟩ (.int .u16 ri)) := (Kept.set g 14 (.int .u16 ro) (S := fun k => k = g) rfl).trans ((Kept.set g 15 (.int .u16 ri) (S := fun k => k = g) rfl).mono (fun k _ h => .inl h))
      have k2 : Kept (fun k => k = g) w ((w4.setCell ⟨g, 14, none⟩ (.int .u16 ro)).setCell ⟨g, 15, none⟩ (.int .u16 ri)) := hK.trans ((Kept.trans (Kept.below hb) (k1.mono (fun k _ h => .inl h))).mono (fun k _ h => .inl h))
      refine ⟨b0, Blk.alloc b1 _, ((hP.below hb).kept k1 (fun b hb e => hne (e ▸ hb))).alloc _, ?_, k2.trans (Kept.alloc _)⟩
      have hsz : ((w4.setCell ⟨g, 14, none⟩ (.int .u16 ro)).setCell ⟨g, 15, none⟩ (.int .u16 ri)).heap.size = w4.heap.size := by simp [World.setCell]
      have h := PlanAt.lit (w := ((w4.setCell ⟨g, 14, none⟩ (.int .u16 ro)).setCell ⟨g, 15, none⟩ (.int .u16 ri))) #[.func (.func 55) #[] #[], .func (.func 168) #[] #[]] [(55, 168)] rfl (by decide)
      rw [hsz] at h
      exact h)
    have HN := Lib.hid hne
    clear hC hP hK hne
    go_wp2_with (first
      | (go_at_call 167; refine (HBr.out _).mono ?_; rintro e w4 ⟨rfl, hb4⟩; obtain ⟨b0, b1, g1, g2, g3⟩ := HG.out w4 hb4; have k14 : w4.cell? ⟨g, 14, none⟩ = some (.int .u16 c.rough) := (Blk.cell b0 14).trans rfl; have kf14 := Blk.frozen b0 14; have k15 : w4.cell? ⟨g, 15, none⟩ = some (.int .u16 c.place) := (Blk.cell b0 15).trans rfl; have kf15 := Blk.frozen b0 15; have k9 : w4.cell? ⟨g, 9, none⟩ = some v := (Blk.cell b0 9).trans rfl; have H1 := Lib.hid b1; have H2 := Lib.hid g1; have H3 := Lib.hid g2; have H4 := Lib.hid g3; clear b0 b1 g1 g2 g3 hb4)
      | (at_builtin; refine wpList_append_plan rfl (.tmp 44) (.tmp 46) (by rfl) v pl (by rfl) H2.out _ [(55, 168)] (by rfl) H3.out (by simp; omega) ?_; intro v' w5 hP hgrow hat; obtain ⟨A9, n9, cap9, rfl⟩ := PlanAt.form2 hP; have B5 : CAt w5 g ({ c with r := { c.r with pc := p1 }, rough := ro, place := ri }) v := Blk.grown H1.out hgrow (fun e => HN.out e.symm); have l9 : w5.cell? ⟨g, 9, none⟩ = some v := (Blk.cell B5 9).trans rfl; have lf9 := Blk.frozen B5 9; have l17 : w5.cell? ⟨g, 17, none⟩ = some (.bool c.quiet) := (Blk.cell B5 17).trans rfl; have lf17 := Blk.frozen B5 17; have GB := Lib.hid B5; have GP := Lib.hid hP; have GG := Lib.hid hgrow; have GA := Lib.hid hat; clear B5 hP hgrow hat))
    go_end0
    exact TakeRet.set (c' := { c with r := { c.r with pc := p1 }, rough := ro, place := ri }) 17 (.bool true) (fun _ => rfl) (TakeRet.close (W := ((w4.setCell ⟨g, 14, none⟩ (.int .u16 ro)).setCell ⟨g, 15, none⟩ (.int .u16 ri)).alloc (.cells #[.func (.func 55) #[] #[], .func (.func 168) #[] #[]] 103)) H4.out hlt HN.out GB.out GP.out GG.out GA.out)
end Go.Proofs.YtifajfjiloajfaaGreatDoor.OwnCpu

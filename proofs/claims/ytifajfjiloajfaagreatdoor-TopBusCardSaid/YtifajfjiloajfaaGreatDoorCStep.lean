/- A cycle of the processor. Conditions: the processor is a block of its cells, its plan a row of its own, what it holds is in range; nothing is due. -/
import Derived.Test.YtifajfjiloajfaaGreatDoorMWantT
import Derived.Outline
namespace Go.Proofs.YtifajfjiloajfaaGreatDoor.OwnCpu
open Go.RowKit Go.Proofs.YtifajfjiloajfaaGreatDoor.Own Go.Proofs.YtifajfjiloajfaaGreatDoor.OwnEff Go.Proofs.YtifajfjiloajfaaGreatDoor.OwnAddr

theorem cells_latch {c : C} (h : c.latch = false) (x : Value) : (c.cells x).setIfInBounds 20 (.bool false) = c.cells x := by
  obtain ⟨c0, c1, c2, c3, c4, c5, c6, c7, c8, c9, c10, c11, c12, c13, c14, c15, c16⟩ := c
  simp only at h
  subst h
  rfl
theorem cells_was {c : C} (h : c.was = false) (x : Value) : (c.cells x).setIfInBounds 19 (.bool false) = c.cells x := by
  obtain ⟨c0, c1, c2, c3, c4, c5, c6, c7, c8, c9, c10, c11, c12, c13, c14, c15, c16⟩ := c
  simp only at h
  subst h
  rfl
theorem TakeRet.drewN {w w' : World} {g : Nat} {v : Value} {c' : C} {pl : List (Nat × Nat)} {e : Ending} (h : TakeRet w g v c' pl e w') (n : Nat) : TakeRet w g v c' pl e (w'.drewN n) := by
  obtain ⟨h1, v', h2, h3, h4, h5, h6⟩ := h
  exact ⟨h1, v', h2, h3, h4, h5, ⟨h6.os, h6.tape, h6.output, h6.size, h6.block⟩⟩
theorem TakeRet.base {w W w' : World} {g : Nat} {v : Value} {c' : C} {pl : List (Nat × Nat)} {e : Ending} (hk : Kept (fun k => k = g) w W) (h : TakeRet W g v c' pl e w') : TakeRet w g v c' pl e w' :=
  TakeRet.trans (fun _ hb => .inl hb) (hk.mono (fun _ _ h => .inl h)) h
/-- What a cycle's end makes of it. -/
def endS (c : C) (pl : List (Nat × Nat)) (irq : Bool) : C × List (Nat × Nat) :=
  if pl.length = c.at_ then ({ c with at_ := 0, quiet := false }, [(55, 70)])
  else if pl.length = c.at_ + 1 ∧ c.quiet = false then ({ c with due := irq && Go.bits .and .u8 c.r.p 4 == 0 }, pl)
  else (c, pl)
set_option maxHeartbeats 12800000 in
set_option maxRecDepth 100000 in
theorem step_rest (g : Nat) (c : C) (v : Value) (pl : List (Nat × Nat)) (d : Int) (irq : Bool) (w : World) (h : CAt w g c v) (hp : PlanAt w v pl) (hne : v.ownBlock ≠ some g) (hl : pl.length ≤ 900) (ho : c.ok) (hd : By d) (hdue : c.due = false)
    (a : Nat) (ha : a = c.at_) (hk : c.at_ < pl.length) (k1 k2 : Nat) (hk1 : k1 = pl[c.at_].1) (hk2 : k2 = pl[c.at_].2) (hw : k2 ∈ takeIds) (mx : Int) (hm : w.cell? ⟨1, 0, none⟩ = some (.int .i64 mx)) (hg : g ≠ 1)
    (c2 : C) (pl2 : List (Nat × Nat)) (hc2 : c2 = (takeS k2 { c with at_ := a + 1 } pl d).1) (hp2 : pl2 = (takeS k2 { c with at_ := a + 1 } pl d).2) (hla : c2.latch = false) (hwa : c2.was = false) (hdu : c2.due = false) (h2l : pl2.length ≤ 1000) (h2a : c2.at_ ≤ pl2.length) (e0 : pl2.length = c2.at_) :
    Calls Tryz.prog 14 #[.pointer (some ⟨g, 0, none⟩), .int .u8 d, .agg #[.bool irq, .bool false]] w (TakeRet w g v ({ c2 with at_ := 0, quiet := false }) ([(55, 70)])) := by
  obtain ⟨b, cap, hv, hb, hc1, hcc⟩ := hp.spot2 c.at_ hk
  rw [← hk1, ← ha] at hc1
  rw [← hk2, ← ha] at hcc
  have h9 : w.cell? ⟨g, 9, none⟩ = some (.slice (some ⟨b, 0, none⟩) pl.length cap) := by rw [← hv]; exact (Blk.cell h 9).trans rfl
  have h10 : w.cell? ⟨g, 10, none⟩ = some (.int .i64 (a : Int)) := by rw [ha]; exact (Blk.cell h 10).trans rfl
  have f10 := Blk.frozen h 10
  have hlt := Blk.lt h
  have hcf := enter_take k2 hw
  have B1 : CAt (((w.setCell ⟨g, 10, none⟩ (.int .i64 ((a : Int) + 1))).alloc (.cells #[.bool irq, .bool false] 55)).alloc (.cells #[.func (.func k1) #[] #[], .func (.func k2) #[] #[]] 103)).drew g { c with at_ := a + 1 } v := Blk.drew (Blk.alloc (Blk.alloc (Blk.set_ h 10 (.int .i64 ((a : Int) + 1))) _) _)
  have hK1 : Kept (fun k => k = g) w (((w.setCell ⟨g, 10, none⟩ (.int .i64 ((a : Int) + 1))).alloc (.cells #[.bool irq, .bool false] 55)).alloc (.cells #[.func (.func k1) #[] #[], .func (.func k2) #[] #[]] 103)).drew := (((Kept.set g 10 (.int .i64 ((a : Int) + 1)) (S := fun k => k = g) rfl).trans (Kept.alloc _)).trans (Kept.alloc _)).drew
  have hP1 : PlanAt (((w.setCell ⟨g, 10, none⟩ (.int .i64 ((a : Int) + 1))).alloc (.cells #[.bool irq, .bool false] 55)).alloc (.cells #[.func (.func k1) #[] #[], .func (.func k2) #[] #[]] 103)).drew v pl := hp.kept hK1 (fun b hb e => hne (e ▸ hb))
  have hM1 : (((w.setCell ⟨g, 10, none⟩ (.int .i64 ((a : Int) + 1))).alloc (.cells #[.bool irq, .bool false] 55)).alloc (.cells #[.func (.func k1) #[] #[], .func (.func k2) #[] #[]] 103)).drew.cell? ⟨1, 0, none⟩ = some (.int .i64 mx) := (World.cell?_of_block (a := ⟨1, 0, none⟩) (hK1.block 1 (World.block_lt_of_cell? _ _ hm) (fun e => hg e.symm))).trans hm
  have hL1 : Blk (((w.setCell ⟨g, 10, none⟩ (.int .i64 ((a : Int) + 1))).alloc (.cells #[.bool irq, .bool false] 55)).alloc (.cells #[.func (.func k1) #[] #[], .func (.func k2) #[] #[]] 103)).drew w.heap.size 55 #[.bool irq, .bool false] := by
    have q := (Blk.new (w.setCell ⟨g, 10, none⟩ (.int .i64 ((a : Int) + 1))) 55 #[.bool irq, .bool false]).alloc (.cells #[.func (.func k1) #[] #[], .func (.func k2) #[] #[]] 103)
    rw [show (w.setCell ⟨g, 10, none⟩ (.int .i64 ((a : Int) + 1))).heap.size = w.heap.size by simp [World.setCell]] at q
    exact q
  have HT : Hid (Calls Tryz.prog k2 #[.pointer (some ⟨g, 0, none⟩), .int .u8 d] (((w.setCell ⟨g, 10, none⟩ (.int .i64 ((a : Int) + 1))).alloc (.cells #[.bool irq, .bool false] 55)).alloc (.cells #[.func (.func k1) #[] #[], .func (.func k2) #[] #[]] 103)).drew fun e w' => e = .returned (.tuple #[]) ∧ TakeRet w g v c2 pl2 (.returned (.tuple #[])) w' ∧ Blk w' w.heap.size 55 #[.bool irq, .bool false]) := Lib.hid (by
    have q := take_any k2 hw g { c with at_ := a + 1 } v pl d (((w.setCell ⟨g, 10, none⟩ (.int .i64 ((a : Int) + 1))).alloc (.cells #[.bool irq, .bool false] 55)).alloc (.cells #[.func (.func k1) #[] #[], .func (.func k2) #[] #[]] 103)).drew B1 hP1 hne hl ⟨ho.r, ho.low, ho.m, ho.base, ho.rough, ho.place, ho.vector⟩ hd hdue ⟨Nat.succ_le_succ (Nat.zero_le _), by show a + 1 < 1000; omega⟩ mx hM1 hg
    rw [← hc2, ← hp2] at q
    refine q.mono (fun e w' t => ?_)
    have he := t.1
    subst he
    refine ⟨rfl, t.base hK1, ?_⟩
    obtain ⟨_, _, _, _, _, _, k6⟩ := t
    refine k6.blk hL1 (fun s => ?_)
    rcases s with s | s
    · omega
    · have := hp.lt _ s
      omega)
  have hi0 : (0 : Int) ≤ (a : Int) := Int.natCast_nonneg a
  have hi1 : (a : Int) < (pl.length : Int) := by omega
  have hi2 : (pl.length : Int) ≤ 900 := by omega
  clear B1 hK1 hP1 hM1 hL1 h hp hm ho hc2 hp2 hv hk1 hk2 hdue
  obtain ⟨n, hn⟩ : ∃ n, n = pl.length := ⟨_, rfl⟩
  rw [← hn] at h9 hi1 hi2
  clear hn hk ha hl
  go_enter Tryz.func14, Tryz.ntmps14
  go_wp2_with fail
  go_region
  go_upto_region 3 with (fail)
  go_cut [] from 8 to 97 (fun wx => TakeRet w g v c2 pl2 (.returned (.tuple #[])) wx ∧ Blk wx w.heap.size 55 #[.bool irq, .bool false])
  case first =>
    go_wp2_with ((with_reducible refine HT.out.mono ?_); rintro e w3 ⟨rfl, hT, hL⟩; have GT := Lib.hid hT; have GL := Lib.hid hL; clear hT hL)
    go_meet
    exact ⟨GT.out, GL.out⟩
  case rest =>
    obtain ⟨hT, hL⟩ := hcut
    have GT := Lib.hid hT
    obtain ⟨_, v2, hC, hP, _⟩ := hT
    obtain ⟨A2, cap2, hv2⟩ := hP.form
    have l0 : wc.cell? ⟨w.heap.size, 0, none⟩ = some (.bool irq) := (Blk.cell hL 0).trans rfl
    have l1 : wc.cell? ⟨w.heap.size, 1, none⟩ = some (.bool false) := (Blk.cell hL 1).trans rfl
    have j4 : wc.cell? ⟨g, 4, none⟩ = some (.int .u8 c2.r.p) := (Blk.cell hC 4).trans rfl
    have j9 : wc.cell? ⟨g, 9, none⟩ = some (.slice A2 pl2.length cap2) := by rw [← hv2]; exact (Blk.cell hC 9).trans rfl
    have j10 : wc.cell? ⟨g, 10, none⟩ = some (.int .i64 (c2.at_ : Int)) := (Blk.cell hC 10).trans rfl
    have j17 : wc.cell? ⟨g, 17, none⟩ = some (.bool c2.quiet) := (Blk.cell hC 17).trans rfl
    have j19 : wc.cell? ⟨g, 19, none⟩ = some (.bool false) := by rw [← hwa]; exact (Blk.cell hC 19).trans rfl
    have j20 : wc.cell? ⟨g, 20, none⟩ = some (.bool false) := by rw [← hla]; exact (Blk.cell hC 20).trans rfl
    have j21 : wc.cell? ⟨g, 21, none⟩ = some (.bool false) := by rw [← hdu]; exact (Blk.cell hC 21).trans rfl
    have jf19 := Blk.frozen hC 19
    have jf20 := Blk.frozen hC 20
    have jf21 := Blk.frozen hC 21
    have GC := Lib.hid hC
    have HN2 : Hid (TakeRet w g v c2 pl2 (.returned (.tuple #[])) ((wc.setCell ⟨g, 20, none⟩ (.bool false)).setCell ⟨g, 19, none⟩ (.bool false))) := Lib.hid (TakeRet.set (c' := c2) (c2 := c2) 19 (.bool false) (cells_was hwa) (TakeRet.set (c' := c2) (c2 := c2) 20 (.bool false) (cells_latch hla) GT.out))
    have hgl : g ≠ w.heap.size := by omega
    clear hL hC hP hv2 HT hcf h9 h10 f10 hc1 hcc
    obtain ⟨n2, hn2⟩ : ∃ n, n = pl2.length := ⟨_, rfl⟩
    obtain ⟨a2, ha2⟩ : ∃ n, n = c2.at_ := ⟨_, rfl⟩
    rw [← hn2, ← ha2] at e0
    rw [← hn2] at j9 h2l h2a
    rw [← ha2] at j10 h2a
    have HR : Hid (∀ n, Calls Tryz.prog 43 #[.pointer (some ⟨g, 0, none⟩)] (((wc.setCell ⟨g, 20, none⟩ (.bool false)).setCell ⟨g, 19, none⟩ (.bool false)).drewN n) fun e w' => e = .returned (.tuple #[]) ∧ TakeRet w g v { c2 with at_ := 0, quiet := false } [(55, 70)] (.returned (.tuple #[])) w') := Lib.hid (fun n => by
      obtain ⟨_, v3, q2, _, _, q5, q6⟩ := HN2.out.drewN n
      refine (rest_any g c2 v3 _ q2).mono (fun e w' t => ?_)
      have he := t.1
      subst he
      exact ⟨rfl, TakeRet.trans q5 q6 t⟩)
    have z0 : ((n2 : Int) - (a2 : Int) == 0) = true := by simp; omega
    clear hn2 ha2 e0
    go_wp2_with fail
    go_quiet (fail)
    go_wp2_with (go_at_call 43; refine (HR.out _).mono ?_; rintro e w3 ⟨rfl, hT⟩; have GR := Lib.hid hT; clear hT)
    go_end0
    exact GR.out
set_option maxHeartbeats 12800000 in
set_option maxRecDepth 100000 in
theorem step_due_true (g : Nat) (c : C) (v : Value) (pl : List (Nat × Nat)) (d : Int) (irq : Bool) (w : World) (h : CAt w g c v) (hp : PlanAt w v pl) (hne : v.ownBlock ≠ some g) (hl : pl.length ≤ 900) (ho : c.ok) (hd : By d) (hdue : c.due = false)
    (a : Nat) (ha : a = c.at_) (hk : c.at_ < pl.length) (k1 k2 : Nat) (hk1 : k1 = pl[c.at_].1) (hk2 : k2 = pl[c.at_].2) (hw : k2 ∈ takeIds) (mx : Int) (hm : w.cell? ⟨1, 0, none⟩ = some (.int .i64 mx)) (hg : g ≠ 1)
    (c2 : C) (pl2 : List (Nat × Nat)) (hc2 : c2 = (takeS k2 { c with at_ := a + 1 } pl d).1) (hp2 : pl2 = (takeS k2 { c with at_ := a + 1 } pl d).2) (hla : c2.latch = false) (hwa : c2.was = false) (hdu : c2.due = false) (h2l : pl2.length ≤ 1000) (h2a : c2.at_ ≤ pl2.length) (e0 : pl2.length = c2.at_ + 1) (hq : c2.quiet = false) (hirq : Hid (irq = true)) :
    Calls Tryz.prog 14 #[.pointer (some ⟨g, 0, none⟩), .int .u8 d, .agg #[.bool irq, .bool false]] w (TakeRet w g v ({ c2 with due := Go.bits .and .u8 c2.r.p 4 == 0 }) (pl2)) := by
  obtain ⟨b, cap, hv, hb, hc1, hcc⟩ := hp.spot2 c.at_ hk
  rw [← hk1, ← ha] at hc1
  rw [← hk2, ← ha] at hcc
  have h9 : w.cell? ⟨g, 9, none⟩ = some (.slice (some ⟨b, 0, none⟩) pl.length cap) := by rw [← hv]; exact (Blk.cell h 9).trans rfl
  have h10 : w.cell? ⟨g, 10, none⟩ = some (.int .i64 (a : Int)) := by rw [ha]; exact (Blk.cell h 10).trans rfl
  have f10 := Blk.frozen h 10
  have hlt := Blk.lt h
  have hcf := enter_take k2 hw
  have B1 : CAt (((w.setCell ⟨g, 10, none⟩ (.int .i64 ((a : Int) + 1))).alloc (.cells #[.bool irq, .bool false] 55)).alloc (.cells #[.func (.func k1) #[] #[], .func (.func k2) #[] #[]] 103)).drew g { c with at_ := a + 1 } v := Blk.drew (Blk.alloc (Blk.alloc (Blk.set_ h 10 (.int .i64 ((a : Int) + 1))) _) _)
  have hK1 : Kept (fun k => k = g) w (((w.setCell ⟨g, 10, none⟩ (.int .i64 ((a : Int) + 1))).alloc (.cells #[.bool irq, .bool false] 55)).alloc (.cells #[.func (.func k1) #[] #[], .func (.func k2) #[] #[]] 103)).drew := (((Kept.set g 10 (.int .i64 ((a : Int) + 1)) (S := fun k => k = g) rfl).trans (Kept.alloc _)).trans (Kept.alloc _)).drew
  have hP1 : PlanAt (((w.setCell ⟨g, 10, none⟩ (.int .i64 ((a : Int) + 1))).alloc (.cells #[.bool irq, .bool false] 55)).alloc (.cells #[.func (.func k1) #[] #[], .func (.func k2) #[] #[]] 103)).drew v pl := hp.kept hK1 (fun b hb e => hne (e ▸ hb))
  have hM1 : (((w.setCell ⟨g, 10, none⟩ (.int .i64 ((a : Int) + 1))).alloc (.cells #[.bool irq, .bool false] 55)).alloc (.cells #[.func (.func k1) #[] #[], .func (.func k2) #[] #[]] 103)).drew.cell? ⟨1, 0, none⟩ = some (.int .i64 mx) := (World.cell?_of_block (a := ⟨1, 0, none⟩) (hK1.block 1 (World.block_lt_of_cell? _ _ hm) (fun e => hg e.symm))).trans hm
  have hL1 : Blk (((w.setCell ⟨g, 10, none⟩ (.int .i64 ((a : Int) + 1))).alloc (.cells #[.bool irq, .bool false] 55)).alloc (.cells #[.func (.func k1) #[] #[], .func (.func k2) #[] #[]] 103)).drew w.heap.size 55 #[.bool irq, .bool false] := by
    have q := (Blk.new (w.setCell ⟨g, 10, none⟩ (.int .i64 ((a : Int) + 1))) 55 #[.bool irq, .bool false]).alloc (.cells #[.func (.func k1) #[] #[], .func (.func k2) #[] #[]] 103)
    rw [show (w.setCell ⟨g, 10, none⟩ (.int .i64 ((a : Int) + 1))).heap.size = w.heap.size by simp [World.setCell]] at q
    exact q
  have HT : Hid (Calls Tryz.prog k2 #[.pointer (some ⟨g, 0, none⟩), .int .u8 d] (((w.setCell ⟨g, 10, none⟩ (.int .i64 ((a : Int) + 1))).alloc (.cells #[.bool irq, .bool false] 55)).alloc (.cells #[.func (.func k1) #[] #[], .func (.func k2) #[] #[]] 103)).drew fun e w' => e = .returned (.tuple #[]) ∧ TakeRet w g v c2 pl2 (.returned (.tuple #[])) w' ∧ Blk w' w.heap.size 55 #[.bool irq, .bool false]) := Lib.hid (by
    have q := take_any k2 hw g { c with at_ := a + 1 } v pl d (((w.setCell ⟨g, 10, none⟩ (.int .i64 ((a : Int) + 1))).alloc (.cells #[.bool irq, .bool false] 55)).alloc (.cells #[.func (.func k1) #[] #[], .func (.func k2) #[] #[]] 103)).drew B1 hP1 hne hl ⟨ho.r, ho.low, ho.m, ho.base, ho.rough, ho.place, ho.vector⟩ hd hdue ⟨Nat.succ_le_succ (Nat.zero_le _), by show a + 1 < 1000; omega⟩ mx hM1 hg
    rw [← hc2, ← hp2] at q
    refine q.mono (fun e w' t => ?_)
    have he := t.1
    subst he
    refine ⟨rfl, t.base hK1, ?_⟩
    obtain ⟨_, _, _, _, _, _, k6⟩ := t
    refine k6.blk hL1 (fun s => ?_)
    rcases s with s | s
    · omega
    · have := hp.lt _ s
      omega)
  have hi0 : (0 : Int) ≤ (a : Int) := Int.natCast_nonneg a
  have hi1 : (a : Int) < (pl.length : Int) := by omega
  have hi2 : (pl.length : Int) ≤ 900 := by omega
  clear B1 hK1 hP1 hM1 hL1 h hp hm ho hc2 hp2 hv hk1 hk2 hdue
  obtain ⟨n, hn⟩ : ∃ n, n = pl.length := ⟨_, rfl⟩
  rw [← hn] at h9 hi1 hi2
  clear hn hk ha hl
  go_enter Tryz.func14, Tryz.ntmps14
  go_wp2_with fail
  go_region
  go_upto_region 3 with (fail)
  go_cut [] from 8 to 97 (fun wx => TakeRet w g v c2 pl2 (.returned (.tuple #[])) wx ∧ Blk wx w.heap.size 55 #[.bool irq, .bool false])
  case first =>
    go_wp2_with ((with_reducible refine HT.out.mono ?_); rintro e w3 ⟨rfl, hT, hL⟩; have GT := Lib.hid hT; have GL := Lib.hid hL; clear hT hL)
    go_meet
    exact ⟨GT.out, GL.out⟩
  case rest =>
    obtain ⟨hT, hL⟩ := hcut
    have GT := Lib.hid hT
    obtain ⟨_, v2, hC, hP, _⟩ := hT
    obtain ⟨A2, cap2, hv2⟩ := hP.form
    have l0 : wc.cell? ⟨w.heap.size, 0, none⟩ = some (.bool irq) := (Blk.cell hL 0).trans rfl
    have l1 : wc.cell? ⟨w.heap.size, 1, none⟩ = some (.bool false) := (Blk.cell hL 1).trans rfl
    have j4 : wc.cell? ⟨g, 4, none⟩ = some (.int .u8 c2.r.p) := (Blk.cell hC 4).trans rfl
    have j9 : wc.cell? ⟨g, 9, none⟩ = some (.slice A2 pl2.length cap2) := by rw [← hv2]; exact (Blk.cell hC 9).trans rfl
    have j10 : wc.cell? ⟨g, 10, none⟩ = some (.int .i64 (c2.at_ : Int)) := (Blk.cell hC 10).trans rfl
    have j17 : wc.cell? ⟨g, 17, none⟩ = some (.bool c2.quiet) := (Blk.cell hC 17).trans rfl
    have j19 : wc.cell? ⟨g, 19, none⟩ = some (.bool false) := by rw [← hwa]; exact (Blk.cell hC 19).trans rfl
    have j20 : wc.cell? ⟨g, 20, none⟩ = some (.bool false) := by rw [← hla]; exact (Blk.cell hC 20).trans rfl
    have j21 : wc.cell? ⟨g, 21, none⟩ = some (.bool false) := by rw [← hdu]; exact (Blk.cell hC 21).trans rfl
    have jf19 := Blk.frozen hC 19
    have jf20 := Blk.frozen hC 20
    have jf21 := Blk.frozen hC 21
    have GC := Lib.hid hC
    have HN2 : Hid (TakeRet w g v c2 pl2 (.returned (.tuple #[])) ((wc.setCell ⟨g, 20, none⟩ (.bool false)).setCell ⟨g, 19, none⟩ (.bool false))) := Lib.hid (TakeRet.set (c' := c2) (c2 := c2) 19 (.bool false) (cells_was hwa) (TakeRet.set (c' := c2) (c2 := c2) 20 (.bool false) (cells_latch hla) GT.out))
    have hgl : g ≠ w.heap.size := by omega
    clear hL hC hP hv2 HT hcf h9 h10 f10 hc1 hcc
    obtain ⟨n2, hn2⟩ : ∃ n, n = pl2.length := ⟨_, rfl⟩
    obtain ⟨a2, ha2⟩ : ∃ n, n = c2.at_ := ⟨_, rfl⟩
    rw [← hn2, ← ha2] at e0
    rw [← hn2] at j9 h2l h2a
    rw [← ha2] at j10 h2a
    have hi := hirq.out
    subst hi
    rw [hq] at j17
    have z0 : ((n2 : Int) - (a2 : Int) == 0) = false := by simp; omega
    have z1 : ((n2 : Int) - (a2 : Int) == 1) = true := by simp; omega
    clear hn2 ha2 e0
    go_wp2_with fail
    go_quiet (fail)
    go_wp2
    go_end0
    exact TakeRet.set (c' := c2) (c2 := { c2 with due := Go.bits .and .u8 c2.r.p 4 == 0 }) 21 (.bool (Go.bits .and .u8 c2.r.p 4 == 0)) (fun _ => rfl) (HN2.out.drewN _)
set_option maxHeartbeats 12800000 in
set_option maxRecDepth 100000 in
theorem step_due_false (g : Nat) (c : C) (v : Value) (pl : List (Nat × Nat)) (d : Int) (irq : Bool) (w : World) (h : CAt w g c v) (hp : PlanAt w v pl) (hne : v.ownBlock ≠ some g) (hl : pl.length ≤ 900) (ho : c.ok) (hd : By d) (hdue : c.due = false)
    (a : Nat) (ha : a = c.at_) (hk : c.at_ < pl.length) (k1 k2 : Nat) (hk1 : k1 = pl[c.at_].1) (hk2 : k2 = pl[c.at_].2) (hw : k2 ∈ takeIds) (mx : Int) (hm : w.cell? ⟨1, 0, none⟩ = some (.int .i64 mx)) (hg : g ≠ 1)
    (c2 : C) (pl2 : List (Nat × Nat)) (hc2 : c2 = (takeS k2 { c with at_ := a + 1 } pl d).1) (hp2 : pl2 = (takeS k2 { c with at_ := a + 1 } pl d).2) (hla : c2.latch = false) (hwa : c2.was = false) (hdu : c2.due = false) (h2l : pl2.length ≤ 1000) (h2a : c2.at_ ≤ pl2.length) (e0 : pl2.length = c2.at_ + 1) (hq : c2.quiet = false) (hirq : Hid (irq = false)) :
    Calls Tryz.prog 14 #[.pointer (some ⟨g, 0, none⟩), .int .u8 d, .agg #[.bool irq, .bool false]] w (TakeRet w g v ({ c2 with due := false }) (pl2)) := by
  obtain ⟨b, cap, hv, hb, hc1, hcc⟩ := hp.spot2 c.at_ hk
  rw [← hk1, ← ha] at hc1
  rw [← hk2, ← ha] at hcc
  have h9 : w.cell? ⟨g, 9, none⟩ = some (.slice (some ⟨b, 0, none⟩) pl.length cap) := by rw [← hv]; exact (Blk.cell h 9).trans rfl
  have h10 : w.cell? ⟨g, 10, none⟩ = some (.int .i64 (a : Int)) := by rw [ha]; exact (Blk.cell h 10).trans rfl
  have f10 := Blk.frozen h 10
  have hlt := Blk.lt h
  have hcf := enter_take k2 hw
  have B1 : CAt (((w.setCell ⟨g, 10, none⟩ (.int .i64 ((a : Int) + 1))).alloc (.cells #[.bool irq, .bool false] 55)).alloc (.cells #[.func (.func k1) #[] #[], .func (.func k2) #[] #[]] 103)).drew g { c with at_ := a + 1 } v := Blk.drew (Blk.alloc (Blk.alloc (Blk.set_ h 10 (.int .i64 ((a : Int) + 1))) _) _)
  have hK1 : Kept (fun k => k = g) w (((w.setCell ⟨g, 10, none⟩ (.int .i64 ((a : Int) + 1))).alloc (.cells #[.bool irq, .bool false] 55)).alloc (.cells #[.func (.func k1) #[] #[], .func (.func k2) #[] #[]] 103)).drew := (((Kept.set g 10 (.int .i64 ((a : Int) + 1)) (S := fun k => k = g) rfl).trans (Kept.alloc _)).trans (Kept.alloc _)).drew
  have hP1 : PlanAt (((w.setCell ⟨g, 10, none⟩ (.int .i64 ((a : Int) + 1))).alloc (.cells #[.bool irq, .bool false] 55)).alloc (.cells #[.func (.func k1) #[] #[], .func (.func k2) #[] #[]] 103)).drew v pl := hp.kept hK1 (fun b hb e => hne (e ▸ hb))
  have hM1 : (((w.setCell ⟨g, 10, none⟩ (.int .i64 ((a : Int) + 1))).alloc (.cells #[.bool irq, .bool false] 55)).alloc (.cells #[.func (.func k1) #[] #[], .func (.func k2) #[] #[]] 103)).drew.cell? ⟨1, 0, none⟩ = some (.int .i64 mx) := (World.cell?_of_block (a := ⟨1, 0, none⟩) (hK1.block 1 (World.block_lt_of_cell? _ _ hm) (fun e => hg e.symm))).trans hm
  have hL1 : Blk (((w.setCell ⟨g, 10, none⟩ (.int .i64 ((a : Int) + 1))).alloc (.cells #[.bool irq, .bool false] 55)).alloc (.cells #[.func (.func k1) #[] #[], .func (.func k2) #[] #[]] 103)).drew w.heap.size 55 #[.bool irq, .bool false] := by
    have q := (Blk.new (w.setCell ⟨g, 10, none⟩ (.int .i64 ((a : Int) + 1))) 55 #[.bool irq, .bool false]).alloc (.cells #[.func (.func k1) #[] #[], .func (.func k2) #[] #[]] 103)
    rw [show (w.setCell ⟨g, 10, none⟩ (.int .i64 ((a : Int) + 1))).heap.size = w.heap.size by simp [World.setCell]] at q
    exact q
  have HT : Hid (Calls Tryz.prog k2 #[.pointer (some ⟨g, 0, none⟩), .int .u8 d] (((w.setCell ⟨g, 10, none⟩ (.int .i64 ((a : Int) + 1))).alloc (.cells #[.bool irq, .bool false] 55)).alloc (.cells #[.func (.func k1) #[] #[], .func (.func k2) #[] #[]] 103)).drew fun e w' => e = .returned (.tuple #[]) ∧ TakeRet w g v c2 pl2 (.returned (.tuple #[])) w' ∧ Blk w' w.heap.size 55 #[.bool irq, .bool false]) := Lib.hid (by
    have q := take_any k2 hw g { c with at_ := a + 1 } v pl d (((w.setCell ⟨g, 10, none⟩ (.int .i64 ((a : Int) + 1))).alloc (.cells #[.bool irq, .bool false] 55)).alloc (.cells #[.func (.func k1) #[] #[], .func (.func k2) #[] #[]] 103)).drew B1 hP1 hne hl ⟨ho.r, ho.low, ho.m, ho.base, ho.rough, ho.place, ho.vector⟩ hd hdue ⟨Nat.succ_le_succ (Nat.zero_le _), by show a + 1 < 1000; omega⟩ mx hM1 hg
    rw [← hc2, ← hp2] at q
    refine q.mono (fun e w' t => ?_)
    have he := t.1
    subst he
    refine ⟨rfl, t.base hK1, ?_⟩
    obtain ⟨_, _, _, _, _, _, k6⟩ := t
    refine k6.blk hL1 (fun s => ?_)
    rcases s with s | s
    · omega
    · have := hp.lt _ s
      omega)
  have hi0 : (0 : Int) ≤ (a : Int) := Int.natCast_nonneg a
  have hi1 : (a : Int) < (pl.length : Int) := by omega
  have hi2 : (pl.length : Int) ≤ 900 := by omega
  clear B1 hK1 hP1 hM1 hL1 h hp hm ho hc2 hp2 hv hk1 hk2 hdue
  obtain ⟨n, hn⟩ : ∃ n, n = pl.length := ⟨_, rfl⟩
  rw [← hn] at h9 hi1 hi2
  clear hn hk ha hl
  go_enter Tryz.func14, Tryz.ntmps14
  go_wp2_with fail
  go_region
  go_upto_region 3 with (fail)
  go_cut [] from 8 to 97 (fun wx => TakeRet w g v c2 pl2 (.returned (.tuple #[])) wx ∧ Blk wx w.heap.size 55 #[.bool irq, .bool false])
  case first =>
    go_wp2_with ((with_reducible refine HT.out.mono ?_); rintro e w3 ⟨rfl, hT, hL⟩; have GT := Lib.hid hT; have GL := Lib.hid hL; clear hT hL)
    go_meet
    exact ⟨GT.out, GL.out⟩
  case rest =>
    obtain ⟨hT, hL⟩ := hcut
    have GT := Lib.hid hT
    obtain ⟨_, v2, hC, hP, _⟩ := hT
    obtain ⟨A2, cap2, hv2⟩ := hP.form
    have l0 : wc.cell? ⟨w.heap.size, 0, none⟩ = some (.bool irq) := (Blk.cell hL 0).trans rfl
    have l1 : wc.cell? ⟨w.heap.size, 1, none⟩ = some (.bool false) := (Blk.cell hL 1).trans rfl
    have j4 : wc.cell? ⟨g, 4, none⟩ = some (.int .u8 c2.r.p) := (Blk.cell hC 4).trans rfl
    have j9 : wc.cell? ⟨g, 9, none⟩ = some (.slice A2 pl2.length cap2) := by rw [← hv2]; exact (Blk.cell hC 9).trans rfl
    have j10 : wc.cell? ⟨g, 10, none⟩ = some (.int .i64 (c2.at_ : Int)) := (Blk.cell hC 10).trans rfl
    have j17 : wc.cell? ⟨g, 17, none⟩ = some (.bool c2.quiet) := (Blk.cell hC 17).trans rfl
    have j19 : wc.cell? ⟨g, 19, none⟩ = some (.bool false) := by rw [← hwa]; exact (Blk.cell hC 19).trans rfl
    have j20 : wc.cell? ⟨g, 20, none⟩ = some (.bool false) := by rw [← hla]; exact (Blk.cell hC 20).trans rfl
    have j21 : wc.cell? ⟨g, 21, none⟩ = some (.bool false) := by rw [← hdu]; exact (Blk.cell hC 21).trans rfl
    have jf19 := Blk.frozen hC 19
    have jf20 := Blk.frozen hC 20
    have jf21 := Blk.frozen hC 21
    have GC := Lib.hid hC
    have HN2 : Hid (TakeRet w g v c2 pl2 (.returned (.tuple #[])) ((wc.setCell ⟨g, 20, none⟩ (.bool false)).setCell ⟨g, 19, none⟩ (.bool false))) := Lib.hid (TakeRet.set (c' := c2) (c2 := c2) 19 (.bool false) (cells_was hwa) (TakeRet.set (c' := c2) (c2 := c2) 20 (.bool false) (cells_latch hla) GT.out))
    have hgl : g ≠ w.heap.size := by omega
    clear hL hC hP hv2 HT hcf h9 h10 f10 hc1 hcc
    obtain ⟨n2, hn2⟩ : ∃ n, n = pl2.length := ⟨_, rfl⟩
    obtain ⟨a2, ha2⟩ : ∃ n, n = c2.at_ := ⟨_, rfl⟩
    rw [← hn2, ← ha2] at e0
    rw [← hn2] at j9 h2l h2a
    rw [← ha2] at j10 h2a
    have hi := hirq.out
    subst hi
    rw [hq] at j17
    have z0 : ((n2 : Int) - (a2 : Int) == 0) = false := by simp; omega
    have z1 : ((n2 : Int) - (a2 : Int) == 1) = true := by simp; omega
    clear hn2 ha2 e0
    go_wp2_with fail
    go_quiet (fail)
    go_wp2
    go_end0
    exact TakeRet.set (c' := c2) (c2 := { c2 with due := false }) 21 (.bool (false)) (fun _ => rfl) (HN2.out.drewN _)
set_option maxHeartbeats 12800000 in
set_option maxRecDepth 100000 in
theorem step_quiet (g : Nat) (c : C) (v : Value) (pl : List (Nat × Nat)) (d : Int) (irq : Bool) (w : World) (h : CAt w g c v) (hp : PlanAt w v pl) (hne : v.ownBlock ≠ some g) (hl : pl.length ≤ 900) (ho : c.ok) (hd : By d) (hdue : c.due = false)
    (a : Nat) (ha : a = c.at_) (hk : c.at_ < pl.length) (k1 k2 : Nat) (hk1 : k1 = pl[c.at_].1) (hk2 : k2 = pl[c.at_].2) (hw : k2 ∈ takeIds) (mx : Int) (hm : w.cell? ⟨1, 0, none⟩ = some (.int .i64 mx)) (hg : g ≠ 1)
    (c2 : C) (pl2 : List (Nat × Nat)) (hc2 : c2 = (takeS k2 { c with at_ := a + 1 } pl d).1) (hp2 : pl2 = (takeS k2 { c with at_ := a + 1 } pl d).2) (hla : c2.latch = false) (hwa : c2.was = false) (hdu : c2.due = false) (h2l : pl2.length ≤ 1000) (h2a : c2.at_ ≤ pl2.length) (e0 : pl2.length = c2.at_ + 1) (hq : c2.quiet = true) :
    Calls Tryz.prog 14 #[.pointer (some ⟨g, 0, none⟩), .int .u8 d, .agg #[.bool irq, .bool false]] w (TakeRet w g v (c2) (pl2)) := by
  obtain ⟨b, cap, hv, hb, hc1, hcc⟩ := hp.spot2 c.at_ hk
  rw [← hk1, ← ha] at hc1
  rw [← hk2, ← ha] at hcc
  have h9 : w.cell? ⟨g, 9, none⟩ = some (.slice (some ⟨b, 0, none⟩) pl.length cap) := by rw [← hv]; exact (Blk.cell h 9).trans rfl
  have h10 : w.cell? ⟨g, 10, none⟩ = some (.int .i64 (a : Int)) := by rw [ha]; exact (Blk.cell h 10).trans rfl
  have f10 := Blk.frozen h 10
  have hlt := Blk.lt h
  have hcf := enter_take k2 hw
  have B1 : CAt (((w.setCell ⟨g, 10, none⟩ (.int .i64 ((a : Int) + 1))).alloc (.cells #[.bool irq, .bool false] 55)).alloc (.cells #[.func (.func k1) #[] #[], .func (.func k2) #[] #[]] 103)).drew g { c with at_ := a + 1 } v := Blk.drew (Blk.alloc (Blk.alloc (Blk.set_ h 10 (.int .i64 ((a : Int) + 1))) _) _)
  have hK1 : Kept (fun k => k = g) w (((w.setCell ⟨g, 10, none⟩ (.int .i64 ((a : Int) + 1))).alloc (.cells #[.bool irq, .bool false] 55)).alloc (.cells #[.func (.func k1) #[] #[], .func (.func k2) #[] #[]] 103)).drew := (((Kept.set g 10 (.int .i64 ((a : Int) + 1)) (S := fun k => k = g) rfl).trans (Kept.alloc _)).trans (Kept.alloc _)).drew
  have hP1 : PlanAt (((w.setCell ⟨g, 10, none⟩ (.int .i64 ((a : Int) + 1))).alloc (.cells #[.bool irq, .bool false] 55)).alloc (.cells #[.func (.func k1) #[] #[], .func (.func k2) #[] #[]] 103)).drew v pl := hp.kept hK1 (fun b hb e => hne (e ▸ hb))
  have hM1 : (((w.setCell ⟨g, 10, none⟩ (.int .i64 ((a : Int) + 1))).alloc (.cells #[.bool irq, .bool false] 55)).alloc (.cells #[.func (.func k1) #[] #[], .func (.func k2) #[] #[]] 103)).drew.cell? ⟨1, 0, none⟩ = some (.int .i64 mx) := (World.cell?_of_block (a := ⟨1, 0, none⟩) (hK1.block 1 (World.block_lt_of_cell? _ _ hm) (fun e => hg e.symm))).trans hm
  have hL1 : Blk (((w.setCell ⟨g, 10, none⟩ (.int .i64 ((a : Int) + 1))).alloc (.cells #[.bool irq, .bool false] 55)).alloc (.cells #[.func (.func k1) #[] #[], .func (.func k2) #[] #[]] 103)).drew w.heap.size 55 #[.bool irq, .bool false] := by
    have q := (Blk.new (w.setCell ⟨g, 10, none⟩ (.int .i64 ((a : Int) + 1))) 55 #[.bool irq, .bool false]).alloc (.cells #[.func (.func k1) #[] #[], .func (.func k2) #[] #[]] 103)
    rw [show (w.setCell ⟨g, 10, none⟩ (.int .i64 ((a : Int) + 1))).heap.size = w.heap.size by simp [World.setCell]] at q
    exact q
  have HT : Hid (Calls Tryz.prog k2 #[.pointer (some ⟨g, 0, none⟩), .int .u8 d] (((w.setCell ⟨g, 10, none⟩ (.int .i64 ((a : Int) + 1))).alloc (.cells #[.bool irq, .bool false] 55)).alloc (.cells #[.func (.func k1) #[] #[], .func (.func k2) #[] #[]] 103)).drew fun e w' => e = .returned (.tuple #[]) ∧ TakeRet w g v c2 pl2 (.returned (.tuple #[])) w' ∧ Blk w' w.heap.size 55 #[.bool irq, .bool false]) := Lib.hid (by
    have q := take_any k2 hw g { c with at_ := a + 1 } v pl d (((w.setCell ⟨g, 10, none⟩ (.int .i64 ((a : Int) + 1))).alloc (.cells #[.bool irq, .bool false] 55)).alloc (.cells #[.func (.func k1) #[] #[], .func (.func k2) #[] #[]] 103)).drew B1 hP1 hne hl ⟨ho.r, ho.low, ho.m, ho.base, ho.rough, ho.place, ho.vector⟩ hd hdue ⟨Nat.succ_le_succ (Nat.zero_le _), by show a + 1 < 1000; omega⟩ mx hM1 hg
    rw [← hc2, ← hp2] at q
    refine q.mono (fun e w' t => ?_)
    have he := t.1
    subst he
    refine ⟨rfl, t.base hK1, ?_⟩
    obtain ⟨_, _, _, _, _, _, k6⟩ := t
    refine k6.blk hL1 (fun s => ?_)
    rcases s with s | s
    · omega
    · have := hp.lt _ s
      omega)
  have hi0 : (0 : Int) ≤ (a : Int) := Int.natCast_nonneg a
  have hi1 : (a : Int) < (pl.length : Int) := by omega
  have hi2 : (pl.length : Int) ≤ 900 := by omega
  clear B1 hK1 hP1 hM1 hL1 h hp hm ho hc2 hp2 hv hk1 hk2 hdue
  obtain ⟨n, hn⟩ : ∃ n, n = pl.length := ⟨_, rfl⟩
  rw [← hn] at h9 hi1 hi2
  clear hn hk ha hl
  go_enter Tryz.func14, Tryz.ntmps14
  go_wp2_with fail
  go_region
  go_upto_region 3 with (fail)
  go_cut [] from 8 to 97 (fun wx => TakeRet w g v c2 pl2 (.returned (.tuple #[])) wx ∧ Blk wx w.heap.size 55 #[.bool irq, .bool false])
  case first =>
    go_wp2_with ((with_reducible refine HT.out.mono ?_); rintro e w3 ⟨rfl, hT, hL⟩; have GT := Lib.hid hT; have GL := Lib.hid hL; clear hT hL)
    go_meet
    exact ⟨GT.out, GL.out⟩
  case rest =>
    obtain ⟨hT, hL⟩ := hcut
    have GT := Lib.hid hT
    obtain ⟨_, v2, hC, hP, _⟩ := hT
    obtain ⟨A2, cap2, hv2⟩ := hP.form
    have l0 : wc.cell? ⟨w.heap.size, 0, none⟩ = some (.bool irq) := (Blk.cell hL 0).trans rfl
    have l1 : wc.cell? ⟨w.heap.size, 1, none⟩ = some (.bool false) := (Blk.cell hL 1).trans rfl
    have j4 : wc.cell? ⟨g, 4, none⟩ = some (.int .u8 c2.r.p) := (Blk.cell hC 4).trans rfl
    have j9 : wc.cell? ⟨g, 9, none⟩ = some (.slice A2 pl2.length cap2) := by rw [← hv2]; exact (Blk.cell hC 9).trans rfl
    have j10 : wc.cell? ⟨g, 10, none⟩ = some (.int .i64 (c2.at_ : Int)) := (Blk.cell hC 10).trans rfl
    have j17 : wc.cell? ⟨g, 17, none⟩ = some (.bool c2.quiet) := (Blk.cell hC 17).trans rfl
    have j19 : wc.cell? ⟨g, 19, none⟩ = some (.bool false) := by rw [← hwa]; exact (Blk.cell hC 19).trans rfl
    have j20 : wc.cell? ⟨g, 20, none⟩ = some (.bool false) := by rw [← hla]; exact (Blk.cell hC 20).trans rfl
    have j21 : wc.cell? ⟨g, 21, none⟩ = some (.bool false) := by rw [← hdu]; exact (Blk.cell hC 21).trans rfl
    have jf19 := Blk.frozen hC 19
    have jf20 := Blk.frozen hC 20
    have jf21 := Blk.frozen hC 21
    have GC := Lib.hid hC
    have HN2 : Hid (TakeRet w g v c2 pl2 (.returned (.tuple #[])) ((wc.setCell ⟨g, 20, none⟩ (.bool false)).setCell ⟨g, 19, none⟩ (.bool false))) := Lib.hid (TakeRet.set (c' := c2) (c2 := c2) 19 (.bool false) (cells_was hwa) (TakeRet.set (c' := c2) (c2 := c2) 20 (.bool false) (cells_latch hla) GT.out))
    have hgl : g ≠ w.heap.size := by omega
    clear hL hC hP hv2 HT hcf h9 h10 f10 hc1 hcc
    obtain ⟨n2, hn2⟩ : ∃ n, n = pl2.length := ⟨_, rfl⟩
    obtain ⟨a2, ha2⟩ : ∃ n, n = c2.at_ := ⟨_, rfl⟩
    rw [← hn2, ← ha2] at e0
    rw [← hn2] at j9 h2l h2a
    rw [← ha2] at j10 h2a
    rw [hq] at j17
    have z0 : ((n2 : Int) - (a2 : Int) == 0) = false := by simp; omega
    have z1 : ((n2 : Int) - (a2 : Int) == 1) = true := by simp; omega
    clear hn2 ha2 e0
    go_wp2_with fail
    go_quiet (fail)
    go_wp2
    go_end0
    exact HN2.out.drewN _
set_option maxHeartbeats 12800000 in
set_option maxRecDepth 100000 in
theorem step_more (g : Nat) (c : C) (v : Value) (pl : List (Nat × Nat)) (d : Int) (irq : Bool) (w : World) (h : CAt w g c v) (hp : PlanAt w v pl) (hne : v.ownBlock ≠ some g) (hl : pl.length ≤ 900) (ho : c.ok) (hd : By d) (hdue : c.due = false)
    (a : Nat) (ha : a = c.at_) (hk : c.at_ < pl.length) (k1 k2 : Nat) (hk1 : k1 = pl[c.at_].1) (hk2 : k2 = pl[c.at_].2) (hw : k2 ∈ takeIds) (mx : Int) (hm : w.cell? ⟨1, 0, none⟩ = some (.int .i64 mx)) (hg : g ≠ 1)
    (c2 : C) (pl2 : List (Nat × Nat)) (hc2 : c2 = (takeS k2 { c with at_ := a + 1 } pl d).1) (hp2 : pl2 = (takeS k2 { c with at_ := a + 1 } pl d).2) (hla : c2.latch = false) (hwa : c2.was = false) (hdu : c2.due = false) (h2l : pl2.length ≤ 1000) (h2a : c2.at_ ≤ pl2.length) (e0 : c2.at_ + 2 ≤ pl2.length) :
    Calls Tryz.prog 14 #[.pointer (some ⟨g, 0, none⟩), .int .u8 d, .agg #[.bool irq, .bool false]] w (TakeRet w g v (c2) (pl2)) := by
  obtain ⟨b, cap, hv, hb, hc1, hcc⟩ := hp.spot2 c.at_ hk
  rw [← hk1, ← ha] at hc1
  rw [← hk2, ← ha] at hcc
  have h9 : w.cell? ⟨g, 9, none⟩ = some (.slice (some ⟨b, 0, none⟩) pl.length cap) := by rw [← hv]; exact (Blk.cell h 9).trans rfl
  have h10 : w.cell? ⟨g, 10, none⟩ = some (.int .i64 (a : Int)) := by rw [ha]; exact (Blk.cell h 10).trans rfl
  have f10 := Blk.frozen h 10
  have hlt := Blk.lt h
  have hcf := enter_take k2 hw
  have B1 : CAt (((w.setCell ⟨g, 10, none⟩ (.int .i64 ((a : Int) + 1))).alloc (.cells #[.bool irq, .bool false] 55)).alloc (.cells #[.func (.func k1) #[] #[], .func (.func k2) #[] #[]] 103)).drew g { c with at_ := a + 1 } v := Blk.drew (Blk.alloc (Blk.alloc (Blk.set_ h 10 (.int .i64 ((a : Int) + 1))) _) _)
  have hK1 : Kept (fun k => k = g) w (((w.setCell ⟨g, 10, none⟩ (.int .i64 ((a : Int) + 1))).alloc (.cells #[.bool irq, .bool false] 55)).alloc (.cells #[.func (.func k1) #[] #[], .func (.func k2) #[] #[]] 103)).drew := (((Kept.set g 10 (.int .i64 ((a : Int) + 1)) (S := fun k => k = g) rfl).trans (Kept.alloc _)).trans (Kept.alloc _)).drew
  have hP1 : PlanAt (((w.setCell ⟨g, 10, none⟩ (.int .i64 ((a : Int) + 1))).alloc (.cells #[.bool irq, .bool false] 55)).alloc (.cells #[.func (.func k1) #[] #[], .func (.func k2) #[] #[]] 103)).drew v pl := hp.kept hK1 (fun b hb e => hne (e ▸ hb))
  have hM1 : (((w.setCell ⟨g, 10, none⟩ (.int .i64 ((a : Int) + 1))).alloc (.cells #[.bool irq, .bool false] 55)).alloc (.cells #[.func (.func k1) #[] #[], .func (.func k2) #[] #[]] 103)).drew.cell? ⟨1, 0, none⟩ = some (.int .i64 mx) := (World.cell?_of_block (a := ⟨1, 0, none⟩) (hK1.block 1 (World.block_lt_of_cell? _ _ hm) (fun e => hg e.symm))).trans hm
  have hL1 : Blk (((w.setCell ⟨g, 10, none⟩ (.int .i64 ((a : Int) + 1))).alloc (.cells #[.bool irq, .bool false] 55)).alloc (.cells #[.func (.func k1) #[] #[], .func (.func k2) #[] #[]] 103)).drew w.heap.size 55 #[.bool irq, .bool false] := by
    have q := (Blk.new (w.setCell ⟨g, 10, none⟩ (.int .i64 ((a : Int) + 1))) 55 #[.bool irq, .bool false]).alloc (.cells #[.func (.func k1) #[] #[], .func (.func k2) #[] #[]] 103)
    rw [show (w.setCell ⟨g, 10, none⟩ (.int .i64 ((a : Int) + 1))).heap.size = w.heap.size by simp [World.setCell]] at q
    exact q
  have HT : Hid (Calls Tryz.prog k2 #[.pointer (some ⟨g, 0, none⟩), .int .u8 d] (((w.setCell ⟨g, 10, none⟩ (.int .i64 ((a : Int) + 1))).alloc (.cells #[.bool irq, .bool false] 55)).alloc (.cells #[.func (.func k1) #[] #[], .func (.func k2) #[] #[]] 103)).drew fun e w' => e = .returned (.tuple #[]) ∧ TakeRet w g v c2 pl2 (.returned (.tuple #[])) w' ∧ Blk w' w.heap.size 55 #[.bool irq, .bool false]) := Lib.hid (by
    have q := take_any k2 hw g { c with at_ := a + 1 } v pl d (((w.setCell ⟨g, 10, none⟩ (.int .i64 ((a : Int) + 1))).alloc (.cells #[.bool irq, .bool false] 55)).alloc (.cells #[.func (.func k1) #[] #[], .func (.func k2) #[] #[]] 103)).drew B1 hP1 hne hl ⟨ho.r, ho.low, ho.m, ho.base, ho.rough, ho.place, ho.vector⟩ hd hdue ⟨Nat.succ_le_succ (Nat.zero_le _), by show a + 1 < 1000; omega⟩ mx hM1 hg
    rw [← hc2, ← hp2] at q
    refine q.mono (fun e w' t => ?_)
    have he := t.1
    subst he
    refine ⟨rfl, t.base hK1, ?_⟩
    obtain ⟨_, _, _, _, _, _, k6⟩ := t
    refine k6.blk hL1 (fun s => ?_)
    rcases s with s | s
    · omega
    · have := hp.lt _ s
      omega)
  have hi0 : (0 : Int) ≤ (a : Int) := Int.natCast_nonneg a
  have hi1 : (a : Int) < (pl.length : Int) := by omega
  have hi2 : (pl.length : Int) ≤ 900 := by omega
  clear B1 hK1 hP1 hM1 hL1 h hp hm ho hc2 hp2 hv hk1 hk2 hdue
  obtain ⟨n, hn⟩ : ∃ n, n = pl.length := ⟨_, rfl⟩
  rw [← hn] at h9 hi1 hi2
  clear hn hk ha hl
  go_enter Tryz.func14, Tryz.ntmps14
  go_wp2_with fail
  go_region
  go_upto_region 3 with (fail)
  go_cut [] from 8 to 97 (fun wx => TakeRet w g v c2 pl2 (.returned (.tuple #[])) wx ∧ Blk wx w.heap.size 55 #[.bool irq, .bool false])
  case first =>
    go_wp2_with ((with_reducible refine HT.out.mono ?_); rintro e w3 ⟨rfl, hT, hL⟩; have GT := Lib.hid hT; have GL := Lib.hid hL; clear hT hL)
    go_meet
    exact ⟨GT.out, GL.out⟩
  case rest =>
    obtain ⟨hT, hL⟩ := hcut
    have GT := Lib.hid hT
    obtain ⟨_, v2, hC, hP, _⟩ := hT
    obtain ⟨A2, cap2, hv2⟩ := hP.form
    have l0 : wc.cell? ⟨w.heap.size, 0, none⟩ = some (.bool irq) := (Blk.cell hL 0).trans rfl
    have l1 : wc.cell? ⟨w.heap.size, 1, none⟩ = some (.bool false) := (Blk.cell hL 1).trans rfl
    have j4 : wc.cell? ⟨g, 4, none⟩ = some (.int .u8 c2.r.p) := (Blk.cell hC 4).trans rfl
    have j9 : wc.cell? ⟨g, 9, none⟩ = some (.slice A2 pl2.length cap2) := by rw [← hv2]; exact (Blk.cell hC 9).trans rfl
    have j10 : wc.cell? ⟨g, 10, none⟩ = some (.int .i64 (c2.at_ : Int)) := (Blk.cell hC 10).trans rfl
    have j17 : wc.cell? ⟨g, 17, none⟩ = some (.bool c2.quiet) := (Blk.cell hC 17).trans rfl
    have j19 : wc.cell? ⟨g, 19, none⟩ = some (.bool false) := by rw [← hwa]; exact (Blk.cell hC 19).trans rfl
    have j20 : wc.cell? ⟨g, 20, none⟩ = some (.bool false) := by rw [← hla]; exact (Blk.cell hC 20).trans rfl
    have j21 : wc.cell? ⟨g, 21, none⟩ = some (.bool false) := by rw [← hdu]; exact (Blk.cell hC 21).trans rfl
    have jf19 := Blk.frozen hC 19
    have jf20 := Blk.frozen hC 20
    have jf21 := Blk.frozen hC 21
    have GC := Lib.hid hC
    have HN2 : Hid (TakeRet w g v c2 pl2 (.returned (.tuple #[])) ((wc.setCell ⟨g, 20, none⟩ (.bool false)).setCell ⟨g, 19, none⟩ (.bool false))) := Lib.hid (TakeRet.set (c' := c2) (c2 := c2) 19 (.bool false) (cells_was hwa) (TakeRet.set (c' := c2) (c2 := c2) 20 (.bool false) (cells_latch hla) GT.out))
    have hgl : g ≠ w.heap.size := by omega
    clear hL hC hP hv2 HT hcf h9 h10 f10 hc1 hcc
    obtain ⟨n2, hn2⟩ : ∃ n, n = pl2.length := ⟨_, rfl⟩
    obtain ⟨a2, ha2⟩ : ∃ n, n = c2.at_ := ⟨_, rfl⟩
    rw [← hn2, ← ha2] at e0
    rw [← hn2] at j9 h2l h2a
    rw [← ha2] at j10 h2a
    have z0 : ((n2 : Int) - (a2 : Int) == 0) = false := by simp; omega
    have z1 : ((n2 : Int) - (a2 : Int) == 1) = false := by simp; omega
    clear hn2 ha2 e0
    go_wp2_with fail
    go_quiet (fail)
    go_wp2
    go_end0
    exact HN2.out.drewN _
/-- What a cycle makes of a processor and its plan. -/
noncomputable def stepS (c : C) (pl : List (Nat × Nat)) (k2 : Nat) (d : Int) (irq : Bool) : C × List (Nat × Nat) := endS (takeS k2 { c with at_ := c.at_ + 1 } pl d).1 (takeS k2 { c with at_ := c.at_ + 1 } pl d).2 irq
theorem cstep_any (g : Nat) (c : C) (v : Value) (pl : List (Nat × Nat)) (d : Int) (irq : Bool) (w : World) (h : CAt w g c v) (hp : PlanAt w v pl) (hne : v.ownBlock ≠ some g) (hl : pl.length ≤ 900) (ho : c.ok) (hd : By d) (hdue : c.due = false) (hla : c.latch = false) (hwa : c.was = false)
    (hk : c.at_ < pl.length) (hw : pl[c.at_].2 ∈ takeIds) (mx : Int) (hm : w.cell? ⟨1, 0, none⟩ = some (.int .i64 mx)) (hg : g ≠ 1)
    (h2l : (takeS pl[c.at_].2 { c with at_ := c.at_ + 1 } pl d).2.length ≤ 1000) (h2a : (takeS pl[c.at_].2 { c with at_ := c.at_ + 1 } pl d).1.at_ ≤ (takeS pl[c.at_].2 { c with at_ := c.at_ + 1 } pl d).2.length) :
    Calls Tryz.prog 14 #[.pointer (some ⟨g, 0, none⟩), .int .u8 d, .agg #[.bool irq, .bool false]] w (TakeRet w g v (stepS c pl pl[c.at_].2 d irq).1 (stepS c pl pl[c.at_].2 d irq).2) := by
  obtain ⟨q1, q2, q3⟩ := take_calm pl[c.at_].2 hw { c with at_ := c.at_ + 1 } pl d hdue hla hwa
  unfold stepS
  obtain ⟨c2, hc2⟩ : ∃ x, x = (takeS pl[c.at_].2 { c with at_ := c.at_ + 1 } pl d).1 := ⟨_, rfl⟩
  obtain ⟨pl2, hp2⟩ : ∃ x, x = (takeS pl[c.at_].2 { c with at_ := c.at_ + 1 } pl d).2 := ⟨_, rfl⟩
  rw [← hc2] at q1 q2 q3 h2a ⊢
  rw [← hp2] at h2l h2a ⊢
  by_cases e0 : pl2.length = c2.at_
  · have e : endS c2 pl2 irq = ({ c2 with at_ := 0, quiet := false }, [(55, 70)]) := by simp [endS, e0]
    rw [e]
    exact step_rest g c v pl d irq w h hp hne hl ho hd hdue _ rfl hk _ _ rfl rfl hw mx hm hg c2 pl2 hc2 hp2 q2 q3 q1 h2l h2a e0
  by_cases e1 : pl2.length = c2.at_ + 1
  · cases hq : c2.quiet
    · cases irq
      · have e : endS c2 pl2 false = ({ c2 with due := false }, pl2) := by simp [endS, e1, hq]
        rw [e]
        exact step_due_false g c v pl d false w h hp hne hl ho hd hdue _ rfl hk _ _ rfl rfl hw mx hm hg c2 pl2 hc2 hp2 q2 q3 q1 h2l h2a e1 hq (Lib.hid rfl)
      · have e : endS c2 pl2 true = ({ c2 with due := Go.bits .and .u8 c2.r.p 4 == 0 }, pl2) := by simp [endS, e1, hq]
        rw [e]
        exact step_due_true g c v pl d true w h hp hne hl ho hd hdue _ rfl hk _ _ rfl rfl hw mx hm hg c2 pl2 hc2 hp2 q2 q3 q1 h2l h2a e1 hq (Lib.hid rfl)
    · have e : endS c2 pl2 irq = (c2, pl2) := by simp [endS, e1, hq]
      rw [e]
      exact step_quiet g c v pl d irq w h hp hne hl ho hd hdue _ rfl hk _ _ rfl rfl hw mx hm hg c2 pl2 hc2 hp2 q2 q3 q1 h2l h2a e1 hq
  · have e : endS c2 pl2 irq = (c2, pl2) := by simp [endS, e0, e1]
    rw [e]
    exact step_more g c v pl d irq w h hp hne hl ho hd hdue _ rfl hk _ _ rfl rfl hw mx hm hg c2 pl2 hc2 hp2 q2 q3 q1 h2l h2a (by omega)
end Go.Proofs.YtifajfjiloajfaaGreatDoor.OwnCpu

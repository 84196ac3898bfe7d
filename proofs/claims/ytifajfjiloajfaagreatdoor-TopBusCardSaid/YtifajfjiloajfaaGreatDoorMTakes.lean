/- All that the processor's cycles take, and ask for, in one table each. Conditions: the processor is a block of its cells, its plan a row of its own, what it holds is in range; no interrupt is due. · The processor's plan laid anew; what holds of all its plans. Conditions: the processor is a block of its cells. -/
import Derived.Test.YtifajfjiloajfaaGreatDoorFirst
import Derived.Test.YtifajfjiloajfaaGreatDoorWantF
import Derived.Test.YtifajfjiloajfaaGreatDoorMWantD
namespace Go.Proofs.YtifajfjiloajfaaGreatDoor.OwnCpu
open Go.RowKit Go.Proofs.YtifajfjiloajfaaGreatDoor.Own Go.Proofs.YtifajfjiloajfaaGreatDoor.OwnEff Go.Proofs.YtifajfjiloajfaaGreatDoor.OwnAddr

def W16 (v : Int) : Prop := 0 ≤ v ∧ v < 65536
structure C.ok (c : C) : Prop where
  r : c.r.ok
  low : By c.low
  m : By c.m
  base : W16 c.base
  rough : W16 c.rough
  place : W16 c.place
  vector : W16 c.vector
noncomputable def firstC (c : C) (n : Nat) : C := { c with r := { c.r with pc := IntKind.u16.wrap (c.r.pc + 1) }, name := nameN n, mode := modeI n, kind := kindI n, due := false, soft := true, quiet := (nameN n).toList == [66, 82, 75] || kindI n == 8 }
noncomputable def firstL (n : Nat) : List (Nat × Nat) := placesL (modeI n) (kindI n) ++ doesL (nameN n).toList (modeI n) (kindI n)
def branchC (c : C) (d : Int) : C := if takenB c.name.toList c.r.p = true then { c with r := { c.r with pc := IntKind.u16.wrap (c.r.pc + 1) }, rough := roughV (IntKind.u16.wrap (c.r.pc + 1)) (if d > 127 then d + 65280 else d), place := rightV (IntKind.u16.wrap (c.r.pc + 1)) (if d > 127 then d + 65280 else d), quiet := true } else { c with r := { c.r with pc := IntKind.u16.wrap (c.r.pc + 1) } }
/-- What a take makes of a processor, and of its plan. -/
noncomputable def takeS (k : Nat) (c : C) (pl : List (Nat × Nat)) (d : Int) : C × List (Nat × Nat) :=
  match k with
  | 54 => ({ c with r := { c.r with s := (c.r.s - 1) % 256 } }, pl)
  | 56 => (c, pl)
  | 57 => ({ c with vector := 65532, r := { c.r with s := (c.r.s - 1) % 256, p := Go.bits .or .u8 c.r.p 4 } }, pl)
  | 59 => ({ c with low := d }, pl)
  | 61 => ({ c with r := { c.r with pc := d * 256 + c.low } }, pl)
  | 110 => (flagsC c, pl)
  | 115 => ({ c with low := d, r := { c.r with pc := IntKind.u16.wrap (c.r.pc + 1) } }, pl)
  | 116 => ({ c with place := d, r := { c.r with pc := IntKind.u16.wrap (c.r.pc + 1) } }, pl)
  | 118 => ({ c with place := (IntKind.u8.wrap c.place + c.r.x) % 256 }, pl)
  | 119 => ({ c with place := (IntKind.u8.wrap c.place + c.r.y) % 256 }, pl)
  | 120 => ({ c with place := d * 256 + c.low, r := { c.r with pc := IntKind.u16.wrap (c.r.pc + 1) } }, pl)
  | 121 => ({ c with r := { c.r with pc := IntKind.u16.wrap (c.r.pc + 1) }, base := d * 256 + c.low, rough := roughV (d * 256 + c.low) c.r.x, place := rightV (d * 256 + c.low) c.r.x }, pl)
  | 122 => ({ c with r := { c.r with pc := IntKind.u16.wrap (c.r.pc + 1) }, base := d * 256 + c.low, rough := roughV (d * 256 + c.low) c.r.y, place := rightV (d * 256 + c.low) c.r.y }, pl)
  | 124 => ({ c with low := (c.low + c.r.x) % 256 }, pl)
  | 125 => ({ c with base := c.low, low := d }, pl)
  | 127 => ({ c with place := d * 256 + c.low }, pl)
  | 128 => ({ c with base := d * 256 + c.low, rough := roughV (d * 256 + c.low) c.r.y, place := rightV (d * 256 + c.low) c.r.y }, pl)
  | 130 => ({ c with r := innerR c.name.toList c.r }, pl)
  | 132 => ({ c with r := { c.r with s := (c.r.s + 1) % 256 } }, pl)
  | 133 => ({ c with r := pullsR c.name.toList c.r d }, pl)
  | 135 => ({ c with jammed := true }, pl)
  | 139 => ({ c with r := writesR c.name.toList c.r }, pl)
  | 140 => ({ c with m := d }, pl)
  | 143 => ({ c with r := (modR c.name.toList c.r c.m).1, m := (modR c.name.toList c.r c.m).2 }, pl)
  | 145 => ({ c with r := readsR c.name.toList { c.r with pc := IntKind.u16.wrap (c.r.pc + 1) } d }, pl)
  | 147 => ({ c with r := readsR c.name.toList c.r d }, pl)
  | 172 => ({ c with low := d, r := { c.r with s := (c.r.s + 1) % 256 } }, pl)
  | 173 => ({ c with r := { c.r with pc := IntKind.u16.wrap (c.r.pc + 1) } }, pl)
  | 174 => ({ c with r := pullsR [80, 76, 80] { c.r with s := (c.r.s + 1) % 256 } d }, pl)
  | 146 => if (c.rough == c.place) = true then ({ c with r := readsR c.name.toList c.r d }, pl) else (c, pl ++ [(117, 147)])
  | 168 => if (c.rough != c.place) = true then ({ c with r := { c.r with pc := c.place }, quiet := false }, pl ++ [(129, 56)]) else ({ c with r := { c.r with pc := c.place } }, pl)
  | 134 => (branchC c d, if takenB c.name.toList c.r.p = true then pl ++ [(55, 168)] else pl)
  | 137 => ({ c with at_ := c.at_ - 1 }, pl)
  | _ => (firstC c d.toNat, pl ++ firstL d.toNat)
def takeIds : List Nat := [54, 56, 57, 59, 61, 110, 115, 116, 118, 119, 120, 121, 122, 124, 125, 127, 128, 130, 132, 133, 135, 139, 140, 143, 145, 147, 172, 173, 174, 146, 168, 134, 137, 70]
theorem placesL_len (m k : Int) : (placesL m k).length ≤ 10 := by
  unfold placesL
  repeat (first | (split; · decide) | split | decide)
theorem flowsL_len (n : List UInt8) (m : Int) : (flowsL n m).length ≤ 10 := by
  unfold flowsL
  repeat (first | (split; · decide) | split | decide)
theorem roughL_len (m : Int) : (roughL m).length ≤ 1 := by
  unfold roughL
  split <;> decide
theorem doesL_len (n : List UInt8) (m k : Int) : (doesL n m k).length ≤ 10 := by
  have h1 := flowsL_len n m
  have h2 := roughL_len m
  unfold doesL
  iterate 5 (split; · decide)
  split
  · simp; omega
  split
  · simp; omega
  split
  · exact h1
  split
  · decide
  split <;> decide
theorem first_any (g : Nat) (c : C) (v : Value) (pl : List (Nat × Nat)) (n : Nat) (w : World) (h : CAt w g c v) (hp : PlanAt w v pl) (hne : v.ownBlock ≠ some g) (hl : pl.length ≤ 900) (hdue : c.due = false) (hn : n < 256) (mx : Int) (hm : w.cell? ⟨1, 0, none⟩ = some (.int .i64 mx)) (hg : g ≠ 1) :
    Calls Tryz.prog 70 #[.pointer (some ⟨g, 0, none⟩), .int .u8 n] w (TakeRet w g v (firstC c n) (pl ++ firstL n)) := by
  have HOf : ∀ w', Kept (fun k => k = g) w w' → Calls Tryz.prog 95 #[.int .u8 n] w' fun e w2 => e = .returned (.agg #[.string (nameN n), .int .i64 (modeI n), .int .i64 (kindI n)]) ∧ Below w'.heap.size w' w2 := fun w' hk =>
    of_any n mx w' hn ((World.cell?_of_block (a := ⟨1, 0, none⟩) (hk.block 1 (World.block_lt_of_cell? _ _ hm) (fun e => hg e.symm))).trans hm)
  have hpl := placesL_len (modeI n) (kindI n)
  have hdl := doesL_len (nameN n).toList (modeI n) (kindI n)
  unfold firstL
  cases hb : (nameN n).toList == [66, 82, 75]
  · cases hj : kindI n == 8
    · have e : firstC c n = { c with r := { c.r with pc := IntKind.u16.wrap (c.r.pc + 1) }, name := nameN n, mode := modeI n, kind := kindI n, due := false, soft := true, quiet := false } := by simp [firstC, hb, hj]
      rw [e]
      exact first_no g c v pl n w h hp hne hl hdue _ rfl _ _ _ HOf hpl hdl hb hj
    · have e : firstC c n = { c with r := { c.r with pc := IntKind.u16.wrap (c.r.pc + 1) }, name := nameN n, mode := modeI n, kind := kindI n, due := false, soft := true, quiet := true } := by simp [firstC, hb, hj]
      rw [e]
      exact first_jam g c v pl n w h hp hne hl hdue _ rfl _ _ _ HOf hpl hdl hb hj
  · have e : firstC c n = { c with r := { c.r with pc := IntKind.u16.wrap (c.r.pc + 1) }, name := nameN n, mode := modeI n, kind := kindI n, due := false, soft := true, quiet := true } := by simp [firstC, hb]
    rw [e]
    exact first_brk g c v pl n w h hp hne hl hdue _ rfl _ _ _ HOf hpl hdl hb
theorem take_any (k : Nat) (hk : k ∈ takeIds) (g : Nat) (c : C) (v : Value) (pl : List (Nat × Nat)) (d : Int) (w : World) (h : CAt w g c v) (hp : PlanAt w v pl) (hne : v.ownBlock ≠ some g) (hl : pl.length ≤ 900) (ho : c.ok) (hd : By d) (hdue : c.due = false) (ha : 1 ≤ c.at_ ∧ c.at_ < 1000)
    (mx : Int) (hm : w.cell? ⟨1, 0, none⟩ = some (.int .i64 mx)) (hg : g ≠ 1) :
    Calls Tryz.prog k #[.pointer (some ⟨g, 0, none⟩), .int .u8 d] w (TakeRet w g v (takeS k c pl d).1 (takeS k c pl d).2) := by
  have S : ∀ {c' : C} {e : Ending} {w' : World}, e = .returned (.tuple #[]) ∧ CAt w' g c' v ∧ w.grownBy w' (some g) → TakeRet w g v c' pl e w' := fun q => TakeRet.same hp hne q
  simp only [takeIds, List.mem_cons, List.mem_nil_iff, or_false] at hk
  rcases hk with rfl | rfl | rfl | rfl | rfl | rfl | rfl | rfl | rfl | rfl | rfl | rfl | rfl | rfl | rfl | rfl | rfl | rfl | rfl | rfl | rfl | rfl | rfl | rfl | rfl | rfl | rfl | rfl | rfl | rfl | rfl | rfl | rfl | rfl
  · exact (OwnCpu.drop_any g c v d w h ).mono fun _ _ q => S q
  · exact (OwnCpu.skip_any g c v d w h ).mono fun _ _ q => S q
  · exact (OwnCpu.masks_any g c v d w h ).mono fun _ _ q => S q
  · exact (OwnCpu.keepLow_any g c v d w h ).mono fun _ _ q => S q
  · exact (OwnCpu.jump_any g c v d w h ho.low hd).mono fun _ _ q => S q
  · exact (OwnCpu.flags_any g c v d w h ).mono fun _ _ q => S q
  · exact (OwnCpu.nextLow_any g c v d w h ).mono fun _ _ q => S q
  · exact (OwnCpu.zeroPlace_any g c v d w h hd).mono fun _ _ q => S q
  · exact (OwnCpu.zeroX_any g c v d w h ho.r.2.1).mono fun _ _ q => S q
  · exact (OwnCpu.zeroY_any g c v d w h ho.r.2.2.1).mono fun _ _ q => S q
  · exact (OwnCpu.nextPlace_any g c v d w h ho.low hd).mono fun _ _ q => S q
  · exact (OwnCpu.baseX_any g c v d w h ho.low ho.r.2.1 hd).mono fun _ _ q => S q
  · exact (OwnCpu.baseY_any g c v d w h ho.low ho.r.2.2.1 hd).mono fun _ _ q => S q
  · exact (OwnCpu.pointerX_any g c v d w h ho.low ho.r.2.1).mono fun _ _ q => S q
  · exact (OwnCpu.pointLow_any g c v d w h ho.low).mono fun _ _ q => S q
  · exact (OwnCpu.pointPlace_any g c v d w h ho.low hd).mono fun _ _ q => S q
  · exact (OwnCpu.pointY_any g c v d w h ho.low ho.r.2.2.1 hd).mono fun _ _ q => S q
  · exact (OwnCpu.inner_any g c v d w h ho.r).mono fun _ _ q => S q
  · exact (OwnCpu.lift_any g c v d w h ).mono fun _ _ q => S q
  · exact (OwnCpu.pulls_any g c v d w h ho.r).mono fun _ _ q => S q
  · exact (OwnCpu.jams_any g c v d w h ).mono fun _ _ q => S q
  · exact (OwnCpu.stores_any g c v d w h ho.base.1 ho.base.2).mono fun _ _ q => S q
  · exact (OwnCpu.keep_any g c v d w h ).mono fun _ _ q => S q
  · exact (OwnCpu.changes_any g c v d w h ho.r ho.m).mono fun _ _ q => S q
  · exact (OwnCpu.nextReads_any g c v d w h ho.r hd).mono fun _ _ q => S q
  · exact (OwnCpu.reads_any g c v d w h ho.r hd).mono fun _ _ q => S q
  · exact (OwnCpu.liftLow_any g c v d w h ).mono fun _ _ q => S q
  · exact (OwnCpu.next_any g c v d w h ).mono fun _ _ q => S q
  · exact (OwnCpu.unflags_any g c v d w h ho.r hd).mono fun _ _ q => S q
  · cases hb : c.rough == c.place
    · have e : takeS 146 c pl d = (c, pl ++ [(117, 147)]) := by simp [takeS, hb]
      rw [e]
      exact maybe_ne g c v pl d w h hp hne hl hb
    · have e : takeS 146 c pl d = ({ c with r := readsR c.name.toList c.r d }, pl) := by simp [takeS, hb]
      rw [e]
      exact maybe_eq g c v pl d w h hp hne hl ho.r hd hb
  · cases hb : c.rough != c.place
    · have e : takeS 168 c pl d = ({ c with r := { c.r with pc := c.place } }, pl) := by simp [takeS, hb]
      rw [e]
      exact arrives_eq g c v pl d w h hp hne hl hb
    · have e : takeS 168 c pl d = ({ c with r := { c.r with pc := c.place }, quiet := false }, pl ++ [(129, 56)]) := by simp [takeS, hb]
      rw [e]
      exact arrives_ne g c v pl d w h hp hne hl hb
  · cases ht : takenB c.name.toList c.r.p
    · have e : takeS 134 c pl d = ({ c with r := { c.r with pc := IntKind.u16.wrap (c.r.pc + 1) } }, pl) := by simp [takeS, branchC, ht]
      rw [e]
      exact branch_no g c v pl d w h hp hne hl _ rfl ht
    · have e : takeS 134 c pl d = ({ c with r := { c.r with pc := IntKind.u16.wrap (c.r.pc + 1) }, rough := roughV (IntKind.u16.wrap (c.r.pc + 1)) (if d > 127 then d + 65280 else d), place := rightV (IntKind.u16.wrap (c.r.pc + 1)) (if d > 127 then d + 65280 else d), quiet := true }, pl ++ [(55, 168)]) := by simp [takeS, branchC, ht]
      rw [e]
      exact branch_yes g c v pl d w h hp hne hl _ rfl ht hd _ _ rfl rfl
  · exact (stays_any g c v d w h (c.at_ - 1) (by omega) (by omega)).mono fun _ _ q => S q
  · obtain ⟨n, rfl⟩ : ∃ n : Nat, d = n := ⟨d.toNat, by have := hd.1; omega⟩
    exact first_any g c v pl n w h hp hne hl hdue (by have := hd.2; omega) mx hm hg
end Go.Proofs.YtifajfjiloajfaaGreatDoor.OwnCpu
namespace Go.Proofs.YtifajfjiloajfaaGreatDoor.OwnCpu
open Go.RowKit Go.Proofs.YtifajfjiloajfaaGreatDoor.Own Go.Proofs.YtifajfjiloajfaaGreatDoor.OwnEff Go.Proofs.YtifajfjiloajfaaGreatDoor.OwnAddr

theorem TakeRet.fresh {w w1 : World} {g : Nat} {c' : C} {v v' : Value} {pl' : List (Nat × Nat)} (hk : Kept (fun k => k = g) w w1) (hg : g < w.heap.size) (B1 : CAt w1 g c' v) (hP : PlanAt w1 v' pl') (hv : ∀ b, v'.ownBlock = some b → w.heap.size ≤ b) :
    TakeRet w g v c' pl' (.returned (.tuple #[])) (w1.setCell ⟨g, 9, none⟩ v') := by
  have hne' : v'.ownBlock ≠ some g := fun e => by have := hv g e; omega
  exact ⟨rfl, v', Blk.set_ B1 9 v', hP.kept (S := fun k => k = g) (Kept.set g 9 v' rfl) (fun b hb e => hne' (e ▸ hb)), hne', fun b hb => .inr (hv b hb), (hk.mono (fun k _ h => .inl h)).trans ((Kept.set g 9 v' (S := fun k => k = g) rfl).mono (fun k _ h => .inl (.inl h)))⟩
set_option maxHeartbeats 3200000 in
theorem rest_any (g : Nat) (c : C) (v : Value) (w : World) (h : CAt w g c v) : Calls Tryz.prog 43 #[.pointer (some ⟨g, 0, none⟩)] w (TakeRet w g v { c with at_ := 0, quiet := false } [(55, 70)]) := by
  have c9 : w.cell? ⟨g, 9, none⟩ = some v := (Blk.cell h 9).trans rfl
  have f9 := Blk.frozen h 9
  have c10 : w.cell? ⟨g, 10, none⟩ = some (.int .i64 c.at_) := (Blk.cell h 10).trans rfl
  have f10 := Blk.frozen h 10
  have c17 : w.cell? ⟨g, 17, none⟩ = some (.bool c.quiet) := (Blk.cell h 17).trans rfl
  have f17 := Blk.frozen h 17
  have hlt := Blk.lt h
  go_enter Tryz.func43, Tryz.ntmps43
  go_wp2
  go_end0
  have hsz : (((w.setCell ⟨g, 9, none⟩ (.slice (some ⟨w.heap.size, 0, none⟩) 1 1)).setCell ⟨g, 10, none⟩ (.int .i64 0)).setCell ⟨g, 17, none⟩ (.bool false)).heap.size = w.heap.size := by simp [World.setCell]
  have hP := PlanAt.lit (w := (((w.setCell ⟨g, 9, none⟩ (.slice (some ⟨w.heap.size, 0, none⟩) 1 1)).setCell ⟨g, 10, none⟩ (.int .i64 0)).setCell ⟨g, 17, none⟩ (.bool false))) #[.func (.func 55) #[] #[], .func (.func 70) #[] #[]] [(55, 70)] rfl (by decide)
  rw [hsz] at hP
  have hk : Kept (fun k => k = g) w (((w.setCell ⟨g, 9, none⟩ (.slice (some ⟨w.heap.size, 0, none⟩) 1 1)).setCell ⟨g, 10, none⟩ (.int .i64 0)).setCell ⟨g, 17, none⟩ (.bool false)) := ((((Kept.refl (fun k => k = g) w).trans ((Kept.set g 9 (.slice (some ⟨w.heap.size, 0, none⟩) 1 1) (S := fun k => k = g) rfl).mono (fun k _ h => .inl h))).trans ((Kept.set g 10 (.int .i64 0) (S := fun k => k = g) rfl).mono (fun k _ h => .inl h))).trans ((Kept.set g 17 (.bool false) (S := fun k => k = g) rfl).mono (fun k _ h => .inl h)))
  exact ⟨rfl, .slice (some ⟨w.heap.size, 0, none⟩) 1 1, Blk.alloc (Blk.set_ (Blk.set_ (Blk.set_ h 9 (.slice (some ⟨w.heap.size, 0, none⟩) 1 1)) 10 (.int .i64 0)) 17 (.bool false)) _, hP, (by simp [Value.ownBlock]; omega), (fun b hb => by right; simp [Value.ownBlock] at hb; omega), (hk.mono (fun k _ h => .inl h)).trans (Kept.alloc _)⟩
def resetL : List (Nat × Nat) := [(55, 56), (55, 56), (53, 54), (53, 54), (53, 57), (58, 59), (60, 61)]
set_option maxHeartbeats 3200000 in
theorem reset_any (g : Nat) (c : C) (v : Value) (w : World) (h : CAt w g c v) : Calls Tryz.prog 36 #[.pointer (some ⟨g, 0, none⟩)] w (TakeRet w g v { c with at_ := 0, quiet := true, latch := false, due := false, jammed := false } resetL) := by
  have c9 : w.cell? ⟨g, 9, none⟩ = some v := (Blk.cell h 9).trans rfl
  have f9 := Blk.frozen h 9
  have c10 : w.cell? ⟨g, 10, none⟩ = some (.int .i64 c.at_) := (Blk.cell h 10).trans rfl
  have f10 := Blk.frozen h 10
  have c17 : w.cell? ⟨g, 17, none⟩ = some (.bool c.quiet) := (Blk.cell h 17).trans rfl
  have f17 := Blk.frozen h 17
  have c20 : w.cell? ⟨g, 20, none⟩ = some (.bool c.latch) := (Blk.cell h 20).trans rfl
  have f20 := Blk.frozen h 20
  have c21 : w.cell? ⟨g, 21, none⟩ = some (.bool c.due) := (Blk.cell h 21).trans rfl
  have f21 := Blk.frozen h 21
  have c22 : w.cell? ⟨g, 22, none⟩ = some (.bool c.jammed) := (Blk.cell h 22).trans rfl
  have f22 := Blk.frozen h 22
  have hlt := Blk.lt h
  go_enter Tryz.func36, Tryz.ntmps36
  go_wp2
  go_end0
  have hsz : ((((((w.setCell ⟨g, 9, none⟩ (.slice (some ⟨w.heap.size + 1, 0, none⟩) 7 7)).setCell ⟨g, 10, none⟩ (.int .i64 0)).setCell ⟨g, 17, none⟩ (.bool true)).setCell ⟨g, 20, none⟩ (.bool false)).setCell ⟨g, 21, none⟩ (.bool false)).setCell ⟨g, 22, none⟩ (.bool false)).heap.size = w.heap.size := by simp [World.setCell]
  have hP := PlanAt.lit (w := ((((((w.setCell ⟨g, 9, none⟩ (.slice (some ⟨w.heap.size + 1, 0, none⟩) 7 7)).setCell ⟨g, 10, none⟩ (.int .i64 0)).setCell ⟨g, 17, none⟩ (.bool true)).setCell ⟨g, 20, none⟩ (.bool false)).setCell ⟨g, 21, none⟩ (.bool false)).setCell ⟨g, 22, none⟩ (.bool false)).alloc (.cells #[.func (.func 53) #[] #[], .func (.func 54) #[] #[]] 103)) #[.func (.func 55) #[] #[], .func (.func 56) #[] #[], .func (.func 55) #[] #[], .func (.func 56) #[] #[], .func (.func 53) #[] #[], .func (.func 54) #[] #[], .func (.func 53) #[] #[], .func (.func 54) #[] #[], .func (.func 53) #[] #[], .func (.func 57) #[] #[], .func (.func 58) #[] #[], .func (.func 59) #[] #[], .func (.func 60) #[] #[], .func (.func 61) #[] #[]] resetL rfl (by decide)
  rw [World.size_alloc, hsz] at hP
  have hk : Kept (fun k => k = g) w ((((((w.setCell ⟨g, 9, none⟩ (.slice (some ⟨w.heap.size + 1, 0, none⟩) 7 7)).setCell ⟨g, 10, none⟩ (.int .i64 0)).setCell ⟨g, 17, none⟩ (.bool true)).setCell ⟨g, 20, none⟩ (.bool false)).setCell ⟨g, 21, none⟩ (.bool false)).setCell ⟨g, 22, none⟩ (.bool false)) := (((((((Kept.refl (fun k => k = g) w).trans ((Kept.set g 9 (.slice (some ⟨w.heap.size + 1, 0, none⟩) 7 7) (S := fun k => k = g) rfl).mono (fun k _ h => .inl h))).trans ((Kept.set g 10 (.int .i64 0) (S := fun k => k = g) rfl).mono (fun k _ h => .inl h))).trans ((Kept.set g 17 (.bool true) (S := fun k => k = g) rfl).mono (fun k _ h => .inl h))).trans ((Kept.set g 20 (.bool false) (S := fun k => k = g) rfl).mono (fun k _ h => .inl h))).trans ((Kept.set g 21 (.bool false) (S := fun k => k = g) rfl).mono (fun k _ h => .inl h))).trans ((Kept.set g 22 (.bool false) (S := fun k => k = g) rfl).mono (fun k _ h => .inl h)))
  exact ⟨rfl, .slice (some ⟨w.heap.size + 1, 0, none⟩) 7 7, Blk.alloc (Blk.alloc (Blk.set_ (Blk.set_ (Blk.set_ (Blk.set_ (Blk.set_ (Blk.set_ h 9 (.slice (some ⟨w.heap.size + 1, 0, none⟩) 7 7)) 10 (.int .i64 0)) 17 (.bool true)) 20 (.bool false)) 21 (.bool false)) 22 (.bool false)) _) _, hP, (by simp [Value.ownBlock]; omega), (fun b hb => by right; simp [Value.ownBlock] at hb; omega), ((hk.mono (fun k _ h => .inl h)).trans (Kept.alloc _)).trans (Kept.alloc _)⟩
/-- Each cycle of a plan is known; the first one of an instruction stands alone. -/
def wantIds : List Nat := [53, 55, 58, 60, 107, 108, 109, 117, 123, 126, 129, 131, 136, 138, 141, 142, 171]
def okPair (m : Nat × Nat) : Bool := wantIds.contains m.1 && takeIds.contains m.2 && m.2 != 70
def PlOk (pl : List (Nat × Nat)) : Prop := pl = [(55, 70)] ∨ pl.all okPair = true
theorem placesL_ok (m k : Int) : (placesL m k).all okPair = true := by
  unfold placesL
  repeat (first | (split; · decide) | split | decide)
theorem flowsL_ok (n : List UInt8) (m : Int) : (flowsL n m).all okPair = true := by
  unfold flowsL
  repeat (first | (split; · decide) | split | decide)
theorem roughL_ok (m : Int) : (roughL m).all okPair = true := by
  unfold roughL
  split <;> decide
theorem doesL_ok (n : List UInt8) (m k : Int) : (doesL n m k).all okPair = true := by
  have h1 := flowsL_ok n m
  have h2 := roughL_ok m
  unfold doesL
  iterate 5 (split; · decide)
  split
  · rw [List.all_append, h2]; decide
  split
  · rw [List.all_append, h2]; decide
  split
  · exact h1
  split
  · decide
  split <;> decide
end Go.Proofs.YtifajfjiloajfaaGreatDoor.OwnCpu

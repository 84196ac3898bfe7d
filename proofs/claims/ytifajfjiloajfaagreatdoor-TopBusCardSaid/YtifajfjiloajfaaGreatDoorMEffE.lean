/- What opcodes do to registers leaves them in range. Conditions: bytes are bytes. · What an opcode that reads does. Conditions: bytes are bytes. · What an opcode does that is done inside. Conditions: bytes are bytes. -/
import Derived.Test.YtifajfjiloajfaaGreatDoorMMap
import Derived.BigGuard
namespace Go.Proofs.YtifajfjiloajfaaGreatDoor.OwnEff
open Go.RowKit Go.Proofs.YtifajfjiloajfaaGreatDoor.Own

theorem bits_by (op : BinOp) (x y : Int) : By (Go.bits op .u8 x y) := by
  unfold Go.bits By
  simp [IntKind.wrap, IntKind.bits, IntKind.signed]
  omega
theorem w8_by (n : Int) : By (IntKind.u8.wrap n) := by
  unfold By
  simp [IntKind.wrap, IntKind.bits, IntKind.signed]
  omega
theorem cmpF_by {r m p : Int} (hp : By p) : By (cmpF r m p) := nz_by (fl_by hp (.inl rfl) _) _
theorem bitF_by {a m p : Int} (hp : By p) : By (bitF a m p) := fl_by (fl_by (fl_by hp (.inr (.inl rfl)) _) (.inr (.inr (.inr (.inl rfl)))) _) (.inr (.inr (.inr (.inr rfl)))) _
theorem sbxV_by (x m : Int) : By (sbxV x m) := mod_by _
theorem adcV_by (a m p : Int) : By (adcV a m p) := mod_by _
theorem sbcV_by (a m p : Int) : By (sbcV a m p) := by unfold sbcV; split; exact mod_by _; exact mod_by _
theorem fl8_by {p : Int} (hp : By p) (is : Bool) : By (fl p 8 is) := fl_by hp (.inr (.inr (.inl rfl))) _
theorem sbcF_by {a m p : Int} (hp : By p) : By (sbcF a m p) := by
  unfold sbcF
  split
  · exact fl8_by (adcF_by (fl8_by hp _)) _
  · exact adcF_by (fl8_by hp _)
theorem arrN_by {a m p : Int} (ha : By a) : By (arrN a m p) := by
  have h : By (arrR a m p) := rorV_by (land_by ha) p
  unfold arrN By at *
  split <;> omega
theorem arrV_by {a m p : Int} (ha : By a) : By (arrV a m p) := by
  have h : By (arrR a m p) := rorV_by (land_by ha) p
  have h2 : By (arrN a m p) := arrN_by ha
  unfold arrV
  split
  · split
    · exact mod_by _
    · exact h2
  · exact h
theorem arrF_by {a m p : Int} (hp : By p) : By (arrF a m p) := by
  unfold arrF
  split <;> (repeat (first | exact nz_by hp _ | refine fl_by ?_ (by simp [isF]) _))
theorem aslV_by (m : Int) : By (aslV m) := mod_by _
def plainT (r : R) (m : Int) : List (ByteArray × Int) := [(⟨#[76, 68, 65]⟩, m), (⟨#[79, 82, 65]⟩, Go.bits .or .u8 r.a m), (⟨#[65, 78, 68]⟩, Go.bits .and .u8 r.a m), (⟨#[69, 79, 82]⟩, Go.bits .xor .u8 r.a m)]
def readsR (n : List UInt8) (r : R) (m : Int) : R :=
  if (n == [76, 68, 65]) = true then { r with a := m, p := nz r.p m }
  else if (n == [79, 82, 65]) = true then { r with a := Go.bits .or .u8 r.a m, p := nz r.p (Go.bits .or .u8 r.a m) }
  else if (n == [65, 78, 68]) = true then { r with a := Go.bits .and .u8 r.a m, p := nz r.p (Go.bits .and .u8 r.a m) }
  else if (n == [69, 79, 82]) = true then { r with a := Go.bits .xor .u8 r.a m, p := nz r.p (Go.bits .xor .u8 r.a m) }
  else if (n == [65, 68, 67]) = true then { r with a := adcV r.a m r.p, p := adcF r.a m r.p }
  else if (n == [83, 66, 67]) = true then { r with a := sbcV r.a m r.p, p := sbcF r.a m r.p }
  else comparesR n (loadsR n (andsR n r m) m) m
theorem ok_mk {a x y s p pc : Int} (ha : By a) (hx : By x) (hy : By y) (hs : By s) (hp : By p) (hq : 0 ≤ pc ∧ pc < 65536) : (R.mk a x y s p pc).ok := ⟨ha, hx, hy, hs, hp, hq⟩
theorem comparesR_ok {n : List UInt8} {r : R} {m : Int} (h : r.ok) : (comparesR n r m).ok := by
  obtain ⟨ha, hx, hy, hs, hp, hq⟩ := h
  unfold comparesR
  split; · exact ok_mk ha hx hy hs (cmpF_by hp) hq
  split; · exact ok_mk ha hx hy hs (cmpF_by hp) hq
  split; · exact ok_mk ha hx hy hs (cmpF_by hp) hq
  split; · exact ok_mk ha hx hy hs (bitF_by hp) hq
  exact ok_mk ha hx hy hs hp hq
theorem loadsR_ok {n : List UInt8} {r : R} {m : Int} (h : r.ok) (hm : By m) : (loadsR n r m).ok := by
  obtain ⟨ha, hx, hy, hs, hp, hq⟩ := h
  unfold loadsR
  split; · exact ok_mk ha hm hy hs (nz_by hp _) hq
  split; · exact ok_mk ha hx hm hs (nz_by hp _) hq
  split; · exact ok_mk hm hm hy hs (nz_by hp _) hq
  split; · exact ok_mk (bits_by _ _ _) (bits_by _ _ _) hy hs (nz_by hp _) hq
  split; · exact ok_mk (bits_by _ _ _) (bits_by _ _ _) hy (bits_by _ _ _) (nz_by hp _) hq
  split; · exact ok_mk ha (sbxV_by _ _) hy hs (cmpF_by hp) hq
  exact ok_mk ha hx hy hs hp hq
theorem andsR_ok {n : List UInt8} {r : R} {m : Int} (h : r.ok) : (andsR n r m).ok := by
  obtain ⟨ha, hx, hy, hs, hp, hq⟩ := h
  unfold andsR
  split; · exact ok_mk (bits_by _ _ _) hx hy hs (bits_by _ _ _) hq
  split; · exact ok_mk (lsrV_by (bits_by _ _ _)) hx hy hs (shF_by hp _) hq
  split; · exact ok_mk (arrV_by ha) hx hy hs (arrF_by hp) hq
  split; · exact ok_mk (bits_by _ _ _) hx hy hs (nz_by hp _) hq
  exact ok_mk ha hx hy hs hp hq
theorem readsR_ok {n : List UInt8} {r : R} {m : Int} (h : r.ok) (hm : By m) : (readsR n r m).ok := by
  have h3 := comparesR_ok (n := n) (m := m) (loadsR_ok (n := n) (andsR_ok (n := n) (m := m) h) hm)
  obtain ⟨ha, hx, hy, hs, hp, hq⟩ := h
  unfold readsR
  split; · exact ok_mk hm hx hy hs (nz_by hp _) hq
  split; · exact ok_mk (bits_by _ _ _) hx hy hs (nz_by hp _) hq
  split; · exact ok_mk (bits_by _ _ _) hx hy hs (nz_by hp _) hq
  split; · exact ok_mk (bits_by _ _ _) hx hy hs (nz_by hp _) hq
  split; · exact ok_mk (adcV_by _ _ _) hx hy hs (adcF_by hp) hq
  split; · exact ok_mk (sbcV_by _ _ _) hx hy hs (sbcF_by hp) hq
  exact h3
/-- What a name's shift makes of a byte, and the flags. -/
def shiftVF (n : List UInt8) (m p : Int) : Int × Int :=
  if (n == [65, 83, 76]) = true then (aslV m, aslF m p) else if (n == [76, 83, 82]) = true then (lsrV m, lsrF m p) else if (n == [82, 79, 76]) = true then (rolV m p, rolF m p) else (rorV m p, rorF m p)
def isShift (n : List UInt8) : Bool := n == [65, 83, 76] || n == [76, 83, 82] || n == [82, 79, 76] || n == [82, 79, 82]
theorem shiftVF_by {n : List UInt8} {m p : Int} (hm : By m) (hp : By p) : By (shiftVF n m p).1 ∧ By (shiftVF n m p).2 := by
  unfold shiftVF
  split; · exact ⟨aslV_by m, shF_by hp _⟩
  split; · exact ⟨lsrV_by hm, shF_by hp _⟩
  split; · exact ⟨rolV_by m p, shF_by hp _⟩
  exact ⟨rorV_by hm p, shF_by hp _⟩
/-- What one that modifies does, but for those that are two in one. -/
def modOne (n : List UInt8) (r : R) (m : Int) : R × Int :=
  if isShift n = true then ({ r with p := (shiftVF n m r.p).2 }, (shiftVF n m r.p).1)
  else if (n == [73, 78, 67]) = true then ({ r with p := nz r.p ((m + 1) % 256) }, (m + 1) % 256)
  else if (n == [68, 69, 67]) = true then ({ r with p := nz r.p ((m - 1) % 256) }, (m - 1) % 256)
  else if (n == [68, 67, 80]) = true then (readsR [67, 77, 80] r ((m - 1) % 256), (m - 1) % 256)
  else if (n == [73, 83, 67]) = true then (readsR [83, 66, 67] r ((m + 1) % 256), (m + 1) % 256)
  else (r, m)
def modR (n : List UInt8) (r : R) (m : Int) : R × Int :=
  if (n == [83, 76, 79]) = true then (readsR [79, 82, 65] (modOne [65, 83, 76] r m).1 (modOne [65, 83, 76] r m).2, (modOne [65, 83, 76] r m).2)
  else if (n == [82, 76, 65]) = true then (readsR [65, 78, 68] (modOne [82, 79, 76] r m).1 (modOne [82, 79, 76] r m).2, (modOne [82, 79, 76] r m).2)
  else if (n == [83, 82, 69]) = true then (readsR [69, 79, 82] (modOne [76, 83, 82] r m).1 (modOne [76, 83, 82] r m).2, (modOne [76, 83, 82] r m).2)
  else if (n == [82, 82, 65]) = true then (readsR [65, 68, 67] (modOne [82, 79, 82] r m).1 (modOne [82, 79, 82] r m).2, (modOne [82, 79, 82] r m).2)
  else modOne n r m
theorem modOne_ok {n : List UInt8} {r : R} {m : Int} (h : r.ok) (hm : By m) : (modOne n r m).1.ok ∧ By (modOne n r m).2 := by
  have hh := h
  obtain ⟨ha, hx, hy, hs, hp, hq⟩ := h
  unfold modOne
  split; · exact ⟨ok_mk ha hx hy hs ((shiftVF_by hm hp).2) hq, (shiftVF_by hm hp).1⟩
  split; · exact ⟨ok_mk ha hx hy hs (nz_by hp _) hq, mod_by _⟩
  split; · exact ⟨ok_mk ha hx hy hs (nz_by hp _) hq, mod_by _⟩
  split; · exact ⟨readsR_ok hh (mod_by _), mod_by _⟩
  split; · exact ⟨readsR_ok hh (mod_by _), mod_by _⟩
  exact ⟨hh, hm⟩
theorem modR_ok {n : List UInt8} {r : R} {m : Int} (h : r.ok) (hm : By m) : (modR n r m).1.ok ∧ By (modR n r m).2 := by
  have H := fun k => modOne_ok (n := k) h hm
  unfold modR
  split; · exact ⟨readsR_ok (H _).1 (H _).2, (H _).2⟩
  split; · exact ⟨readsR_ok (H _).1 (H _).2, (H _).2⟩
  split; · exact ⟨readsR_ok (H _).1 (H _).2, (H _).2⟩
  split; · exact ⟨readsR_ok (H _).1 (H _).2, (H _).2⟩
  exact H _
def innerR (n : List UInt8) (r : R) : R :=
  if isShift n = true then { r with a := (shiftVF n r.a r.p).1, p := (shiftVF n r.a r.p).2 }
  else if (n == [67, 76, 67]) = true then { r with p := Go.bits .andNot .u8 r.p 1 }
  else if (n == [67, 76, 68]) = true then { r with p := Go.bits .andNot .u8 r.p 8 }
  else if (n == [67, 76, 73]) = true then { r with p := Go.bits .andNot .u8 r.p 4 }
  else if (n == [67, 76, 86]) = true then { r with p := Go.bits .andNot .u8 r.p 64 }
  else if (n == [83, 69, 67]) = true then { r with p := Go.bits .or .u8 r.p 1 }
  else if (n == [83, 69, 68]) = true then { r with p := Go.bits .or .u8 r.p 8 }
  else if (n == [83, 69, 73]) = true then { r with p := Go.bits .or .u8 r.p 4 }
  else if (n == [84, 65, 88]) = true then { r with x := r.a, p := nz r.p r.a }
  else if (n == [84, 65, 89]) = true then { r with y := r.a, p := nz r.p r.a }
  else if (n == [84, 88, 65]) = true then { r with a := r.x, p := nz r.p r.x }
  else if (n == [84, 89, 65]) = true then { r with a := r.y, p := nz r.p r.y }
  else if (n == [84, 83, 88]) = true then { r with x := r.s, p := nz r.p r.s }
  else if (n == [84, 88, 83]) = true then { r with s := r.x }
  else if (n == [73, 78, 88]) = true then { r with x := (r.x + 1) % 256, p := nz r.p ((r.x + 1) % 256) }
  else if (n == [73, 78, 89]) = true then { r with y := (r.y + 1) % 256, p := nz r.p ((r.y + 1) % 256) }
  else if (n == [68, 69, 88]) = true then { r with x := (r.x - 1) % 256, p := nz r.p ((r.x - 1) % 256) }
  else if (n == [68, 69, 89]) = true then { r with y := (r.y - 1) % 256, p := nz r.p ((r.y - 1) % 256) }
  else r
theorem innerR_ok {n : List UInt8} {r : R} (h : r.ok) : (innerR n r).ok := by
  obtain ⟨ha, hx, hy, hs, hp, hq⟩ := h
  unfold innerR
  refine iteInduction (motive := R.ok) (fun _ => ?_) (fun _ => ?_); · exact ok_mk ((shiftVF_by ha hp).1) hx hy hs ((shiftVF_by ha hp).2) hq
  iterate 7 (refine iteInduction (motive := R.ok) (fun _ => ?_) (fun _ => ?_); · exact ok_mk ha hx hy hs (bits_by _ _ _) hq)
  refine iteInduction (motive := R.ok) (fun _ => ?_) (fun _ => ?_); · exact ok_mk ha ha hy hs (nz_by hp _) hq
  refine iteInduction (motive := R.ok) (fun _ => ?_) (fun _ => ?_); · exact ok_mk ha hx ha hs (nz_by hp _) hq
  refine iteInduction (motive := R.ok) (fun _ => ?_) (fun _ => ?_); · exact ok_mk hx hx hy hs (nz_by hp _) hq
  refine iteInduction (motive := R.ok) (fun _ => ?_) (fun _ => ?_); · exact ok_mk hy hx hy hs (nz_by hp _) hq
  refine iteInduction (motive := R.ok) (fun _ => ?_) (fun _ => ?_); · exact ok_mk ha hs hy hs (nz_by hp _) hq
  refine iteInduction (motive := R.ok) (fun _ => ?_) (fun _ => ?_); · exact ok_mk ha hx hy hx hp hq
  refine iteInduction (motive := R.ok) (fun _ => ?_) (fun _ => ?_); · exact ok_mk ha (mod_by _) hy hs (nz_by hp _) hq
  refine iteInduction (motive := R.ok) (fun _ => ?_) (fun _ => ?_); · exact ok_mk ha hx (mod_by _) hs (nz_by hp _) hq
  refine iteInduction (motive := R.ok) (fun _ => ?_) (fun _ => ?_); · exact ok_mk ha (mod_by _) hy hs (nz_by hp _) hq
  refine iteInduction (motive := R.ok) (fun _ => ?_) (fun _ => ?_); · exact ok_mk ha hx (mod_by _) hs (nz_by hp _) hq
  exact ok_mk ha hx hy hs hp hq
theorem pullsR_ok {n : List UInt8} {r : R} {m : Int} (h : r.ok) (hm : By m) : (pullsR n r m).ok := by
  obtain ⟨ha, hx, hy, hs, hp, hq⟩ := h
  unfold pullsR
  split; · exact ok_mk hm hx hy hs (nz_by hp _) hq
  split; · exact ok_mk ha hx hy hs (bits_by _ _ _) hq
  exact ok_mk ha hx hy hs hp hq
theorem writesR_ok {n : List UInt8} {r : R} (h : r.ok) : (writesR n r).ok := by
  obtain ⟨ha, hx, hy, hs, hp, hq⟩ := h
  unfold writesR
  split; · exact ok_mk ha hx hy (bits_by _ _ _) hp hq
  exact ok_mk ha hx hy hs hp hq
theorem pushesV_by {n : List UInt8} {r : R} (h : r.ok) : By (pushesV n r) := by
  unfold pushesV
  split; · exact h.1
  split; · exact bits_by _ _ _
  exact ⟨by omega, by omega⟩
theorem writesV_by {n : List UInt8} {r : R} {h : Int} (hr : r.ok) : By (writesV n r h) := by
  obtain ⟨ha, hx, hy, hs, hp, hq⟩ := hr
  unfold writesV
  split; · exact bits_by _ _ _
  unfold writesT
  simp only [atName]
  split; · exact ha
  split; · exact hx
  split; · exact hy
  split; · rw [Option.getD_some]; exact bits_by _ _ _
  split; · rw [Option.getD_some]; exact bits_by _ _ _
  split; · rw [Option.getD_some]; exact bits_by _ _ _
  split; · rw [Option.getD_some]; exact bits_by _ _ _
  exact ⟨by simp, by simp⟩
end Go.Proofs.YtifajfjiloajfaaGreatDoor.OwnEff
namespace Go.Proofs.YtifajfjiloajfaaGreatDoor.OwnEff
open Go.RowKit Go.Proofs.YtifajfjiloajfaaGreatDoor.Own

theorem info197 : (Tryz.prog.info? 197).map (fun i => (i.zero, i.size, i.bytes)) = some (some .nilFunc, 1, 8) := by kernel_rfl
def sumsT : List (ByteArray × Value) := [(⟨#[65, 68, 67]⟩, .func (.func 189) #[] #[]), (⟨#[83, 66, 67]⟩, .func (.func 190) #[] #[])]
theorem atName_all (n : List UInt8) : ∀ kvs : List (ByteArray × Int), atName n (kvs.map (fun kv => (kv.1, Value.int .u8 kv.2))) = (atName n kvs).map (Value.int .u8)
  | [] => rfl
  | (k, v) :: r => by
    simp only [List.map_cons, atName]
    split
    · rfl
    · exact atName_all n r
theorem plain_laid (W : World) (ra rx ry rs rp rpc m : Int) (n : ByteArray) (v : Option Int) (hv : atName n.toList (plainT ({ a := ra, x := rx, y := ry, s := rs, p := rp, pc := rpc }) m) = v) : ∃ O0 O1 O2 O3 O4 : Obj, (Instr.makeMap 186 none).run Tryz.prog W = .ok (.map (some W.heap.size)) (W.alloc O0) ∧
    (Instr.mapUpdate 186 (.map (some W.heap.size)) (.string ⟨#[76, 68, 65]⟩) (.int .u8 (m))).run Tryz.prog (W.alloc O0) = .ok () (W.alloc O1) ∧
    (Instr.mapUpdate 186 (.map (some W.heap.size)) (.string ⟨#[79, 82, 65]⟩) (.int .u8 (Go.bits .or .u8 ra m))).run Tryz.prog (W.alloc O1) = .ok () (W.alloc O2) ∧
    (Instr.mapUpdate 186 (.map (some W.heap.size)) (.string ⟨#[65, 78, 68]⟩) (.int .u8 (Go.bits .and .u8 ra m))).run Tryz.prog (W.alloc O2) = .ok () (W.alloc O3) ∧
    (Instr.mapUpdate 186 (.map (some W.heap.size)) (.string ⟨#[69, 79, 82]⟩) (.int .u8 (Go.bits .xor .u8 ra m))).run Tryz.prog (W.alloc O3) = .ok () (W.alloc O4) ∧
    (Instr.lookup 186 (.map (some W.heap.size)) (.string n) true).run Tryz.prog (W.alloc O4) = .ok (.tuple #[(v.map (Value.int .u8)).getD (.int .u8 0), .bool (v.map (Value.int .u8)).isSome]) (W.alloc O4) := by
  obtain ⟨i0, hi, hz0, _, _⟩ := info_parts info5'
  have hlk := (name_run (P := Tryz.prog) (w := (W.alloc (.map (ents ([(⟨#[76, 68, 65]⟩, .int .u8 (m)), (⟨#[79, 82, 65]⟩, .int .u8 (Go.bits .or .u8 ra m)), (⟨#[65, 78, 68]⟩, .int .u8 (Go.bits .and .u8 ra m)), (⟨#[69, 79, 82]⟩, .int .u8 (Go.bits .xor .u8 ra m))] : List (ByteArray × Value)) 0).toArray 4))) 186 _ _ ([(⟨#[76, 68, 65]⟩, .int .u8 (m)), (⟨#[79, 82, 65]⟩, .int .u8 (Go.bits .or .u8 ra m)), (⟨#[65, 78, 68]⟩, .int .u8 (Go.bits .and .u8 ra m)), (⟨#[69, 79, 82]⟩, .int .u8 (Go.bits .xor .u8 ra m))] : List (ByteArray × Value)) 4 W.heap.size n i0 (.int .u8 0) Tryz.underlying186 Tryz.underlying9 hi hz0 (heap_alloc_new W _)).2
  have hv' : atName n.toList ([(⟨#[76, 68, 65]⟩, .int .u8 (m)), (⟨#[79, 82, 65]⟩, .int .u8 (Go.bits .or .u8 ra m)), (⟨#[65, 78, 68]⟩, .int .u8 (Go.bits .and .u8 ra m)), (⟨#[69, 79, 82]⟩, .int .u8 (Go.bits .xor .u8 ra m))] : List (ByteArray × Value)) = v.map (Value.int .u8) := by
    have h := atName_all n.toList (plainT ({ a := ra, x := rx, y := ry, s := rs, p := rp, pc := rpc }) m)
    rw [hv] at h
    exact h
  rw [hv'] at hlk
  have hmm := @run_makeMap Tryz.prog 186 W
  have l0 := lay_run (P := Tryz.prog) (w := W) 186 _ _ ([] : List (ByteArray × Value)) (⟨#[76, 68, 65]⟩) (.int .u8 (m)) Tryz.underlying186 Tryz.underlying9 (by simp [atName])
  replace l0 : (Instr.mapUpdate 186 (.map (some W.heap.size)) (.string ⟨#[76, 68, 65]⟩) (.int .u8 (m))).run Tryz.prog (W.alloc (.map #[] 0)) = .ok () (W.alloc (.map (ents ([(⟨#[76, 68, 65]⟩, .int .u8 (m))] : List (ByteArray × Value)) 0).toArray 1)) := l0
  have l1 := lay_run (P := Tryz.prog) (w := W) 186 _ _ ([(⟨#[76, 68, 65]⟩, .int .u8 (m))] : List (ByteArray × Value)) (⟨#[79, 82, 65]⟩) (.int .u8 (Go.bits .or .u8 ra m)) Tryz.underlying186 Tryz.underlying9 (by simp [atName, Lib.toList_data])
  replace l1 : (Instr.mapUpdate 186 (.map (some W.heap.size)) (.string ⟨#[79, 82, 65]⟩) (.int .u8 (Go.bits .or .u8 ra m))).run Tryz.prog (W.alloc (.map (ents ([(⟨#[76, 68, 65]⟩, .int .u8 (m))] : List (ByteArray × Value)) 0).toArray 1)) = .ok () (W.alloc (.map (ents ([(⟨#[76, 68, 65]⟩, .int .u8 (m)), (⟨#[79, 82, 65]⟩, .int .u8 (Go.bits .or .u8 ra m))] : List (ByteArray × Value)) 0).toArray 2)) := l1
  have l2 := lay_run (P := Tryz.prog) (w := W) 186 _ _ ([(⟨#[76, 68, 65]⟩, .int .u8 (m)), (⟨#[79, 82, 65]⟩, .int .u8 (Go.bits .or .u8 ra m))] : List (ByteArray × Value)) (⟨#[65, 78, 68]⟩) (.int .u8 (Go.bits .and .u8 ra m)) Tryz.underlying186 Tryz.underlying9 (by simp [atName, Lib.toList_data])
  replace l2 : (Instr.mapUpdate 186 (.map (some W.heap.size)) (.string ⟨#[65, 78, 68]⟩) (.int .u8 (Go.bits .and .u8 ra m))).run Tryz.prog (W.alloc (.map (ents ([(⟨#[76, 68, 65]⟩, .int .u8 (m)), (⟨#[79, 82, 65]⟩, .int .u8 (Go.bits .or .u8 ra m))] : List (ByteArray × Value)) 0).toArray 2)) = .ok () (W.alloc (.map (ents ([(⟨#[76, 68, 65]⟩, .int .u8 (m)), (⟨#[79, 82, 65]⟩, .int .u8 (Go.bits .or .u8 ra m)), (⟨#[65, 78, 68]⟩, .int .u8 (Go.bits .and .u8 ra m))] : List (ByteArray × Value)) 0).toArray 3)) := l2
  have l3 := lay_run (P := Tryz.prog) (w := W) 186 _ _ ([(⟨#[76, 68, 65]⟩, .int .u8 (m)), (⟨#[79, 82, 65]⟩, .int .u8 (Go.bits .or .u8 ra m)), (⟨#[65, 78, 68]⟩, .int .u8 (Go.bits .and .u8 ra m))] : List (ByteArray × Value)) (⟨#[69, 79, 82]⟩) (.int .u8 (Go.bits .xor .u8 ra m)) Tryz.underlying186 Tryz.underlying9 (by simp [atName, Lib.toList_data])
  replace l3 : (Instr.mapUpdate 186 (.map (some W.heap.size)) (.string ⟨#[69, 79, 82]⟩) (.int .u8 (Go.bits .xor .u8 ra m))).run Tryz.prog (W.alloc (.map (ents ([(⟨#[76, 68, 65]⟩, .int .u8 (m)), (⟨#[79, 82, 65]⟩, .int .u8 (Go.bits .or .u8 ra m)), (⟨#[65, 78, 68]⟩, .int .u8 (Go.bits .and .u8 ra m))] : List (ByteArray × Value)) 0).toArray 3)) = .ok () (W.alloc (.map (ents ([(⟨#[76, 68, 65]⟩, .int .u8 (m)), (⟨#[79, 82, 65]⟩, .int .u8 (Go.bits .or .u8 ra m)), (⟨#[65, 78, 68]⟩, .int .u8 (Go.bits .and .u8 ra m)), (⟨#[69, 79, 82]⟩, .int .u8 (Go.bits .xor .u8 ra m))] : List (ByteArray × Value)) 0).toArray 4)) := l3
  exact ⟨_, _, _, _, _, hmm, l0, l1, l2, l3, hlk⟩
theorem sums_laid (W : World) (n : ByteArray) (v : Option Value) (hn : atName n.toList sumsT = v) : ∃ O0 O1 O2 : Obj, (Instr.makeMap 198 none).run Tryz.prog W = .ok (.map (some W.heap.size)) (W.alloc O0) ∧
    (Instr.mapUpdate 198 (.map (some W.heap.size)) (.string ⟨#[65, 68, 67]⟩) (.func (.func 189) #[] #[])).run Tryz.prog (W.alloc O0) = .ok () (W.alloc O1) ∧
    (Instr.mapUpdate 198 (.map (some W.heap.size)) (.string ⟨#[83, 66, 67]⟩) (.func (.func 190) #[] #[])).run Tryz.prog (W.alloc O1) = .ok () (W.alloc O2) ∧
    (Instr.lookup 198 (.map (some W.heap.size)) (.string n) false).run Tryz.prog (W.alloc O2) = .ok (v.getD .nilFunc) (W.alloc O2) := by
  obtain ⟨i1, hi1, hz1, _, _⟩ := info_parts info197
  have hlb := (name_run (P := Tryz.prog) (w := W.alloc (.map (ents sumsT 0).toArray 2)) 198 _ _ sumsT 2 W.heap.size n i1 .nilFunc Tryz.underlying198 Tryz.underlying9 hi1 hz1 (heap_alloc_new _ _)).1
  rw [hn] at hlb
  have hmm := @run_makeMap Tryz.prog 198 W
  have l0 := lay_run (P := Tryz.prog) (w := W) 198 _ _ ([] : List (ByteArray × Value)) (⟨#[65, 68, 67]⟩) (.func (.func 189) #[] #[]) Tryz.underlying198 Tryz.underlying9 (by simp [atName])
  replace l0 : (Instr.mapUpdate 198 (.map (some W.heap.size)) (.string ⟨#[65, 68, 67]⟩) (.func (.func 189) #[] #[])).run Tryz.prog (W.alloc (.map #[] 0)) = .ok () (W.alloc (.map (ents ([(⟨#[65, 68, 67]⟩, .func (.func 189) #[] #[])] : List (ByteArray × Value)) 0).toArray 1)) := l0
  have l1 := lay_run (P := Tryz.prog) (w := W) 198 _ _ ([(⟨#[65, 68, 67]⟩, .func (.func 189) #[] #[])] : List (ByteArray × Value)) (⟨#[83, 66, 67]⟩) (.func (.func 190) #[] #[]) Tryz.underlying198 Tryz.underlying9 (by simp [atName, Lib.toList_data])
  replace l1 : (Instr.mapUpdate 198 (.map (some W.heap.size)) (.string ⟨#[83, 66, 67]⟩) (.func (.func 190) #[] #[])).run Tryz.prog (W.alloc (.map (ents ([(⟨#[65, 68, 67]⟩, .func (.func 189) #[] #[])] : List (ByteArray × Value)) 0).toArray 1)) = .ok () (W.alloc (.map (ents ([(⟨#[65, 68, 67]⟩, .func (.func 189) #[] #[]), (⟨#[83, 66, 67]⟩, .func (.func 190) #[] #[])] : List (ByteArray × Value)) 0).toArray 2)) := l1
  exact ⟨_, _, _, hmm, l0, l1, hlb⟩
theorem sum_keeps (w w3 : World) (OA OB : Obj) (ra rx ry rs rp rpc : Int) (hb3 : Below (((((w.alloc (.cells #[.int .u8 ra, .int .u8 rx, .int .u8 ry, .int .u8 rs, .int .u8 rp, .int .u16 rpc] 57)).alloc (.cells #[.int .u8 0, .int .u8 0, .int .u8 0, .int .u8 0, .int .u8 0, .int .u16 0] 57))).alloc OA).alloc OB).heap.size (((((w.alloc (.cells #[.int .u8 ra, .int .u8 rx, .int .u8 ry, .int .u8 rs, .int .u8 rp, .int .u16 rpc] 57)).alloc (.cells #[.int .u8 0, .int .u8 0, .int .u8 0, .int .u8 0, .int .u8 0, .int .u16 0] 57))).alloc OA).alloc OB) w3) :
    (w3.cell? ⟨w.heap.size, 0, none⟩ = some (.int .u8 ra) ∧ w3.cell? ⟨w.heap.size, 1, none⟩ = some (.int .u8 rx) ∧ w3.cell? ⟨w.heap.size, 2, none⟩ = some (.int .u8 ry) ∧ w3.cell? ⟨w.heap.size, 3, none⟩ = some (.int .u8 rs) ∧ w3.cell? ⟨w.heap.size, 4, none⟩ = some (.int .u8 rp) ∧ w3.cell? ⟨w.heap.size, 5, none⟩ = some (.int .u16 rpc) ∧
     w3.cell? ⟨w.heap.size + 1, 0, none⟩ = some (.int .u8 0) ∧ w3.cell? ⟨w.heap.size + 1, 1, none⟩ = some (.int .u8 0) ∧ w3.cell? ⟨w.heap.size + 1, 2, none⟩ = some (.int .u8 0) ∧ w3.cell? ⟨w.heap.size + 1, 3, none⟩ = some (.int .u8 0) ∧ w3.cell? ⟨w.heap.size + 1, 4, none⟩ = some (.int .u8 0) ∧ w3.cell? ⟨w.heap.size + 1, 5, none⟩ = some (.int .u16 0)) ∧
    w3.frozen? ⟨w.heap.size, 0, none⟩ = false ∧ w3.frozen? ⟨w.heap.size, 1, none⟩ = false ∧ w3.frozen? ⟨w.heap.size, 2, none⟩ = false ∧ w3.frozen? ⟨w.heap.size, 3, none⟩ = false ∧ w3.frozen? ⟨w.heap.size, 4, none⟩ = false ∧ w3.frozen? ⟨w.heap.size, 5, none⟩ = false ∧
     w3.frozen? ⟨w.heap.size + 1, 0, none⟩ = false ∧ w3.frozen? ⟨w.heap.size + 1, 1, none⟩ = false ∧ w3.frozen? ⟨w.heap.size + 1, 2, none⟩ = false ∧ w3.frozen? ⟨w.heap.size + 1, 3, none⟩ = false ∧ w3.frozen? ⟨w.heap.size + 1, 4, none⟩ = false ∧ w3.frozen? ⟨w.heap.size + 1, 5, none⟩ = false ∧ Below w.heap.size w w3 := by
  have A1 : Blk w3 w.heap.size 57 #[.int .u8 ra, .int .u8 rx, .int .u8 ry, .int .u8 rs, .int .u8 rp, .int .u16 rpc] := ((((Blk.new w 57 _).alloc _).alloc OA).alloc OB).below hb3 (by simp; omega)
  have A2 : Blk w3 (w.heap.size + 1) 57 #[.int .u8 0, .int .u8 0, .int .u8 0, .int .u8 0, .int .u8 0, .int .u16 0] := by
    have h := ((Blk.new (w.alloc (.cells #[.int .u8 ra, .int .u8 rx, .int .u8 ry, .int .u8 rs, .int .u8 rp, .int .u16 rpc] 57)) 57 #[.int .u8 0, .int .u8 0, .int .u8 0, .int .u8 0, .int .u8 0, .int .u16 0]).alloc OA).alloc OB
    simp only [World.size_alloc] at h
    exact h.below hb3 (by simp)
  refine ⟨⟨(A1.cell 0).trans rfl, (A1.cell 1).trans rfl, (A1.cell 2).trans rfl, (A1.cell 3).trans rfl, (A1.cell 4).trans rfl, (A1.cell 5).trans rfl, (A2.cell 0).trans rfl, (A2.cell 1).trans rfl, (A2.cell 2).trans rfl, (A2.cell 3).trans rfl, (A2.cell 4).trans rfl, (A2.cell 5).trans rfl⟩, A1.frozen 0, A1.frozen 1, A1.frozen 2, A1.frozen 3, A1.frozen 4, A1.frozen 5, A2.frozen 0, A2.frozen 1, A2.frozen 2, A2.frozen 3, A2.frozen 4, A2.frozen 5, ?_⟩
  exact ((((Below.refl _ w).alloc (Nat.le_refl _) _).alloc (by simp) _ |>.alloc (by simp; omega) _).alloc (by simp; omega) _).trans (hb3.mono (by simp; omega))
set_option maxHeartbeats 6400000 in
set_option maxRecDepth 100000 in
theorem reads_plain (n : ByteArray) (r : R) (m : Int) (w : World) (hr : r.ok) (v : Int) (hv : atName n.toList (plainT r m) = some v) :
    Calls Tryz.prog 175 #[.string n, r.val, .int .u8 m] w fun e w' => e = .returned ({ r with a := v, p := nz r.p v }).val ∧ Below w.heap.size w w' := by
  obtain ⟨ra, rx, ry, rs, rp, rpc⟩ := r
  obtain ⟨ha, hx, hy, hs, hp, hq⟩ := hr
  obtain ⟨O0, O1, O2, O3, OA, hmm, l0, l1, l2, l3, hlk⟩ := plain_laid ((w.alloc (.cells #[.int .u8 ra, .int .u8 rx, .int .u8 ry, .int .u8 rs, .int .u8 rp, .int .u16 rpc] 57)).alloc (.cells #[.int .u8 0, .int .u8 0, .int .u8 0, .int .u8 0, .int .u8 0, .int .u16 0] 57)) ra rx ry rs rp rpc m n _ hv
  replace hlk : (Instr.lookup 186 (.map (some ((w.alloc (.cells #[.int .u8 ra, .int .u8 rx, .int .u8 ry, .int .u8 rs, .int .u8 rp, .int .u16 rpc] 57)).alloc (.cells #[.int .u8 0, .int .u8 0, .int .u8 0, .int .u8 0, .int .u8 0, .int .u16 0] 57)).heap.size)) (.string n) true).run Tryz.prog (((w.alloc (.cells #[.int .u8 ra, .int .u8 rx, .int .u8 ry, .int .u8 rs, .int .u8 rp, .int .u16 rpc] 57)).alloc (.cells #[.int .u8 0, .int .u8 0, .int .u8 0, .int .u8 0, .int .u8 0, .int .u16 0] 57)).alloc OA) = .ok (.tuple #[.int .u8 v, .bool true]) (((w.alloc (.cells #[.int .u8 ra, .int .u8 rx, .int .u8 ry, .int .u8 rs, .int .u8 rp, .int .u16 rpc] 57)).alloc (.cells #[.int .u8 0, .int .u8 0, .int .u8 0, .int .u8 0, .int .u8 0, .int .u16 0] 57)).alloc OA) := hlk
  clear hv
  simp only [World.size_alloc] at hmm l0 l1 l2 l3 hlk
  have HS := Lib.hid (fun p1 p2 v w h1 f1 h2 f2 => set_any p1 p2 v rp w h1 f1 h2 f2 hp)
  simp only [R.val]
  go_enter Tryz.func175, Tryz.ntmps175
  go_wp2_with (go_at_call 187; refine (HS.out _ _ _ _ ?_ ?_ ?_ ?_).mono ?_; (iterate 4 (focus (simp [go_sem]; done))); rintro e w' ⟨rfl, rfl⟩)
  refine bodyPost_ret (v := .agg #[.int .u8 v, .int .u8 rx, .int .u8 ry, .int .u8 rs, .int .u8 (nz rp v), .int .u16 rpc]) ?_ rfl ⟨rfl, (((Below.refl _ w).alloc (Nat.le_refl _) _).alloc (by simp) _).alloc (by simp; omega) _⟩
  simp [results, Tryz.results175, go_sem]
set_option maxHeartbeats 6400000 in
set_option maxRecDepth 100000 in
theorem reads_adc (n : ByteArray) (r : R) (m : Int) (w : World) (hr : r.ok) (hm : By m) (hv : atName n.toList (plainT r m) = none) (hn : atName n.toList sumsT = some (.func (.func 189) #[] #[])) :
    Calls Tryz.prog 175 #[.string n, r.val, .int .u8 m] w fun e w' => e = .returned ({ r with a := adcV r.a m r.p, p := adcF r.a m r.p }).val ∧ Below w.heap.size w w' := by
  obtain ⟨ra, rx, ry, rs, rp, rpc⟩ := r
  obtain ⟨ha, hx, hy, hs, hp, hq⟩ := hr
  obtain ⟨O0, O1, O2, O3, OA, hmm, l0, l1, l2, l3, hlk⟩ := plain_laid ((w.alloc (.cells #[.int .u8 ra, .int .u8 rx, .int .u8 ry, .int .u8 rs, .int .u8 rp, .int .u16 rpc] 57)).alloc (.cells #[.int .u8 0, .int .u8 0, .int .u8 0, .int .u8 0, .int .u8 0, .int .u16 0] 57)) ra rx ry rs rp rpc m n _ hv
  replace hlk : (Instr.lookup 186 (.map (some ((w.alloc (.cells #[.int .u8 ra, .int .u8 rx, .int .u8 ry, .int .u8 rs, .int .u8 rp, .int .u16 rpc] 57)).alloc (.cells #[.int .u8 0, .int .u8 0, .int .u8 0, .int .u8 0, .int .u8 0, .int .u16 0] 57)).heap.size)) (.string n) true).run Tryz.prog (((w.alloc (.cells #[.int .u8 ra, .int .u8 rx, .int .u8 ry, .int .u8 rs, .int .u8 rp, .int .u16 rpc] 57)).alloc (.cells #[.int .u8 0, .int .u8 0, .int .u8 0, .int .u8 0, .int .u8 0, .int .u16 0] 57)).alloc OA) = .ok (.tuple #[.int .u8 0, .bool false]) (((w.alloc (.cells #[.int .u8 ra, .int .u8 rx, .int .u8 ry, .int .u8 rs, .int .u8 rp, .int .u16 rpc] 57)).alloc (.cells #[.int .u8 0, .int .u8 0, .int .u8 0, .int .u8 0, .int .u8 0, .int .u16 0] 57)).alloc OA) := hlk
  clear hv
  obtain ⟨P0, P1, OB, hmn, k0, k1, hlb⟩ := sums_laid (((w.alloc (.cells #[.int .u8 ra, .int .u8 rx, .int .u8 ry, .int .u8 rs, .int .u8 rp, .int .u16 rpc] 57)).alloc (.cells #[.int .u8 0, .int .u8 0, .int .u8 0, .int .u8 0, .int .u8 0, .int .u16 0] 57)).alloc OA) n _ hn
  replace hlb : (Instr.lookup 198 (.map (some (((w.alloc (.cells #[.int .u8 ra, .int .u8 rx, .int .u8 ry, .int .u8 rs, .int .u8 rp, .int .u16 rpc] 57)).alloc (.cells #[.int .u8 0, .int .u8 0, .int .u8 0, .int .u8 0, .int .u8 0, .int .u16 0] 57)).alloc OA).heap.size)) (.string n) false).run Tryz.prog ((((w.alloc (.cells #[.int .u8 ra, .int .u8 rx, .int .u8 ry, .int .u8 rs, .int .u8 rp, .int .u16 rpc] 57)).alloc (.cells #[.int .u8 0, .int .u8 0, .int .u8 0, .int .u8 0, .int .u8 0, .int .u16 0] 57)).alloc OA).alloc OB) = .ok (.func (.func 189) #[] #[]) ((((w.alloc (.cells #[.int .u8 ra, .int .u8 rx, .int .u8 ry, .int .u8 rs, .int .u8 rp, .int .u16 rpc] 57)).alloc (.cells #[.int .u8 0, .int .u8 0, .int .u8 0, .int .u8 0, .int .u8 0, .int .u16 0] 57)).alloc OA).alloc OB) := hlb
  clear hn
  simp only [World.size_alloc] at hmm l0 l1 l2 l3 hlk hmn k0 k1 hlb
  have HS := Lib.hid (fun w => adc_any ra m rp w ha hm hp)
  have hq2 : ∀ w : World, (binOp .neq 197 (.func (.func 189) #[] #[]) .nilFunc).run Tryz.prog w = .ok (.bool true) w := fun _ => by kernel_rfl
  have HX := Lib.hid (fun (w3 : World) (hb3 : Below (((w.alloc (.cells #[.int .u8 ra, .int .u8 rx, .int .u8 ry, .int .u8 rs, .int .u8 rp, .int .u16 rpc] 57)).alloc (.cells #[.int .u8 0, .int .u8 0, .int .u8 0, .int .u8 0, .int .u8 0, .int .u16 0] 57)).alloc OA |>.alloc OB).heap.size ((((w.alloc (.cells #[.int .u8 ra, .int .u8 rx, .int .u8 ry, .int .u8 rs, .int .u8 rp, .int .u16 rpc] 57)).alloc (.cells #[.int .u8 0, .int .u8 0, .int .u8 0, .int .u8 0, .int .u8 0, .int .u16 0] 57)).alloc OA).alloc OB) w3) => sum_keeps w w3 OA OB ra rx ry rs rp rpc hb3)
  simp only [R.val]
  go_enter Tryz.func175, Tryz.ntmps175
  go_wp2_with (go_at_call 189; refine (HS.out _).mono ?_; rintro e w3 ⟨rfl, hb3⟩; obtain ⟨⟨K0, K1, K2, K3, K4, K5, K6, K7, K8, K9, KA, KB⟩, F0, F1, F2, F3, F4, F5, F6, F7, F8, F9, FA, FB, hb⟩ := HX.out w3 ⟨hb3.os, hb3.tape, hb3.output, hb3.size, hb3.block⟩)
  refine bodyPost_ret (v := .agg #[.int .u8 (adcV ra m rp), .int .u8 rx, .int .u8 ry, .int .u8 rs, .int .u8 (adcF ra m rp), .int .u16 rpc]) ?_ rfl ⟨rfl, ?_⟩
  · simp [results, Tryz.results175, go_sem, *]
  · iterate 8 (refine Below.setCell ?_ (by simp) _)
    exact hb
set_option maxHeartbeats 6400000 in
set_option maxRecDepth 100000 in
theorem reads_sbc (n : ByteArray) (r : R) (m : Int) (w : World) (hr : r.ok) (hm : By m) (hv : atName n.toList (plainT r m) = none) (hn : atName n.toList sumsT = some (.func (.func 190) #[] #[])) :
    Calls Tryz.prog 175 #[.string n, r.val, .int .u8 m] w fun e w' => e = .returned ({ r with a := sbcV r.a m r.p, p := sbcF r.a m r.p }).val ∧ Below w.heap.size w w' := by
  obtain ⟨ra, rx, ry, rs, rp, rpc⟩ := r
  obtain ⟨ha, hx, hy, hs, hp, hq⟩ := hr
  obtain ⟨O0, O1, O2, O3, OA, hmm, l0, l1, l2, l3, hlk⟩ := plain_laid ((w.alloc (.cells #[.int .u8 ra, .int .u8 rx, .int .u8 ry, .int .u8 rs, .int .u8 rp, .int .u16 rpc] 57)).alloc (.cells #[.int .u8 0, .int .u8 0, .int .u8 0, .int .u8 0, .int .u8 0, .int .u16 0] 57)) ra rx ry rs rp rpc m n _ hv
  replace hlk : (Instr.lookup 186 (.map (some ((w.alloc (.cells #[.int .u8 ra, .int .u8 rx, .int .u8 ry, .int .u8 rs, .int .u8 rp, .int .u16 rpc] 57)).alloc (.cells #[.int .u8 0, .int .u8 0, .int .u8 0, .int .u8 0, .int .u8 0, .int .u16 0] 57)).heap.size)) (.string n) true).run Tryz.prog (((w.alloc (.cells #[.int .u8 ra, .int .u8 rx, .int .u8 ry, .int .u8 rs, .int .u8 rp, .int .u16 rpc] 57)).alloc (.cells #[.int .u8 0, .int .u8 0, .int .u8 0, .int .u8 0, .int .u8 0, .int .u16 0] 57)).alloc OA) = .ok (.tuple #[.int .u8 0, .bool false]) (((w.alloc (.cells #[.int .u8 ra, .int .u8 rx, .int .u8 ry, .int .u8 rs, .int .u8 rp, .int .u16 rpc] 57)).alloc (.cells #[.int .u8 0, .int .u8 0, .int .u8 0, .int .u8 0, .int .u8 0, .int .u16 0] 57)).alloc OA) := hlk
  clear hv
  obtain ⟨P0, P1, OB, hmn, k0, k1, hlb⟩ := sums_laid (((w.alloc (.cells #[.int .u8 ra, .int .u8 rx, .int .u8 ry, .int .u8 rs, .int .u8 rp, .int .u16 rpc] 57)).alloc (.cells #[.int .u8 0, .int .u8 0, .int .u8 0, .int .u8 0, .int .u8 0, .int .u16 0] 57)).alloc OA) n _ hn
  replace hlb : (Instr.lookup 198 (.map (some (((w.alloc (.cells #[.int .u8 ra, .int .u8 rx, .int .u8 ry, .int .u8 rs, .int .u8 rp, .int .u16 rpc] 57)).alloc (.cells #[.int .u8 0, .int .u8 0, .int .u8 0, .int .u8 0, .int .u8 0, .int .u16 0] 57)).alloc OA).heap.size)) (.string n) false).run Tryz.prog ((((w.alloc (.cells #[.int .u8 ra, .int .u8 rx, .int .u8 ry, .int .u8 rs, .int .u8 rp, .int .u16 rpc] 57)).alloc (.cells #[.int .u8 0, .int .u8 0, .int .u8 0, .int .u8 0, .int .u8 0, .int .u16 0] 57)).alloc OA).alloc OB) = .ok (.func (.func 190) #[] #[]) ((((w.alloc (.cells #[.int .u8 ra, .int .u8 rx, .int .u8 ry, .int .u8 rs, .int .u8 rp, .int .u16 rpc] 57)).alloc (.cells #[.int .u8 0, .int .u8 0, .int .u8 0, .int .u8 0, .int .u8 0, .int .u16 0] 57)).alloc OA).alloc OB) := hlb
  clear hn
  simp only [World.size_alloc] at hmm l0 l1 l2 l3 hlk hmn k0 k1 hlb
  have HS := Lib.hid (fun w => sbc_any ra m rp w ha hm hp)
  have hq2 : ∀ w : World, (binOp .neq 197 (.func (.func 190) #[] #[]) .nilFunc).run Tryz.prog w = .ok (.bool true) w := fun _ => by kernel_rfl
  have HX := Lib.hid (fun (w3 : World) (hb3 : Below (((w.alloc (.cells #[.int .u8 ra, .int .u8 rx, .int .u8 ry, .int .u8 rs, .int .u8 rp, .int .u16 rpc] 57)).alloc (.cells #[.int .u8 0, .int .u8 0, .int .u8 0, .int .u8 0, .int .u8 0, .int .u16 0] 57)).alloc OA |>.alloc OB).heap.size ((((w.alloc (.cells #[.int .u8 ra, .int .u8 rx, .int .u8 ry, .int .u8 rs, .int .u8 rp, .int .u16 rpc] 57)).alloc (.cells #[.int .u8 0, .int .u8 0, .int .u8 0, .int .u8 0, .int .u8 0, .int .u16 0] 57)).alloc OA).alloc OB) w3) => sum_keeps w w3 OA OB ra rx ry rs rp rpc hb3)
  simp only [R.val]
  go_enter Tryz.func175, Tryz.ntmps175
  go_wp2_with (go_at_call 190; refine (HS.out _).mono ?_; rintro e w3 ⟨rfl, hb3⟩; obtain ⟨⟨K0, K1, K2, K3, K4, K5, K6, K7, K8, K9, KA, KB⟩, F0, F1, F2, F3, F4, F5, F6, F7, F8, F9, FA, FB, hb⟩ := HX.out w3 ⟨hb3.os, hb3.tape, hb3.output, hb3.size, hb3.block⟩)
  refine bodyPost_ret (v := .agg #[.int .u8 (sbcV ra m rp), .int .u8 rx, .int .u8 ry, .int .u8 rs, .int .u8 (sbcF ra m rp), .int .u16 rpc]) ?_ rfl ⟨rfl, ?_⟩
  · simp [results, Tryz.results175, go_sem, *]
  · iterate 8 (refine Below.setCell ?_ (by simp) _)
    exact hb
set_option maxHeartbeats 6400000 in
set_option maxRecDepth 100000 in
theorem reads_rest (n : ByteArray) (r : R) (m : Int) (w : World) (hr : r.ok) (hm : By m) (hv : atName n.toList (plainT r m) = none) (hn : atName n.toList sumsT = none) :
    Calls Tryz.prog 175 #[.string n, r.val, .int .u8 m] w fun e w' => e = .returned (comparesR n.toList (loadsR n.toList (andsR n.toList r m) m) m).val ∧ Below w.heap.size w w' := by
  obtain ⟨ra, rx, ry, rs, rp, rpc⟩ := r
  obtain ⟨ha, hx, hy, hs, hp, hq⟩ := hr
  obtain ⟨O0, O1, O2, O3, OA, hmm, l0, l1, l2, l3, hlk⟩ := plain_laid ((w.alloc (.cells #[.int .u8 ra, .int .u8 rx, .int .u8 ry, .int .u8 rs, .int .u8 rp, .int .u16 rpc] 57)).alloc (.cells #[.int .u8 0, .int .u8 0, .int .u8 0, .int .u8 0, .int .u8 0, .int .u16 0] 57)) ra rx ry rs rp rpc m n _ hv
  replace hlk : (Instr.lookup 186 (.map (some ((w.alloc (.cells #[.int .u8 ra, .int .u8 rx, .int .u8 ry, .int .u8 rs, .int .u8 rp, .int .u16 rpc] 57)).alloc (.cells #[.int .u8 0, .int .u8 0, .int .u8 0, .int .u8 0, .int .u8 0, .int .u16 0] 57)).heap.size)) (.string n) true).run Tryz.prog (((w.alloc (.cells #[.int .u8 ra, .int .u8 rx, .int .u8 ry, .int .u8 rs, .int .u8 rp, .int .u16 rpc] 57)).alloc (.cells #[.int .u8 0, .int .u8 0, .int .u8 0, .int .u8 0, .int .u8 0, .int .u16 0] 57)).alloc OA) = .ok (.tuple #[.int .u8 0, .bool false]) (((w.alloc (.cells #[.int .u8 ra, .int .u8 rx, .int .u8 ry, .int .u8 rs, .int .u8 rp, .int .u16 rpc] 57)).alloc (.cells #[.int .u8 0, .int .u8 0, .int .u8 0, .int .u8 0, .int .u8 0, .int .u16 0] 57)).alloc OA) := hlk
  clear hv
  obtain ⟨P0, P1, OB, hmn, k0, k1, hlb⟩ := sums_laid (((w.alloc (.cells #[.int .u8 ra, .int .u8 rx, .int .u8 ry, .int .u8 rs, .int .u8 rp, .int .u16 rpc] 57)).alloc (.cells #[.int .u8 0, .int .u8 0, .int .u8 0, .int .u8 0, .int .u8 0, .int .u16 0] 57)).alloc OA) n _ hn
  replace hlb : (Instr.lookup 198 (.map (some (((w.alloc (.cells #[.int .u8 ra, .int .u8 rx, .int .u8 ry, .int .u8 rs, .int .u8 rp, .int .u16 rpc] 57)).alloc (.cells #[.int .u8 0, .int .u8 0, .int .u8 0, .int .u8 0, .int .u8 0, .int .u16 0] 57)).alloc OA).heap.size)) (.string n) false).run Tryz.prog ((((w.alloc (.cells #[.int .u8 ra, .int .u8 rx, .int .u8 ry, .int .u8 rs, .int .u8 rp, .int .u16 rpc] 57)).alloc (.cells #[.int .u8 0, .int .u8 0, .int .u8 0, .int .u8 0, .int .u8 0, .int .u16 0] 57)).alloc OA).alloc OB) = .ok .nilFunc ((((w.alloc (.cells #[.int .u8 ra, .int .u8 rx, .int .u8 ry, .int .u8 rs, .int .u8 rp, .int .u16 rpc] 57)).alloc (.cells #[.int .u8 0, .int .u8 0, .int .u8 0, .int .u8 0, .int .u8 0, .int .u16 0] 57)).alloc OA).alloc OB) := hlb
  clear hn
  simp only [World.size_alloc] at hmm l0 l1 l2 l3 hlk hmn k0 k1 hlb
  have hr0 : (R.mk ra rx ry rs rp rpc).ok := ⟨ha, hx, hy, hs, hp, hq⟩
  obtain ⟨q1, e1⟩ : ∃ q, q = andsR n.toList (R.mk ra rx ry rs rp rpc) m := ⟨_, rfl⟩
  have g1 : q1.ok := e1 ▸ andsR_ok hr0
  obtain ⟨q2, e2⟩ : ∃ q, q = loadsR n.toList q1 m := ⟨_, rfl⟩
  have g2 : q2.ok := e2 ▸ loadsR_ok g1 hm
  obtain ⟨q3, e3⟩ : ∃ q, q = comparesR n.toList q2 m := ⟨_, rfl⟩
  have HA : Hid (∀ w, Calls Tryz.prog 193 #[.string n, .agg #[.int .u8 ra, .int .u8 rx, .int .u8 ry, .int .u8 rs, .int .u8 rp, .int .u16 rpc], .int .u8 m] w fun e w' => e = .returned (.agg #[.int .u8 q1.a, .int .u8 q1.x, .int .u8 q1.y, .int .u8 q1.s, .int .u8 q1.p, .int .u16 q1.pc]) ∧ Below w.heap.size w w') := Lib.hid (fun w => by have h := ands_any n (R.mk ra rx ry rs rp rpc) m w hr0 hm; rw [← e1] at h; exact h)
  have HB : Hid (∀ w, Calls Tryz.prog 192 #[.string n, (.agg #[.int .u8 q1.a, .int .u8 q1.x, .int .u8 q1.y, .int .u8 q1.s, .int .u8 q1.p, .int .u16 q1.pc]), .int .u8 m] w fun e w' => e = .returned (.agg #[.int .u8 q2.a, .int .u8 q2.x, .int .u8 q2.y, .int .u8 q2.s, .int .u8 q2.p, .int .u16 q2.pc]) ∧ Below w.heap.size w w') := Lib.hid (fun w => by have h := loads_any n q1 m w g1 hm; rw [← e2] at h; exact h)
  have HC : Hid (∀ w, Calls Tryz.prog 191 #[.string n, (.agg #[.int .u8 q2.a, .int .u8 q2.x, .int .u8 q2.y, .int .u8 q2.s, .int .u8 q2.p, .int .u16 q2.pc]), .int .u8 m] w fun e w' => e = .returned (.agg #[.int .u8 q3.a, .int .u8 q3.x, .int .u8 q3.y, .int .u8 q3.s, .int .u8 q3.p, .int .u16 q3.pc]) ∧ Below w.heap.size w w') := Lib.hid (fun w => by have h := compares_any n q2 m w g2 hm; rw [← e3] at h; exact h)
  rw [← e1, ← e2, ← e3]
  have hq2 : ∀ w : World, (binOp .neq 197 .nilFunc .nilFunc).run Tryz.prog w = .ok (.bool false) w := fun _ => by kernel_rfl
  clear e1 e2 e3
  have HX := Lib.hid (fun (w1 w2 w3 : World) (hb1 : Below ((((w.alloc (.cells #[.int .u8 ra, .int .u8 rx, .int .u8 ry, .int .u8 rs, .int .u8 rp, .int .u16 rpc] 57)).alloc (.cells #[.int .u8 0, .int .u8 0, .int .u8 0, .int .u8 0, .int .u8 0, .int .u16 0] 57)).alloc OA).alloc OB).heap.size ((((w.alloc (.cells #[.int .u8 ra, .int .u8 rx, .int .u8 ry, .int .u8 rs, .int .u8 rp, .int .u16 rpc] 57)).alloc (.cells #[.int .u8 0, .int .u8 0, .int .u8 0, .int .u8 0, .int .u8 0, .int .u16 0] 57)).alloc OA).alloc OB) w1) (hb2 : Below w1.heap.size w1 w2) (hb3 : Below w2.heap.size w2 w3) => sum_keeps w w3 OA OB ra rx ry rs rp rpc (hb1.trans ((hb2.mono hb1.size).trans (hb3.mono (Nat.le_trans hb1.size hb2.size)))))
  simp only [R.val]
  go_enter Tryz.func175, Tryz.ntmps175
  go_wp2_with (go_at_call 193; refine (HA.out _).mono ?_; rintro e w1 ⟨rfl, hb1⟩)
  go_wp2_with (go_at_call 192; refine (HB.out _).mono ?_; rintro e w2 ⟨rfl, hb2⟩)
  go_wp2_with (go_at_call 191; refine (HC.out _).mono ?_; rintro e w3 ⟨rfl, hb3⟩; obtain ⟨⟨K0, K1, K2, K3, K4, K5, K6, K7, K8, K9, KA, KB⟩, F0, F1, F2, F3, F4, F5, F6, F7, F8, F9, FA, FB, hb⟩ := HX.out w1 w2 w3 ⟨hb1.os, hb1.tape, hb1.output, hb1.size, hb1.block⟩ ⟨hb2.os, hb2.tape, hb2.output, hb2.size, hb2.block⟩ ⟨hb3.os, hb3.tape, hb3.output, hb3.size, hb3.block⟩)
  refine bodyPost_ret (v := (.agg #[.int .u8 q3.a, .int .u8 q3.x, .int .u8 q3.y, .int .u8 q3.s, .int .u8 q3.p, .int .u16 q3.pc])) ?_ rfl ⟨rfl, ?_⟩
  · simp [results, Tryz.results175, go_sem, *]
  · iterate 6 (refine Below.setCell ?_ (by simp) _)
    exact hb
theorem reads_any (n : ByteArray) (r : R) (m : Int) (w : World) (hr : r.ok) (hm : By m) :
    Calls Tryz.prog 175 #[.string n, r.val, .int .u8 m] w fun e w' => e = .returned (readsR n.toList r m).val ∧ Below w.heap.size w w' := by
  unfold readsR
  have hpl : atName n.toList (plainT r m) = (if (n.toList == [76, 68, 65]) = true then some m else if (n.toList == [79, 82, 65]) = true then some (Go.bits .or .u8 r.a m) else if (n.toList == [65, 78, 68]) = true then some (Go.bits .and .u8 r.a m) else if (n.toList == [69, 79, 82]) = true then some (Go.bits .xor .u8 r.a m) else none) := by
    simp only [plainT, atName, Lib.toList_data]
  have hsu : atName n.toList sumsT = (if (n.toList == [65, 68, 67]) = true then some (.func (.func 189) #[] #[]) else if (n.toList == [83, 66, 67]) = true then some (.func (.func 190) #[] #[]) else none) := by
    simp only [sumsT, atName, Lib.toList_data]
  by_cases h1 : (n.toList == [76, 68, 65]) = true
  · rw [if_pos h1] at hpl ⊢; exact reads_plain n r m w hr _ hpl
  rw [if_neg h1] at hpl ⊢
  by_cases h2 : (n.toList == [79, 82, 65]) = true
  · rw [if_pos h2] at hpl ⊢; exact reads_plain n r m w hr _ hpl
  rw [if_neg h2] at hpl ⊢
  by_cases h3 : (n.toList == [65, 78, 68]) = true
  · rw [if_pos h3] at hpl ⊢; exact reads_plain n r m w hr _ hpl
  rw [if_neg h3] at hpl ⊢
  by_cases h4 : (n.toList == [69, 79, 82]) = true
  · rw [if_pos h4] at hpl ⊢; exact reads_plain n r m w hr _ hpl
  rw [if_neg h4] at hpl ⊢
  by_cases h5 : (n.toList == [65, 68, 67]) = true
  · rw [if_pos h5] at hsu ⊢; exact reads_adc n r m w hr hm hpl hsu
  rw [if_neg h5] at hsu ⊢
  by_cases h6 : (n.toList == [83, 66, 67]) = true
  · rw [if_pos h6] at hsu ⊢; exact reads_sbc n r m w hr hm hpl hsu
  rw [if_neg h6] at hsu ⊢
  exact reads_rest n r m w hr hm hpl hsu
end Go.Proofs.YtifajfjiloajfaaGreatDoor.OwnEff
namespace Go.Proofs.YtifajfjiloajfaaGreatDoor.OwnEff
open Go.RowKit Go.Proofs.YtifajfjiloajfaaGreatDoor.Own

def flagsT : List (ByteArray × Value) := [(⟨#[67]⟩, .int .u8 1), (⟨#[68]⟩, .int .u8 8), (⟨#[73]⟩, .int .u8 4), (⟨#[86]⟩, .int .u8 64)]
theorem reg2 (w w3 : World) (ra rx ry rs rp rpc : Int) (hb3 : Below (w.heap.size + 2) ((w.alloc (.cells #[.int .u8 ra, .int .u8 rx, .int .u8 ry, .int .u8 rs, .int .u8 rp, .int .u16 rpc] 57)).alloc (.cells #[.int .u8 0, .int .u8 0, .int .u8 0, .int .u8 0, .int .u8 0, .int .u16 0] 57)) w3) :
    (w3.cell? ⟨w.heap.size, 0, none⟩ = some (.int .u8 ra) ∧ w3.cell? ⟨w.heap.size, 1, none⟩ = some (.int .u8 rx) ∧ w3.cell? ⟨w.heap.size, 2, none⟩ = some (.int .u8 ry) ∧ w3.cell? ⟨w.heap.size, 3, none⟩ = some (.int .u8 rs) ∧ w3.cell? ⟨w.heap.size, 4, none⟩ = some (.int .u8 rp) ∧ w3.cell? ⟨w.heap.size, 5, none⟩ = some (.int .u16 rpc) ∧
     w3.cell? ⟨w.heap.size + 1, 0, none⟩ = some (.int .u8 0) ∧ w3.cell? ⟨w.heap.size + 1, 1, none⟩ = some (.int .u8 0) ∧ w3.cell? ⟨w.heap.size + 1, 2, none⟩ = some (.int .u8 0) ∧ w3.cell? ⟨w.heap.size + 1, 3, none⟩ = some (.int .u8 0) ∧ w3.cell? ⟨w.heap.size + 1, 4, none⟩ = some (.int .u8 0) ∧ w3.cell? ⟨w.heap.size + 1, 5, none⟩ = some (.int .u16 0)) ∧
    w3.frozen? ⟨w.heap.size, 0, none⟩ = false ∧ w3.frozen? ⟨w.heap.size, 1, none⟩ = false ∧ w3.frozen? ⟨w.heap.size, 2, none⟩ = false ∧ w3.frozen? ⟨w.heap.size, 3, none⟩ = false ∧ w3.frozen? ⟨w.heap.size, 4, none⟩ = false ∧ w3.frozen? ⟨w.heap.size, 5, none⟩ = false ∧
     w3.frozen? ⟨w.heap.size + 1, 0, none⟩ = false ∧ w3.frozen? ⟨w.heap.size + 1, 1, none⟩ = false ∧ w3.frozen? ⟨w.heap.size + 1, 2, none⟩ = false ∧ w3.frozen? ⟨w.heap.size + 1, 3, none⟩ = false ∧ w3.frozen? ⟨w.heap.size + 1, 4, none⟩ = false ∧ w3.frozen? ⟨w.heap.size + 1, 5, none⟩ = false ∧ Below w.heap.size w w3 := by
  have A1 : Blk w3 w.heap.size 57 #[.int .u8 ra, .int .u8 rx, .int .u8 ry, .int .u8 rs, .int .u8 rp, .int .u16 rpc] := ((Blk.new w 57 _).alloc _).below hb3 (by omega)
  have A2 : Blk w3 (w.heap.size + 1) 57 #[.int .u8 0, .int .u8 0, .int .u8 0, .int .u8 0, .int .u8 0, .int .u16 0] := by
    have h := (Blk.new (w.alloc (.cells #[.int .u8 ra, .int .u8 rx, .int .u8 ry, .int .u8 rs, .int .u8 rp, .int .u16 rpc] 57)) 57 #[.int .u8 0, .int .u8 0, .int .u8 0, .int .u8 0, .int .u8 0, .int .u16 0])
    simp only [World.size_alloc] at h
    exact h.below hb3 (by omega)
  refine ⟨⟨(A1.cell 0).trans rfl, (A1.cell 1).trans rfl, (A1.cell 2).trans rfl, (A1.cell 3).trans rfl, (A1.cell 4).trans rfl, (A1.cell 5).trans rfl, (A2.cell 0).trans rfl, (A2.cell 1).trans rfl, (A2.cell 2).trans rfl, (A2.cell 3).trans rfl, (A2.cell 4).trans rfl, (A2.cell 5).trans rfl⟩, A1.frozen 0, A1.frozen 1, A1.frozen 2, A1.frozen 3, A1.frozen 4, A1.frozen 5, A2.frozen 0, A2.frozen 1, A2.frozen 2, A2.frozen 3, A2.frozen 4, A2.frozen 5, ?_⟩
  exact (((Below.refl _ w).alloc (Nat.le_refl _) _).alloc (by simp) _).trans (hb3.mono (by omega))
theorem flags_laid (W : World) : ∃ O0 O1 O2 O3 O4 : Obj, (Instr.makeMap 186 none).run Tryz.prog W = .ok (.map (some W.heap.size)) (W.alloc O0) ∧
    (Instr.mapUpdate 186 (.map (some W.heap.size)) (.string ⟨#[67]⟩) (.int .u8 1)).run Tryz.prog (W.alloc O0) = .ok () (W.alloc O1) ∧
    (Instr.mapUpdate 186 (.map (some W.heap.size)) (.string ⟨#[68]⟩) (.int .u8 8)).run Tryz.prog (W.alloc O1) = .ok () (W.alloc O2) ∧
    (Instr.mapUpdate 186 (.map (some W.heap.size)) (.string ⟨#[73]⟩) (.int .u8 4)).run Tryz.prog (W.alloc O2) = .ok () (W.alloc O3) ∧
    (Instr.mapUpdate 186 (.map (some W.heap.size)) (.string ⟨#[86]⟩) (.int .u8 64)).run Tryz.prog (W.alloc O3) = .ok () (W.alloc O4) ∧
    ∀ w3, Below (W.alloc O4).heap.size (W.alloc O4) w3 → ∀ s, (Instr.lookup 186 (.map (some W.heap.size)) (.string s) false).run Tryz.prog w3 = .ok ((atName s.toList flagsT).getD (.int .u8 0)) w3 := by
  obtain ⟨i0, hi, hz0, _, _⟩ := info_parts info5'
  have hlk : ∀ w3, Below (W.alloc (.map (ents flagsT 0).toArray 4)).heap.size (W.alloc (.map (ents flagsT 0).toArray 4)) w3 → ∀ s, (Instr.lookup 186 (.map (some W.heap.size)) (.string s) false).run Tryz.prog w3 = .ok ((atName s.toList flagsT).getD (.int .u8 0)) w3 := fun w3 hb s =>
    (name_run (P := Tryz.prog) (w := w3) 186 _ _ flagsT 4 W.heap.size s i0 (.int .u8 0) Tryz.underlying186 Tryz.underlying9 hi hz0 ((hb.block _ (by simp)).trans (heap_alloc_new W _))).1
  have hmm := @run_makeMap Tryz.prog 186 W
  have l0 := lay_run (P := Tryz.prog) (w := W) 186 _ _ ([] : List (ByteArray × Value)) (⟨#[67]⟩) (.int .u8 1) Tryz.underlying186 Tryz.underlying9 (by simp [atName])
  replace l0 : (Instr.mapUpdate 186 (.map (some W.heap.size)) (.string ⟨#[67]⟩) (.int .u8 1)).run Tryz.prog (W.alloc (.map #[] 0)) = .ok () (W.alloc (.map (ents ([(⟨#[67]⟩, .int .u8 1)] : List (ByteArray × Value)) 0).toArray 1)) := l0
  have l1 := lay_run (P := Tryz.prog) (w := W) 186 _ _ ([(⟨#[67]⟩, .int .u8 1)] : List (ByteArray × Value)) (⟨#[68]⟩) (.int .u8 8) Tryz.underlying186 Tryz.underlying9 (by simp [atName, Lib.toList_data])
  replace l1 : (Instr.mapUpdate 186 (.map (some W.heap.size)) (.string ⟨#[68]⟩) (.int .u8 8)).run Tryz.prog (W.alloc (.map (ents ([(⟨#[67]⟩, .int .u8 1)] : List (ByteArray × Value)) 0).toArray 1)) = .ok () (W.alloc (.map (ents ([(⟨#[67]⟩, .int .u8 1), (⟨#[68]⟩, .int .u8 8)] : List (ByteArray × Value)) 0).toArray 2)) := l1
  have l2 := lay_run (P := Tryz.prog) (w := W) 186 _ _ ([(⟨#[67]⟩, .int .u8 1), (⟨#[68]⟩, .int .u8 8)] : List (ByteArray × Value)) (⟨#[73]⟩) (.int .u8 4) Tryz.underlying186 Tryz.underlying9 (by simp [atName, Lib.toList_data])
  replace l2 : (Instr.mapUpdate 186 (.map (some W.heap.size)) (.string ⟨#[73]⟩) (.int .u8 4)).run Tryz.prog (W.alloc (.map (ents ([(⟨#[67]⟩, .int .u8 1), (⟨#[68]⟩, .int .u8 8)] : List (ByteArray × Value)) 0).toArray 2)) = .ok () (W.alloc (.map (ents ([(⟨#[67]⟩, .int .u8 1), (⟨#[68]⟩, .int .u8 8), (⟨#[73]⟩, .int .u8 4)] : List (ByteArray × Value)) 0).toArray 3)) := l2
  have l3 := lay_run (P := Tryz.prog) (w := W) 186 _ _ ([(⟨#[67]⟩, .int .u8 1), (⟨#[68]⟩, .int .u8 8), (⟨#[73]⟩, .int .u8 4)] : List (ByteArray × Value)) (⟨#[86]⟩) (.int .u8 64) Tryz.underlying186 Tryz.underlying9 (by simp [atName, Lib.toList_data])
  replace l3 : (Instr.mapUpdate 186 (.map (some W.heap.size)) (.string ⟨#[86]⟩) (.int .u8 64)).run Tryz.prog (W.alloc (.map (ents ([(⟨#[67]⟩, .int .u8 1), (⟨#[68]⟩, .int .u8 8), (⟨#[73]⟩, .int .u8 4)] : List (ByteArray × Value)) 0).toArray 3)) = .ok () (W.alloc (.map (ents ([(⟨#[67]⟩, .int .u8 1), (⟨#[68]⟩, .int .u8 8), (⟨#[73]⟩, .int .u8 4), (⟨#[86]⟩, .int .u8 64)] : List (ByteArray × Value)) 0).toArray 4)) := l3
  exact ⟨_, _, _, _, _, hmm, l0, l1, l2, l3, hlk⟩
theorem neqF (f : Nat) (w : World) : (binOp .neq 187 (.func (.func f) #[] #[]) .nilFunc).run Tryz.prog w = .ok (.bool true) w := by kernel_rfl
theorem neqN (w : World) : (binOp .neq 187 .nilFunc .nilFunc).run Tryz.prog w = .ok (.bool false) w := by kernel_rfl
set_option maxHeartbeats 12800000 in
set_option maxRecDepth 100000 in
theorem inner_asl (n : ByteArray) (r : R) (w : World) (hr : r.ok) (hn : (n.toList == [65, 83, 76]) = true) :
    Calls Tryz.prog 164 #[.string n, r.val] w fun e w' => e = .returned (innerR n.toList r).val ∧ Below w.heap.size w w' := by
  obtain ⟨ra, rx, ry, rs, rp, rpc⟩ := r
  obtain ⟨ha, hx, hy, hs, hp, hq⟩ := hr
  obtain ⟨O0, O1, O2, O3, OA, hmm, l0, l1, l2, l3, hlk⟩ := flags_laid ((w.alloc (.cells #[.int .u8 ra, .int .u8 rx, .int .u8 ry, .int .u8 rs, .int .u8 rp, .int .u16 rpc] 57)).alloc (.cells #[.int .u8 0, .int .u8 0, .int .u8 0, .int .u8 0, .int .u8 0, .int .u16 0] 57))
  simp only [World.size_alloc] at hmm l0 l1 l2 l3
  have HX := Lib.hid (fun (w3 : World) (hb3 : Below (((w.alloc (.cells #[.int .u8 ra, .int .u8 rx, .int .u8 ry, .int .u8 rs, .int .u8 rp, .int .u16 rpc] 57)).alloc (.cells #[.int .u8 0, .int .u8 0, .int .u8 0, .int .u8 0, .int .u8 0, .int .u16 0] 57)).alloc OA).heap.size (((w.alloc (.cells #[.int .u8 ra, .int .u8 rx, .int .u8 ry, .int .u8 rs, .int .u8 rp, .int .u16 rpc] 57)).alloc (.cells #[.int .u8 0, .int .u8 0, .int .u8 0, .int .u8 0, .int .u8 0, .int .u16 0] 57)).alloc OA) w3) => reg2 w w3 ra rx ry rs rp rpc (((Below.refl _ _).alloc (by simp) OA).trans (hb3.mono (by simp))))
  have hsh : (atName n.toList shiftT).getD .nilFunc = .func (.func 197) #[] #[] := by rw [of_list hn]; simp [shiftT, atName, Lib.toList_data]
  have HSh : Hid (∀ w, Calls Tryz.prog 186 #[.string n] w fun e w' => e = .returned (.func (.func 197) #[] #[]) ∧ Below w.heap.size w w') := Lib.hid (fun w => by have h := shift_any n w; rw [hsh] at h; exact h)
  have hnF := neqF
  have hnN := neqN
  have HL := Lib.hid (fun w => asl_any ra rp w ha hp)
  have hspec : innerR n.toList { a := ra, x := rx, y := ry, s := rs, p := rp, pc := rpc } = { a := aslV ra, x := rx, y := ry, s := rs, p := aslF ra rp, pc := rpc } := by rw [of_list hn]; simp [innerR, isShift, shiftVF, Lib.toList_data]
  rw [hspec]
  clear hspec hlk hsh
  simp only [R.val]
  go_enter Tryz.func164, Tryz.ntmps164
  go_wp2_with (first
    | (go_at_call 186; refine (HSh.out _).mono ?_; rintro e w3 ⟨rfl, hb3⟩; obtain ⟨⟨K0, K1, K2, K3, K4, K5, K6, K7, K8, K9, KA, KB⟩, F0, F1, F2, F3, F4, F5, F6, F7, F8, F9, FA, FB, hb⟩ := HX.out w3 ⟨hb3.os, hb3.tape, hb3.output, hb3.size, hb3.block⟩)
    | (go_at_call 197; refine (HL.out _).mono ?_; rintro e w' ⟨rfl, rfl⟩))
  refine bodyPost_ret (v := .agg #[.int .u8 (aslV ra), .int .u8 rx, .int .u8 ry, .int .u8 rs, .int .u8 (aslF ra rp), .int .u16 rpc]) ?_ rfl ⟨rfl, ?_⟩
  · simp [results, Tryz.results164, go_sem, *]
  · iterate 8 (refine Below.setCell ?_ (by simp) _)
    exact hb
set_option maxHeartbeats 12800000 in
set_option maxRecDepth 100000 in
theorem inner_lsr (n : ByteArray) (r : R) (w : World) (hr : r.ok) (hn : (n.toList == [76, 83, 82]) = true) :
    Calls Tryz.prog 164 #[.string n, r.val] w fun e w' => e = .returned (innerR n.toList r).val ∧ Below w.heap.size w w' := by
  obtain ⟨ra, rx, ry, rs, rp, rpc⟩ := r
  obtain ⟨ha, hx, hy, hs, hp, hq⟩ := hr
  obtain ⟨O0, O1, O2, O3, OA, hmm, l0, l1, l2, l3, hlk⟩ := flags_laid ((w.alloc (.cells #[.int .u8 ra, .int .u8 rx, .int .u8 ry, .int .u8 rs, .int .u8 rp, .int .u16 rpc] 57)).alloc (.cells #[.int .u8 0, .int .u8 0, .int .u8 0, .int .u8 0, .int .u8 0, .int .u16 0] 57))
  simp only [World.size_alloc] at hmm l0 l1 l2 l3
  have HX := Lib.hid (fun (w3 : World) (hb3 : Below (((w.alloc (.cells #[.int .u8 ra, .int .u8 rx, .int .u8 ry, .int .u8 rs, .int .u8 rp, .int .u16 rpc] 57)).alloc (.cells #[.int .u8 0, .int .u8 0, .int .u8 0, .int .u8 0, .int .u8 0, .int .u16 0] 57)).alloc OA).heap.size (((w.alloc (.cells #[.int .u8 ra, .int .u8 rx, .int .u8 ry, .int .u8 rs, .int .u8 rp, .int .u16 rpc] 57)).alloc (.cells #[.int .u8 0, .int .u8 0, .int .u8 0, .int .u8 0, .int .u8 0, .int .u16 0] 57)).alloc OA) w3) => reg2 w w3 ra rx ry rs rp rpc (((Below.refl _ _).alloc (by simp) OA).trans (hb3.mono (by simp))))
  have hsh : (atName n.toList shiftT).getD .nilFunc = .func (.func 198) #[] #[] := by rw [of_list hn]; simp [shiftT, atName, Lib.toList_data]
  have HSh : Hid (∀ w, Calls Tryz.prog 186 #[.string n] w fun e w' => e = .returned (.func (.func 198) #[] #[]) ∧ Below w.heap.size w w') := Lib.hid (fun w => by have h := shift_any n w; rw [hsh] at h; exact h)
  have hnF := neqF
  have hnN := neqN
  have HL := Lib.hid (fun w => lsr_any ra rp w ha hp)
  have hspec : innerR n.toList { a := ra, x := rx, y := ry, s := rs, p := rp, pc := rpc } = { a := lsrV ra, x := rx, y := ry, s := rs, p := lsrF ra rp, pc := rpc } := by rw [of_list hn]; simp [innerR, isShift, shiftVF, Lib.toList_data]
  rw [hspec]
  clear hspec hlk hsh
  simp only [R.val]
  go_enter Tryz.func164, Tryz.ntmps164
  go_wp2_with (first
    | (go_at_call 186; refine (HSh.out _).mono ?_; rintro e w3 ⟨rfl, hb3⟩; obtain ⟨⟨K0, K1, K2, K3, K4, K5, K6, K7, K8, K9, KA, KB⟩, F0, F1, F2, F3, F4, F5, F6, F7, F8, F9, FA, FB, hb⟩ := HX.out w3 ⟨hb3.os, hb3.tape, hb3.output, hb3.size, hb3.block⟩)
    | (go_at_call 198; refine (HL.out _).mono ?_; rintro e w' ⟨rfl, rfl⟩))
  refine bodyPost_ret (v := .agg #[.int .u8 (lsrV ra), .int .u8 rx, .int .u8 ry, .int .u8 rs, .int .u8 (lsrF ra rp), .int .u16 rpc]) ?_ rfl ⟨rfl, ?_⟩
  · simp [results, Tryz.results164, go_sem, *]
  · iterate 8 (refine Below.setCell ?_ (by simp) _)
    exact hb
set_option maxHeartbeats 12800000 in
set_option maxRecDepth 100000 in
theorem inner_rol (n : ByteArray) (r : R) (w : World) (hr : r.ok) (hn : (n.toList == [82, 79, 76]) = true) :
    Calls Tryz.prog 164 #[.string n, r.val] w fun e w' => e = .returned (innerR n.toList r).val ∧ Below w.heap.size w w' := by
  obtain ⟨ra, rx, ry, rs, rp, rpc⟩ := r
  obtain ⟨ha, hx, hy, hs, hp, hq⟩ := hr
  obtain ⟨O0, O1, O2, O3, OA, hmm, l0, l1, l2, l3, hlk⟩ := flags_laid ((w.alloc (.cells #[.int .u8 ra, .int .u8 rx, .int .u8 ry, .int .u8 rs, .int .u8 rp, .int .u16 rpc] 57)).alloc (.cells #[.int .u8 0, .int .u8 0, .int .u8 0, .int .u8 0, .int .u8 0, .int .u16 0] 57))
  simp only [World.size_alloc] at hmm l0 l1 l2 l3
  have HX := Lib.hid (fun (w3 : World) (hb3 : Below (((w.alloc (.cells #[.int .u8 ra, .int .u8 rx, .int .u8 ry, .int .u8 rs, .int .u8 rp, .int .u16 rpc] 57)).alloc (.cells #[.int .u8 0, .int .u8 0, .int .u8 0, .int .u8 0, .int .u8 0, .int .u16 0] 57)).alloc OA).heap.size (((w.alloc (.cells #[.int .u8 ra, .int .u8 rx, .int .u8 ry, .int .u8 rs, .int .u8 rp, .int .u16 rpc] 57)).alloc (.cells #[.int .u8 0, .int .u8 0, .int .u8 0, .int .u8 0, .int .u8 0, .int .u16 0] 57)).alloc OA) w3) => reg2 w w3 ra rx ry rs rp rpc (((Below.refl _ _).alloc (by simp) OA).trans (hb3.mono (by simp))))
  have hsh : (atName n.toList shiftT).getD .nilFunc = .func (.func 199) #[] #[] := by rw [of_list hn]; simp [shiftT, atName, Lib.toList_data]
  have HSh : Hid (∀ w, Calls Tryz.prog 186 #[.string n] w fun e w' => e = .returned (.func (.func 199) #[] #[]) ∧ Below w.heap.size w w') := Lib.hid (fun w => by have h := shift_any n w; rw [hsh] at h; exact h)
  have hnF := neqF
  have hnN := neqN
  have HL := Lib.hid (fun w => rol_any ra rp w ha hp)
  have hspec : innerR n.toList { a := ra, x := rx, y := ry, s := rs, p := rp, pc := rpc } = { a := rolV ra rp, x := rx, y := ry, s := rs, p := rolF ra rp, pc := rpc } := by rw [of_list hn]; simp [innerR, isShift, shiftVF, Lib.toList_data]
  rw [hspec]
  clear hspec hlk hsh
  simp only [R.val]
  go_enter Tryz.func164, Tryz.ntmps164
  go_wp2_with (first
    | (go_at_call 186; refine (HSh.out _).mono ?_; rintro e w3 ⟨rfl, hb3⟩; obtain ⟨⟨K0, K1, K2, K3, K4, K5, K6, K7, K8, K9, KA, KB⟩, F0, F1, F2, F3, F4, F5, F6, F7, F8, F9, FA, FB, hb⟩ := HX.out w3 ⟨hb3.os, hb3.tape, hb3.output, hb3.size, hb3.block⟩)
    | (go_at_call 199; refine (HL.out _).mono ?_; rintro e w' ⟨rfl, rfl⟩))
  refine bodyPost_ret (v := .agg #[.int .u8 (rolV ra rp), .int .u8 rx, .int .u8 ry, .int .u8 rs, .int .u8 (rolF ra rp), .int .u16 rpc]) ?_ rfl ⟨rfl, ?_⟩
  · simp [results, Tryz.results164, go_sem, *]
  · iterate 8 (refine Below.setCell ?_ (by simp) _)
    exact hb
set_option maxHeartbeats 12800000 in
set_option maxRecDepth 100000 in
theorem inner_ror (n : ByteArray) (r : R) (w : World) (hr : r.ok) (hn : (n.toList == [82, 79, 82]) = true) :
    Calls Tryz.prog 164 #[.string n, r.val] w fun e w' => e = .returned (innerR n.toList r).val ∧ Below w.heap.size w w' := by
  obtain ⟨ra, rx, ry, rs, rp, rpc⟩ := r
  obtain ⟨ha, hx, hy, hs, hp, hq⟩ := hr
  obtain ⟨O0, O1, O2, O3, OA, hmm, l0, l1, l2, l3, hlk⟩ := flags_laid ((w.alloc (.cells #[.int .u8 ra, .int .u8 rx, .int .u8 ry, .int .u8 rs, .int .u8 rp, .int .u16 rpc] 57)).alloc (.cells #[.int .u8 0, .int .u8 0, .int .u8 0, .int .u8 0, .int .u8 0, .int .u16 0] 57))
  simp only [World.size_alloc] at hmm l0 l1 l2 l3
  have HX := Lib.hid (fun (w3 : World) (hb3 : Below (((w.alloc (.cells #[.int .u8 ra, .int .u8 rx, .int .u8 ry, .int .u8 rs, .int .u8 rp, .int .u16 rpc] 57)).alloc (.cells #[.int .u8 0, .int .u8 0, .int .u8 0, .int .u8 0, .int .u8 0, .int .u16 0] 57)).alloc OA).heap.size (((w.alloc (.cells #[.int .u8 ra, .int .u8 rx, .int .u8 ry, .int .u8 rs, .int .u8 rp, .int .u16 rpc] 57)).alloc (.cells #[.int .u8 0, .int .u8 0, .int .u8 0, .int .u8 0, .int .u8 0, .int .u16 0] 57)).alloc OA) w3) => reg2 w w3 ra rx ry rs rp rpc (((Below.refl _ _).alloc (by simp) OA).trans (hb3.mono (by simp))))
  have hsh : (atName n.toList shiftT).getD .nilFunc = .func (.func 200) #[] #[] := by rw [of_list hn]; simp [shiftT, atName, Lib.toList_data]
  have HSh : Hid (∀ w, Calls Tryz.prog 186 #[.string n] w fun e w' => e = .returned (.func (.func 200) #[] #[]) ∧ Below w.heap.size w w') := Lib.hid (fun w => by have h := shift_any n w; rw [hsh] at h; exact h)
  have hnF := neqF
  have hnN := neqN
  have HL := Lib.hid (fun w => ror_any ra rp w ha hp)
  have hspec : innerR n.toList { a := ra, x := rx, y := ry, s := rs, p := rp, pc := rpc } = { a := rorV ra rp, x := rx, y := ry, s := rs, p := rorF ra rp, pc := rpc } := by rw [of_list hn]; simp [innerR, isShift, shiftVF, Lib.toList_data]
  rw [hspec]
  clear hspec hlk hsh
  simp only [R.val]
  go_enter Tryz.func164, Tryz.ntmps164
  go_wp2_with (first
    | (go_at_call 186; refine (HSh.out _).mono ?_; rintro e w3 ⟨rfl, hb3⟩; obtain ⟨⟨K0, K1, K2, K3, K4, K5, K6, K7, K8, K9, KA, KB⟩, F0, F1, F2, F3, F4, F5, F6, F7, F8, F9, FA, FB, hb⟩ := HX.out w3 ⟨hb3.os, hb3.tape, hb3.output, hb3.size, hb3.block⟩)
    | (go_at_call 200; refine (HL.out _).mono ?_; rintro e w' ⟨rfl, rfl⟩))
  refine bodyPost_ret (v := .agg #[.int .u8 (rorV ra rp), .int .u8 rx, .int .u8 ry, .int .u8 rs, .int .u8 (rorF ra rp), .int .u16 rpc]) ?_ rfl ⟨rfl, ?_⟩
  · simp [results, Tryz.results164, go_sem, *]
  · iterate 8 (refine Below.setCell ?_ (by simp) _)
    exact hb
set_option maxHeartbeats 12800000 in
set_option maxRecDepth 100000 in
theorem inner_CLC (n : ByteArray) (r : R) (w : World) (hr : r.ok) (hn : (n.toList == [67, 76, 67]) = true) :
    Calls Tryz.prog 164 #[.string n, r.val] w fun e w' => e = .returned (innerR n.toList r).val ∧ Below w.heap.size w w' := by
  obtain ⟨ra, rx, ry, rs, rp, rpc⟩ := r
  obtain ⟨ha, hx, hy, hs, hp, hq⟩ := hr
  obtain ⟨O0, O1, O2, O3, OA, hmm, l0, l1, l2, l3, hlk⟩ := flags_laid ((w.alloc (.cells #[.int .u8 ra, .int .u8 rx, .int .u8 ry, .int .u8 rs, .int .u8 rp, .int .u16 rpc] 57)).alloc (.cells #[.int .u8 0, .int .u8 0, .int .u8 0, .int .u8 0, .int .u8 0, .int .u16 0] 57))
  simp only [World.size_alloc] at hmm l0 l1 l2 l3
  have HX := Lib.hid (fun (w3 : World) (hb3 : Below (((w.alloc (.cells #[.int .u8 ra, .int .u8 rx, .int .u8 ry, .int .u8 rs, .int .u8 rp, .int .u16 rpc] 57)).alloc (.cells #[.int .u8 0, .int .u8 0, .int .u8 0, .int .u8 0, .int .u8 0, .int .u16 0] 57)).alloc OA).heap.size (((w.alloc (.cells #[.int .u8 ra, .int .u8 rx, .int .u8 ry, .int .u8 rs, .int .u8 rp, .int .u16 rpc] 57)).alloc (.cells #[.int .u8 0, .int .u8 0, .int .u8 0, .int .u8 0, .int .u8 0, .int .u16 0] 57)).alloc OA) w3) => reg2 w w3 ra rx ry rs rp rpc (((Below.refl _ _).alloc (by simp) OA).trans (hb3.mono (by simp))))
  have hsh : (atName n.toList shiftT).getD .nilFunc = .nilFunc := by rw [of_list hn]; simp [shiftT, atName, Lib.toList_data]
  have HSh : Hid (∀ w, Calls Tryz.prog 186 #[.string n] w fun e w' => e = .returned (.nilFunc) ∧ Below w.heap.size w w') := Lib.hid (fun w => by have h := shift_any n w; rw [hsh] at h; exact h)
  have hnF := neqF
  have hnN := neqN
  have hspec : innerR n.toList { a := ra, x := rx, y := ry, s := rs, p := rp, pc := rpc } = { a := ra, x := rx, y := ry, s := rs, p := Go.bits .andNot .u8 rp 1, pc := rpc } := by rw [of_list hn]; simp [innerR, isShift, Lib.toList_data]
  rw [hspec]
  clear hspec hsh
  obtain rfl := of_list hn
  clear hn
  have hext : (ByteArray.extract ⟨[67, 76, 67].toArray⟩ 2 3) = ⟨#[67]⟩ := by decide +kernel
  have hfl : (atName (ByteArray.toList ⟨#[67]⟩) flagsT).getD (.int .u8 0) = .int .u8 1 := by simp [flagsT, atName, Lib.toList_data]
  replace hlk : Hid (∀ w3, Below (((w.alloc (.cells #[.int .u8 ra, .int .u8 rx, .int .u8 ry, .int .u8 rs, .int .u8 rp, .int .u16 rpc] 57)).alloc (.cells #[.int .u8 0, .int .u8 0, .int .u8 0, .int .u8 0, .int .u8 0, .int .u16 0] 57)).alloc OA).heap.size (((w.alloc (.cells #[.int .u8 ra, .int .u8 rx, .int .u8 ry, .int .u8 rs, .int .u8 rp, .int .u16 rpc] 57)).alloc (.cells #[.int .u8 0, .int .u8 0, .int .u8 0, .int .u8 0, .int .u8 0, .int .u16 0] 57)).alloc OA) w3 → (Instr.lookup 186 (.map (some (w.heap.size + 1 + 1))) (.string ⟨#[67]⟩) false).run Tryz.prog w3 = .ok (.int .u8 1) w3) := Lib.hid (fun w3 h => by have k := hlk w3 h ⟨#[67]⟩; rw [hfl] at k; simp only [World.size_alloc] at k; exact k)
  clear hfl
  simp only [R.val]
  go_enter Tryz.func164, Tryz.ntmps164
  go_wp2_with (go_at_call 186; refine (HSh.out _).mono ?_; rintro e w3 ⟨rfl, hb3⟩; obtain ⟨⟨K0, K1, K2, K3, K4, K5, K6, K7, K8, K9, KA, KB⟩, F0, F1, F2, F3, F4, F5, F6, F7, F8, F9, FA, FB, hb⟩ := HX.out w3 ⟨hb3.os, hb3.tape, hb3.output, hb3.size, hb3.block⟩; have hl9 := hlk.out w3.drew ⟨hb3.os, hb3.tape, hb3.output, hb3.size, hb3.block⟩)
  go_region
  all_goals
    go_wp2
    refine bodyPost_ret (v := .agg #[.int .u8 ra, .int .u8 rx, .int .u8 ry, .int .u8 rs, .int .u8 (Go.bits .andNot .u8 rp 1), .int .u16 rpc]) ?_ rfl ⟨rfl, ?_⟩
    · simp [results, Tryz.results164, go_sem, *]
    · refine Below.drew ?_
      iterate 7 (refine Below.setCell ?_ (by simp) _)
      exact hb
set_option maxHeartbeats 12800000 in
set_option maxRecDepth 100000 in
theorem inner_CLD (n : ByteArray) (r : R) (w : World) (hr : r.ok) (hn : (n.toList == [67, 76, 68]) = true) :
    Calls Tryz.prog 164 #[.string n, r.val] w fun e w' => e = .returned (innerR n.toList r).val ∧ Below w.heap.size w w' := by
  obtain ⟨ra, rx, ry, rs, rp, rpc⟩ := r
  obtain ⟨ha, hx, hy, hs, hp, hq⟩ := hr
  obtain ⟨O0, O1, O2, O3, OA, hmm, l0, l1, l2, l3, hlk⟩ := flags_laid ((w.alloc (.cells #[.int .u8 ra, .int .u8 rx, .int .u8 ry, .int .u8 rs, .int .u8 rp, .int .u16 rpc] 57)).alloc (.cells #[.int .u8 0, .int .u8 0, .int .u8 0, .int .u8 0, .int .u8 0, .int .u16 0] 57))
  simp only [World.size_alloc] at hmm l0 l1 l2 l3
  have HX := Lib.hid (fun (w3 : World) (hb3 : Below (((w.alloc (.cells #[.int .u8 ra, .int .u8 rx, .int .u8 ry, .int .u8 rs, .int .u8 rp, .int .u16 rpc] 57)).alloc (.cells #[.int .u8 0, .int .u8 0, .int .u8 0, .int .u8 0, .int .u8 0, .int .u16 0] 57)).alloc OA).heap.size (((w.alloc (.cells #[.int .u8 ra, .int .u8 rx, .int .u8 ry, .int .u8 rs, .int .u8 rp, .int .u16 rpc] 57)).alloc (.cells #[.int .u8 0, .int .u8 0, .int .u8 0, .int .u8 0, .int .u8 0, .int .u16 0] 57)).alloc OA) w3) => reg2 w w3 ra rx ry rs rp rpc (((Below.refl _ _).alloc (by simp) OA).trans (hb3.mono (by simp))))
  have hsh : (atName n.toList shiftT).getD .nilFunc = .nilFunc := by rw [of_list hn]; simp [shiftT, atName, Lib.toList_data]
  have HSh : Hid (∀ w, Calls Tryz.prog 186 #[.string n] w fun e w' => e = .returned (.nilFunc) ∧ Below w.heap.size w w') := Lib.hid (fun w => by have h := shift_any n w; rw [hsh] at h; exact h)
  have hnF := neqF
  have hnN := neqN
  have hspec : innerR n.toList { a := ra, x := rx, y := ry, s := rs, p := rp, pc := rpc } = { a := ra, x := rx, y := ry, s := rs, p := Go.bits .andNot .u8 rp 8, pc := rpc } := by rw [of_list hn]; simp [innerR, isShift, Lib.toList_data]
  rw [hspec]
  clear hspec hsh
  obtain rfl := of_list hn
  clear hn
  have hext : (ByteArray.extract ⟨[67, 76, 68].toArray⟩ 2 3) = ⟨#[68]⟩ := by decide +kernel
  have hfl : (atName (ByteArray.toList ⟨#[68]⟩) flagsT).getD (.int .u8 0) = .int .u8 8 := by simp [flagsT, atName, Lib.toList_data]
  replace hlk : Hid (∀ w3, Below (((w.alloc (.cells #[.int .u8 ra, .int .u8 rx, .int .u8 ry, .int .u8 rs, .int .u8 rp, .int .u16 rpc] 57)).alloc (.cells #[.int .u8 0, .int .u8 0, .int .u8 0, .int .u8 0, .int .u8 0, .int .u16 0] 57)).alloc OA).heap.size (((w.alloc (.cells #[.int .u8 ra, .int .u8 rx, .int .u8 ry, .int .u8 rs, .int .u8 rp, .int .u16 rpc] 57)).alloc (.cells #[.int .u8 0, .int .u8 0, .int .u8 0, .int .u8 0, .int .u8 0, .int .u16 0] 57)).alloc OA) w3 → (Instr.lookup 186 (.map (some (w.heap.size + 1 + 1))) (.string ⟨#[68]⟩) false).run Tryz.prog w3 = .ok (.int .u8 8) w3) := Lib.hid (fun w3 h => by have k := hlk w3 h ⟨#[68]⟩; rw [hfl] at k; simp only [World.size_alloc] at k; exact k)
  clear hfl
  simp only [R.val]
  go_enter Tryz.func164, Tryz.ntmps164
  go_wp2_with (go_at_call 186; refine (HSh.out _).mono ?_; rintro e w3 ⟨rfl, hb3⟩; obtain ⟨⟨K0, K1, K2, K3, K4, K5, K6, K7, K8, K9, KA, KB⟩, F0, F1, F2, F3, F4, F5, F6, F7, F8, F9, FA, FB, hb⟩ := HX.out w3 ⟨hb3.os, hb3.tape, hb3.output, hb3.size, hb3.block⟩; have hl9 := hlk.out w3.drew ⟨hb3.os, hb3.tape, hb3.output, hb3.size, hb3.block⟩)
  go_region
  all_goals
    go_wp2
    refine bodyPost_ret (v := .agg #[.int .u8 ra, .int .u8 rx, .int .u8 ry, .int .u8 rs, .int .u8 (Go.bits .andNot .u8 rp 8), .int .u16 rpc]) ?_ rfl ⟨rfl, ?_⟩
    · simp [results, Tryz.results164, go_sem, *]
    · refine Below.drew ?_
      iterate 7 (refine Below.setCell ?_ (by simp) _)
      exact hb
set_option maxHeartbeats 12800000 in
set_option maxRecDepth 100000 in
theorem inner_CLI (n : ByteArray) (r : R) (w : World) (hr : r.ok) (hn : (n.toList == [67, 76, 73]) = true) :
    Calls Tryz.prog 164 #[.string n, r.val] w fun e w' => e = .returned (innerR n.toList r).val ∧ Below w.heap.size w w' := by
  obtain ⟨ra, rx, ry, rs, rp, rpc⟩ := r
  obtain ⟨ha, hx, hy, hs, hp, hq⟩ := hr
  obtain ⟨O0, O1, O2, O3, OA, hmm, l0, l1, l2, l3, hlk⟩ := flags_laid ((w.alloc (.cells #[.int .u8 ra, .int .u8 rx, .int .u8 ry, .int .u8 rs, .int .u8 rp, .int .u16 rpc] 57)).alloc (.cells #[.int .u8 0, .int .u8 0, .int .u8 0, .int .u8 0, .int .u8 0, .int .u16 0] 57))
  simp only [World.size_alloc] at hmm l0 l1 l2 l3
  have HX := Lib.hid (fun (w3 : World) (hb3 : Below (((w.alloc (.cells #[.int .u8 ra, .int .u8 rx, .int .u8 ry, .int .u8 rs, .int .u8 rp, .int .u16 rpc] 57)).alloc (.cells #[.int .u8 0, .int .u8 0, .int .u8 0, .int .u8 0, .int .u8 0, .int .u16 0] 57)).alloc OA).heap.size (((w.alloc (.cells #[.int .u8 ra, .int .u8 rx, .int .u8 ry, .int .u8 rs, .int .u8 rp, .int .u16 rpc] 57)).alloc (.cells #[.int .u8 0, .int .u8 0, .int .u8 0, .int .u8 0, .int .u8 0, .int .u16 0] 57)).alloc OA) w3) => reg2 w w3 ra rx ry rs rp rpc (((Below.refl _ _).alloc (by simp) OA).trans (hb3.mono (by simp))))
  have hsh : (atName n.toList shiftT).getD .nilFunc = .nilFunc := by rw [of_list hn]; simp [shiftT, atName, Lib.toList_data]
  have HSh : Hid (∀ w, Calls Tryz.prog 186 #[.string n] w fun e w' => e = .returned (.nilFunc) ∧ Below w.heap.size w w') := Lib.hid (fun w => by have h := shift_any n w; rw [hsh] at h; exact h)
  have hnF := neqF
  have hnN := neqN
  have hspec : innerR n.toList { a := ra, x := rx, y := ry, s := rs, p := rp, pc := rpc } = { a := ra, x := rx, y := ry, s := rs, p := Go.bits .andNot .u8 rp 4, pc := rpc } := by rw [of_list hn]; simp [innerR, isShift, Lib.toList_data]
  rw [hspec]
  clear hspec hsh
  obtain rfl := of_list hn
  clear hn
  have hext : (ByteArray.extract ⟨[67, 76, 73].toArray⟩ 2 3) = ⟨#[73]⟩ := by decide +kernel
  have hfl : (atName (ByteArray.toList ⟨#[73]⟩) flagsT).getD (.int .u8 0) = .int .u8 4 := by simp [flagsT, atName, Lib.toList_data]
  replace hlk : Hid (∀ w3, Below (((w.alloc (.cells #[.int .u8 ra, .int .u8 rx, .int .u8 ry, .int .u8 rs, .int .u8 rp, .int .u16 rpc] 57)).alloc (.cells #[.int .u8 0, .int .u8 0, .int .u8 0, .int .u8 0, .int .u8 0, .int .u16 0] 57)).alloc OA).heap.size (((w.alloc (.cells #[.int .u8 ra, .int .u8 rx, .int .u8 ry, .int .u8 rs, .int .u8 rp, .int .u16 rpc] 57)).alloc (.cells #[.int .u8 0, .int .u8 0, .int .u8 0, .int .u8 0, .int .u8 0, .int .u16 0] 57)).alloc OA) w3 → (Instr.lookup 186 (.map (some (w.heap.size + 1 + 1))) (.string ⟨#[73]⟩) false).run Tryz.prog w3 = .ok (.int .u8 4) w3) := Lib.hid (fun w3 h => by have k := hlk w3 h ⟨#[73]⟩; rw [hfl] at k; simp only [World.size_alloc] at k; exact k)
  clear hfl
  simp only [R.val]
  go_enter Tryz.func164, Tryz.ntmps164
  go_wp2_with (go_at_call 186; refine (HSh.out _).mono ?_; rintro e w3 ⟨rfl, hb3⟩; obtain ⟨⟨K0, K1, K2, K3, K4, K5, K6, K7, K8, K9, KA, KB⟩, F0, F1, F2, F3, F4, F5, F6, F7, F8, F9, FA, FB, hb⟩ := HX.out w3 ⟨hb3.os, hb3.tape, hb3.output, hb3.size, hb3.block⟩; have hl9 := hlk.out w3.drew ⟨hb3.os, hb3.tape, hb3.output, hb3.size, hb3.block⟩)
  go_region
  all_goals
    go_wp2
    refine bodyPost_ret (v := .agg #[.int .u8 ra, .int .u8 rx, .int .u8 ry, .int .u8 rs, .int .u8 (Go.bits .andNot .u8 rp 4), .int .u16 rpc]) ?_ rfl ⟨rfl, ?_⟩
    · simp [results, Tryz.results164, go_sem, *]
    · refine Below.drew ?_
      iterate 7 (refine Below.setCell ?_ (by simp) _)
      exact hb
set_option maxHeartbeats 12800000 in
set_option maxRecDepth 100000 in
theorem inner_CLV (n : ByteArray) (r : R) (w : World) (hr : r.ok) (hn : (n.toList == [67, 76, 86]) = true) :
    Calls Tryz.prog 164 #[.string n, r.val] w fun e w' => e = .returned (innerR n.toList r).val ∧ Below w.heap.size w w' := by
  obtain ⟨ra, rx, ry, rs, rp, rpc⟩ := r
  obtain ⟨ha, hx, hy, hs, hp, hq⟩ := hr
  obtain ⟨O0, O1, O2, O3, OA, hmm, l0, l1, l2, l3, hlk⟩ := flags_laid ((w.alloc (.cells #[.int .u8 ra, .int .u8 rx, .int .u8 ry, .int .u8 rs, .int .u8 rp, .int .u16 rpc] 57)).alloc (.cells #[.int .u8 0, .int .u8 0, .int .u8 0, .int .u8 0, .int .u8 0, .int .u16 0] 57))
  simp only [World.size_alloc] at hmm l0 l1 l2 l3
  have HX := Lib.hid (fun (w3 : World) (hb3 : Below (((w.alloc (.cells #[.int .u8 ra, .int .u8 rx, .int .u8 ry, .int .u8 rs, .int .u8 rp, .int .u16 rpc] 57)).alloc (.cells #[.int .u8 0, .int .u8 0, .int .u8 0, .int .u8 0, .int .u8 0, .int .u16 0] 57)).alloc OA).heap.size (((w.alloc (.cells #[.int .u8 ra, .int .u8 rx, .int .u8 ry, .int .u8 rs, .int .u8 rp, .int .u16 rpc] 57)).alloc (.cells #[.int .u8 0, .int .u8 0, .int .u8 0, .int .u8 0, .int .u8 0, .int .u16 0] 57)).alloc OA) w3) => reg2 w w3 ra rx ry rs rp rpc (((Below.refl _ _).alloc (by simp) OA).trans (hb3.mono (by simp))))
  have hsh : (atName n.toList shiftT).getD .nilFunc = .nilFunc := by rw [of_list hn]; simp [shiftT, atName, Lib.toList_data]
  have HSh : Hid (∀ w, Calls Tryz.prog 186 #[.string n] w fun e w' => e = .returned (.nilFunc) ∧ Below w.heap.size w w') := Lib.hid (fun w => by have h := shift_any n w; rw [hsh] at h; exact h)
  have hnF := neqF
  have hnN := neqN
  have hspec : innerR n.toList { a := ra, x := rx, y := ry, s := rs, p := rp, pc := rpc } = { a := ra, x := rx, y := ry, s := rs, p := Go.bits .andNot .u8 rp 64, pc := rpc } := by rw [of_list hn]; simp [innerR, isShift, Lib.toList_data]
  rw [hspec]
  clear hspec hsh
  obtain rfl := of_list hn
  clear hn
  have hext : (ByteArray.extract ⟨[67, 76, 86].toArray⟩ 2 3) = ⟨#[86]⟩ := by decide +kernel
  have hfl : (atName (ByteArray.toList ⟨#[86]⟩) flagsT).getD (.int .u8 0) = .int .u8 64 := by simp [flagsT, atName, Lib.toList_data]
  replace hlk : Hid (∀ w3, Below (((w.alloc (.cells #[.int .u8 ra, .int .u8 rx, .int .u8 ry, .int .u8 rs, .int .u8 rp, .int .u16 rpc] 57)).alloc (.cells #[.int .u8 0, .int .u8 0, .int .u8 0, .int .u8 0, .int .u8 0, .int .u16 0] 57)).alloc OA).heap.size (((w.alloc (.cells #[.int .u8 ra, .int .u8 rx, .int .u8 ry, .int .u8 rs, .int .u8 rp, .int .u16 rpc] 57)).alloc (.cells #[.int .u8 0, .int .u8 0, .int .u8 0, .int .u8 0, .int .u8 0, .int .u16 0] 57)).alloc OA) w3 → (Instr.lookup 186 (.map (some (w.heap.size + 1 + 1))) (.string ⟨#[86]⟩) false).run Tryz.prog w3 = .ok (.int .u8 64) w3) := Lib.hid (fun w3 h => by have k := hlk w3 h ⟨#[86]⟩; rw [hfl] at k; simp only [World.size_alloc] at k; exact k)
  clear hfl
  simp only [R.val]
  go_enter Tryz.func164, Tryz.ntmps164
  go_wp2_with (go_at_call 186; refine (HSh.out _).mono ?_; rintro e w3 ⟨rfl, hb3⟩; obtain ⟨⟨K0, K1, K2, K3, K4, K5, K6, K7, K8, K9, KA, KB⟩, F0, F1, F2, F3, F4, F5, F6, F7, F8, F9, FA, FB, hb⟩ := HX.out w3 ⟨hb3.os, hb3.tape, hb3.output, hb3.size, hb3.block⟩; have hl9 := hlk.out w3.drew ⟨hb3.os, hb3.tape, hb3.output, hb3.size, hb3.block⟩)
  go_region
  all_goals
    go_wp2
    refine bodyPost_ret (v := .agg #[.int .u8 ra, .int .u8 rx, .int .u8 ry, .int .u8 rs, .int .u8 (Go.bits .andNot .u8 rp 64), .int .u16 rpc]) ?_ rfl ⟨rfl, ?_⟩
    · simp [results, Tryz.results164, go_sem, *]
    · refine Below.drew ?_
      iterate 7 (refine Below.setCell ?_ (by simp) _)
      exact hb
set_option maxHeartbeats 12800000 in
set_option maxRecDepth 100000 in
theorem inner_SEC (n : ByteArray) (r : R) (w : World) (hr : r.ok) (hn : (n.toList == [83, 69, 67]) = true) :
    Calls Tryz.prog 164 #[.string n, r.val] w fun e w' => e = .returned (innerR n.toList r).val ∧ Below w.heap.size w w' := by
  obtain ⟨ra, rx, ry, rs, rp, rpc⟩ := r
  obtain ⟨ha, hx, hy, hs, hp, hq⟩ := hr
  obtain ⟨O0, O1, O2, O3, OA, hmm, l0, l1, l2, l3, hlk⟩ := flags_laid ((w.alloc (.cells #[.int .u8 ra, .int .u8 rx, .int .u8 ry, .int .u8 rs, .int .u8 rp, .int .u16 rpc] 57)).alloc (.cells #[.int .u8 0, .int .u8 0, .int .u8 0, .int .u8 0, .int .u8 0, .int .u16 0] 57))
  simp only [World.size_alloc] at hmm l0 l1 l2 l3
  have HX := Lib.hid (fun (w3 : World) (hb3 : Below (((w.alloc (.cells #[.int .u8 ra, .int .u8 rx, .int .u8 ry, .int .u8 rs, .int .u8 rp, .int .u16 rpc] 57)).alloc (.cells #[.int .u8 0, .int .u8 0, .int .u8 0, .int .u8 0, .int .u8 0, .int .u16 0] 57)).alloc OA).heap.size (((w.alloc (.cells #[.int .u8 ra, .int .u8 rx, .int .u8 ry, .int .u8 rs, .int .u8 rp, .int .u16 rpc] 57)).alloc (.cells #[.int .u8 0, .int .u8 0, .int .u8 0, .int .u8 0, .int .u8 0, .int .u16 0] 57)).alloc OA) w3) => reg2 w w3 ra rx ry rs rp rpc (((Below.refl _ _).alloc (by simp) OA).trans (hb3.mono (by simp))))
  have hsh : (atName n.toList shiftT).getD .nilFunc = .nilFunc := by rw [of_list hn]; simp [shiftT, atName, Lib.toList_data]
  have HSh : Hid (∀ w, Calls Tryz.prog 186 #[.string n] w fun e w' => e = .returned (.nilFunc) ∧ Below w.heap.size w w') := Lib.hid (fun w => by have h := shift_any n w; rw [hsh] at h; exact h)
  have hnF := neqF
  have hnN := neqN
  have hspec : innerR n.toList { a := ra, x := rx, y := ry, s := rs, p := rp, pc := rpc } = { a := ra, x := rx, y := ry, s := rs, p := Go.bits .or .u8 rp 1, pc := rpc } := by rw [of_list hn]; simp [innerR, isShift, Lib.toList_data]
  rw [hspec]
  clear hspec hsh
  obtain rfl := of_list hn
  clear hn
  have hext : (ByteArray.extract ⟨[83, 69, 67].toArray⟩ 2 3) = ⟨#[67]⟩ := by decide +kernel
  have hfl : (atName (ByteArray.toList ⟨#[67]⟩) flagsT).getD (.int .u8 0) = .int .u8 1 := by simp [flagsT, atName, Lib.toList_data]
  replace hlk : Hid (∀ w3, Below (((w.alloc (.cells #[.int .u8 ra, .int .u8 rx, .int .u8 ry, .int .u8 rs, .int .u8 rp, .int .u16 rpc] 57)).alloc (.cells #[.int .u8 0, .int .u8 0, .int .u8 0, .int .u8 0, .int .u8 0, .int .u16 0] 57)).alloc OA).heap.size (((w.alloc (.cells #[.int .u8 ra, .int .u8 rx, .int .u8 ry, .int .u8 rs, .int .u8 rp, .int .u16 rpc] 57)).alloc (.cells #[.int .u8 0, .int .u8 0, .int .u8 0, .int .u8 0, .int .u8 0, .int .u16 0] 57)).alloc OA) w3 → (Instr.lookup 186 (.map (some (w.heap.size + 1 + 1))) (.string ⟨#[67]⟩) false).run Tryz.prog w3 = .ok (.int .u8 1) w3) := Lib.hid (fun w3 h => by have k := hlk w3 h ⟨#[67]⟩; rw [hfl] at k; simp only [World.size_alloc] at k; exact k)
  clear hfl
  simp only [R.val]
  go_enter Tryz.func164, Tryz.ntmps164
  go_wp2_with (go_at_call 186; refine (HSh.out _).mono ?_; rintro e w3 ⟨rfl, hb3⟩; obtain ⟨⟨K0, K1, K2, K3, K4, K5, K6, K7, K8, K9, KA, KB⟩, F0, F1, F2, F3, F4, F5, F6, F7, F8, F9, FA, FB, hb⟩ := HX.out w3 ⟨hb3.os, hb3.tape, hb3.output, hb3.size, hb3.block⟩; have hl9 := hlk.out w3.drew ⟨hb3.os, hb3.tape, hb3.output, hb3.size, hb3.block⟩)
  go_region
  all_goals
    go_wp2
    refine bodyPost_ret (v := .agg #[.int .u8 ra, .int .u8 rx, .int .u8 ry, .int .u8 rs, .int .u8 (Go.bits .or .u8 rp 1), .int .u16 rpc]) ?_ rfl ⟨rfl, ?_⟩
    · simp [results, Tryz.results164, go_sem, *]
    · refine Below.drew ?_
      iterate 7 (refine Below.setCell ?_ (by simp) _)
      exact hb
set_option maxHeartbeats 12800000 in
set_option maxRecDepth 100000 in
theorem inner_SED (n : ByteArray) (r : R) (w : World) (hr : r.ok) (hn : (n.toList == [83, 69, 68]) = true) :
    Calls Tryz.prog 164 #[.string n, r.val] w fun e w' => e = .returned (innerR n.toList r).val ∧ Below w.heap.size w w' := by
  obtain ⟨ra, rx, ry, rs, rp, rpc⟩ := r
  obtain ⟨ha, hx, hy, hs, hp, hq⟩ := hr
  obtain ⟨O0, O1, O2, O3, OA, hmm, l0, l1, l2, l3, hlk⟩ := flags_laid ((w.alloc (.cells #[.int .u8 ra, .int .u8 rx, .int .u8 ry, .int .u8 rs, .int .u8 rp, .int .u16 rpc] 57)).alloc (.cells #[.int .u8 0, .int .u8 0, .int .u8 0, .int .u8 0, .int .u8 0, .int .u16 0] 57))
  simp only [World.size_alloc] at hmm l0 l1 l2 l3
  have HX := Lib.hid (fun (w3 : World) (hb3 : Below (((w.alloc (.cells #[.int .u8 ra, .int .u8 rx, .int .u8 ry, .int .u8 rs, .int .u8 rp, .int .u16 rpc] 57)).alloc (.cells #[.int .u8 0, .int .u8 0, .int .u8 0, .int .u8 0, .int .u8 0, .int .u16 0] 57)).alloc OA).heap.size (((w.alloc (.cells #[.int .u8 ra, .int .u8 rx, .int .u8 ry, .int .u8 rs, .int .u8 rp, .int .u16 rpc] 57)).alloc (.cells #[.int .u8 0, .int .u8 0, .int .u8 0, .int .u8 0, .int .u8 0, .int .u16 0] 57)).alloc OA) w3) => reg2 w w3 ra rx ry rs rp rpc (((Below.refl _ _).alloc (by simp) OA).trans (hb3.mono (by simp))))
  have hsh : (atName n.toList shiftT).getD .nilFunc = .nilFunc := by rw [of_list hn]; simp [shiftT, atName, Lib.toList_data]
  have HSh : Hid (∀ w, Calls Tryz.prog 186 #[.string n] w fun e w' => e = .returned (.nilFunc) ∧ Below w.heap.size w w') := Lib.hid (fun w => by have h := shift_any n w; rw [hsh] at h; exact h)
  have hnF := neqF
  have hnN := neqN
  have hspec : innerR n.toList { a := ra, x := rx, y := ry, s := rs, p := rp, pc := rpc } = { a := ra, x := rx, y := ry, s := rs, p := Go.bits .or .u8 rp 8, pc := rpc } := by rw [of_list hn]; simp [innerR, isShift, Lib.toList_data]
  rw [hspec]
  clear hspec hsh
  obtain rfl := of_list hn
  clear hn
  have hext : (ByteArray.extract ⟨[83, 69, 68].toArray⟩ 2 3) = ⟨#[68]⟩ := by decide +kernel
  have hfl : (atName (ByteArray.toList ⟨#[68]⟩) flagsT).getD (.int .u8 0) = .int .u8 8 := by simp [flagsT, atName, Lib.toList_data]
  replace hlk : Hid (∀ w3, Below (((w.alloc (.cells #[.int .u8 ra, .int .u8 rx, .int .u8 ry, .int .u8 rs, .int .u8 rp, .int .u16 rpc] 57)).alloc (.cells #[.int .u8 0, .int .u8 0, .int .u8 0, .int .u8 0, .int .u8 0, .int .u16 0] 57)).alloc OA).heap.size (((w.alloc (.cells #[.int .u8 ra, .int .u8 rx, .int .u8 ry, .int .u8 rs, .int .u8 rp, .int .u16 rpc] 57)).alloc (.cells #[.int .u8 0, .int .u8 0, .int .u8 0, .int .u8 0, .int .u8 0, .int .u16 0] 57)).alloc OA) w3 → (Instr.lookup 186 (.map (some (w.heap.size + 1 + 1))) (.string ⟨#[68]⟩) false).run Tryz.prog w3 = .ok (.int .u8 8) w3) := Lib.hid (fun w3 h => by have k := hlk w3 h ⟨#[68]⟩; rw [hfl] at k; simp only [World.size_alloc] at k; exact k)
  clear hfl
  simp only [R.val]
  go_enter Tryz.func164, Tryz.ntmps164
  go_wp2_with (go_at_call 186; refine (HSh.out _).mono ?_; rintro e w3 ⟨rfl, hb3⟩; obtain ⟨⟨K0, K1, K2, K3, K4, K5, K6, K7, K8, K9, KA, KB⟩, F0, F1, F2, F3, F4, F5, F6, F7, F8, F9, FA, FB, hb⟩ := HX.out w3 ⟨hb3.os, hb3.tape, hb3.output, hb3.size, hb3.block⟩; have hl9 := hlk.out w3.drew ⟨hb3.os, hb3.tape, hb3.output, hb3.size, hb3.block⟩)
  go_region
  all_goals
    go_wp2
    refine bodyPost_ret (v := .agg #[.int .u8 ra, .int .u8 rx, .int .u8 ry, .int .u8 rs, .int .u8 (Go.bits .or .u8 rp 8), .int .u16 rpc]) ?_ rfl ⟨rfl, ?_⟩
    · simp [results, Tryz.results164, go_sem, *]
    · refine Below.drew ?_
      iterate 7 (refine Below.setCell ?_ (by simp) _)
      exact hb
set_option maxHeartbeats 12800000 in
set_option maxRecDepth 100000 in
theorem inner_SEI (n : ByteArray) (r : R) (w : World) (hr : r.ok) (hn : (n.toList == [83, 69, 73]) = true) :
    Calls Tryz.prog 164 #[.string n, r.val] w fun e w' => e = .returned (innerR n.toList r).val ∧ Below w.heap.size w w' := by
  obtain ⟨ra, rx, ry, rs, rp, rpc⟩ := r
  obtain ⟨ha, hx, hy, hs, hp, hq⟩ := hr
  obtain ⟨O0, O1, O2, O3, OA, hmm, l0, l1, l2, l3, hlk⟩ := flags_laid ((w.alloc (.cells #[.int .u8 ra, .int .u8 rx, .int .u8 ry, .int .u8 rs, .int .u8 rp, .int .u16 rpc] 57)).alloc (.cells #[.int .u8 0, .int .u8 0, .int .u8 0, .int .u8 0, .int .u8 0, .int .u16 0] 57))
  simp only [World.size_alloc] at hmm l0 l1 l2 l3
  have HX := Lib.hid (fun (w3 : World) (hb3 : Below (((w.alloc (.cells #[.int .u8 ra, .int .u8 rx, .int .u8 ry, .int .u8 rs, .int .u8 rp, .int .u16 rpc] 57)).alloc (.cells #[.int .u8 0, .int .u8 0, .int .u8 0, .int .u8 0, .int .u8 0, .int .u16 0] 57)).alloc OA).heap.size (((w.alloc (.cells #[.int .u8 ra, .int .u8 rx, .int .u8 ry, .int .u8 rs, .int .u8 rp, .int .u16 rpc] 57)).alloc (.cells #[.int .u8 0, .int .u8 0, .int .u8 0, .int .u8 0, .int .u8 0, .int .u16 0] 57)).alloc OA) w3) => reg2 w w3 ra rx ry rs rp rpc (((Below.refl _ _).alloc (by simp) OA).trans (hb3.mono (by simp))))
  have hsh : (atName n.toList shiftT).getD .nilFunc = .nilFunc := by rw [of_list hn]; simp [shiftT, atName, Lib.toList_data]
  have HSh : Hid (∀ w, Calls Tryz.prog 186 #[.string n] w fun e w' => e = .returned (.nilFunc) ∧ Below w.heap.size w w') := Lib.hid (fun w => by have h := shift_any n w; rw [hsh] at h; exact h)
  have hnF := neqF
  have hnN := neqN
  have hspec : innerR n.toList { a := ra, x := rx, y := ry, s := rs, p := rp, pc := rpc } = { a := ra, x := rx, y := ry, s := rs, p := Go.bits .or .u8 rp 4, pc := rpc } := by rw [of_list hn]; simp [innerR, isShift, Lib.toList_data]
  rw [hspec]
  clear hspec hsh
  obtain rfl := of_list hn
  clear hn
  have hext : (ByteArray.extract ⟨[83, 69, 73].toArray⟩ 2 3) = ⟨#[73]⟩ := by decide +kernel
  have hfl : (atName (ByteArray.toList ⟨#[73]⟩) flagsT).getD (.int .u8 0) = .int .u8 4 := by simp [flagsT, atName, Lib.toList_data]
  replace hlk : Hid (∀ w3, Below (((w.alloc (.cells #[.int .u8 ra, .int .u8 rx, .int .u8 ry, .int .u8 rs, .int .u8 rp, .int .u16 rpc] 57)).alloc (.cells #[.int .u8 0, .int .u8 0, .int .u8 0, .int .u8 0, .int .u8 0, .int .u16 0] 57)).alloc OA).heap.size (((w.alloc (.cells #[.int .u8 ra, .int .u8 rx, .int .u8 ry, .int .u8 rs, .int .u8 rp, .int .u16 rpc] 57)).alloc (.cells #[.int .u8 0, .int .u8 0, .int .u8 0, .int .u8 0, .int .u8 0, .int .u16 0] 57)).alloc OA) w3 → (Instr.lookup 186 (.map (some (w.heap.size + 1 + 1))) (.string ⟨#[73]⟩) false).run Tryz.prog w3 = .ok (.int .u8 4) w3) := Lib.hid (fun w3 h => by have k := hlk w3 h ⟨#[73]⟩; rw [hfl] at k; simp only [World.size_alloc] at k; exact k)
  clear hfl
  simp only [R.val]
  go_enter Tryz.func164, Tryz.ntmps164
  go_wp2_with (go_at_call 186; refine (HSh.out _).mono ?_; rintro e w3 ⟨rfl, hb3⟩; obtain ⟨⟨K0, K1, K2, K3, K4, K5, K6, K7, K8, K9, KA, KB⟩, F0, F1, F2, F3, F4, F5, F6, F7, F8, F9, FA, FB, hb⟩ := HX.out w3 ⟨hb3.os, hb3.tape, hb3.output, hb3.size, hb3.block⟩; have hl9 := hlk.out w3.drew ⟨hb3.os, hb3.tape, hb3.output, hb3.size, hb3.block⟩)
  go_region
  all_goals
    go_wp2
    refine bodyPost_ret (v := .agg #[.int .u8 ra, .int .u8 rx, .int .u8 ry, .int .u8 rs, .int .u8 (Go.bits .or .u8 rp 4), .int .u16 rpc]) ?_ rfl ⟨rfl, ?_⟩
    · simp [results, Tryz.results164, go_sem, *]
    · refine Below.drew ?_
      iterate 7 (refine Below.setCell ?_ (by simp) _)
      exact hb
set_option maxHeartbeats 12800000 in
set_option maxRecDepth 100000 in
theorem inner_rest (n : ByteArray) (r : R) (w : World) (hr : r.ok) (hs0 : isShift n.toList = false) (n0 : (n.toList == [67, 76, 67]) = false) (n1 : (n.toList == [67, 76, 68]) = false) (n2 : (n.toList == [67, 76, 73]) = false) (n3 : (n.toList == [67, 76, 86]) = false) (n4 : (n.toList == [83, 69, 67]) = false) (n5 : (n.toList == [83, 69, 68]) = false) (n6 : (n.toList == [83, 69, 73]) = false) :
    Calls Tryz.prog 164 #[.string n, r.val] w fun e w' => e = .returned (innerR n.toList r).val ∧ Below w.heap.size w w' := by
  obtain ⟨ra, rx, ry, rs, rp, rpc⟩ := r
  obtain ⟨ha, hx, hy, hs, hp, hq⟩ := hr
  obtain ⟨O0, O1, O2, O3, OA, hmm, l0, l1, l2, l3, hlk⟩ := flags_laid ((w.alloc (.cells #[.int .u8 ra, .int .u8 rx, .int .u8 ry, .int .u8 rs, .int .u8 rp, .int .u16 rpc] 57)).alloc (.cells #[.int .u8 0, .int .u8 0, .int .u8 0, .int .u8 0, .int .u8 0, .int .u16 0] 57))
  simp only [World.size_alloc] at hmm l0 l1 l2 l3
  have HX := Lib.hid (fun (w3 : World) (hb3 : Below (((w.alloc (.cells #[.int .u8 ra, .int .u8 rx, .int .u8 ry, .int .u8 rs, .int .u8 rp, .int .u16 rpc] 57)).alloc (.cells #[.int .u8 0, .int .u8 0, .int .u8 0, .int .u8 0, .int .u8 0, .int .u16 0] 57)).alloc OA).heap.size (((w.alloc (.cells #[.int .u8 ra, .int .u8 rx, .int .u8 ry, .int .u8 rs, .int .u8 rp, .int .u16 rpc] 57)).alloc (.cells #[.int .u8 0, .int .u8 0, .int .u8 0, .int .u8 0, .int .u8 0, .int .u16 0] 57)).alloc OA) w3) => reg2 w w3 ra rx ry rs rp rpc (((Below.refl _ _).alloc (by simp) OA).trans (hb3.mono (by simp))))
  have hsh : (atName n.toList shiftT).getD .nilFunc = .nilFunc := by
    simp only [isShift, Bool.or_eq_false_iff] at hs0
    simp [shiftT, atName, Lib.toList_data] at hs0 ⊢
    simp [hs0]
  have HSh : Hid (∀ w, Calls Tryz.prog 186 #[.string n] w fun e w' => e = .returned (.nilFunc) ∧ Below w.heap.size w w') := Lib.hid (fun w => by have h := shift_any n w; rw [hsh] at h; exact h)
  have hnF := neqF
  have hnN := neqN
  have HS := Lib.hid (fun p1 p2 v w h1 f1 h2 f2 => set_any p1 p2 v rp w h1 f1 h2 f2 hp)
  clear hsh hlk
  have hs0' := Lib.hid hs0
  clear hs0
  simp only [R.val]
  go_enter Tryz.func164, Tryz.ntmps164
  go_wp2_with (first
    | (go_at_call 186; refine (HSh.out _).mono ?_; rintro e w3 ⟨rfl, hb3⟩; obtain ⟨⟨K0, K1, K2, K3, K4, K5, K6, K7, K8, K9, KA, KB⟩, F0, F1, F2, F3, F4, F5, F6, F7, F8, F9, FA, FB, hb⟩ := HX.out w3 ⟨hb3.os, hb3.tape, hb3.output, hb3.size, hb3.block⟩)
    | (go_at_call 187; refine (HS.out _ _ _ _ ?_ ?_ ?_ ?_).mono ?_; (iterate 4 (focus (simp [go_sem, *]; done))); rintro e w' ⟨rfl, rfl⟩))
  all_goals
    have hs0 := hs0'.out
    refine bodyPost_ret (v := (innerR n.toList { a := ra, x := rx, y := ry, s := rs, p := rp, pc := rpc }).val) ?_ rfl ⟨rfl, ?_⟩
    · simp [results, Tryz.results164, go_sem, innerR, R.val, *]
    · repeat (refine Below.setCell ?_ (by simp) _)
      exact hb
theorem inner_any (n : ByteArray) (r : R) (w : World) (hr : r.ok) :
    Calls Tryz.prog 164 #[.string n, r.val] w fun e w' => e = .returned (innerR n.toList r).val ∧ Below w.heap.size w w' := by
  by_cases s_asl : (n.toList == [65, 83, 76]) = true
  · exact inner_asl n r w hr s_asl
  by_cases s_lsr : (n.toList == [76, 83, 82]) = true
  · exact inner_lsr n r w hr s_lsr
  by_cases s_rol : (n.toList == [82, 79, 76]) = true
  · exact inner_rol n r w hr s_rol
  by_cases s_ror : (n.toList == [82, 79, 82]) = true
  · exact inner_ror n r w hr s_ror
  by_cases n0 : (n.toList == [67, 76, 67]) = true
  · exact inner_CLC n r w hr n0
  by_cases n1 : (n.toList == [67, 76, 68]) = true
  · exact inner_CLD n r w hr n1
  by_cases n2 : (n.toList == [67, 76, 73]) = true
  · exact inner_CLI n r w hr n2
  by_cases n3 : (n.toList == [67, 76, 86]) = true
  · exact inner_CLV n r w hr n3
  by_cases n4 : (n.toList == [83, 69, 67]) = true
  · exact inner_SEC n r w hr n4
  by_cases n5 : (n.toList == [83, 69, 68]) = true
  · exact inner_SED n r w hr n5
  by_cases n6 : (n.toList == [83, 69, 73]) = true
  · exact inner_SEI n r w hr n6
  simp only [Bool.not_eq_true] at *
  exact inner_rest n r w hr (by simp [isShift, *]) n0 n1 n2 n3 n4 n5 n6
end Go.Proofs.YtifajfjiloajfaaGreatDoor.OwnEff

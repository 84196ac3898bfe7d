/- Maps from names, laid by the code itself: what an entry's laying and a atName-up do. Conditions: the types are maps from strings. · Contracts of what opcodes do to registers. Conditions: bytes are bytes. · Contracts of what opcodes do: shifts by name, what is pushed. Conditions: bytes are bytes. · The contract of what an opcode writes. Conditions: bytes are bytes. · The contract of a branch's test. Condition: bytes are bytes. -/
import Derived.Test.YtifajfjiloajfaaGreatDoorProg
import Derived.Below
import Derived.OwnWalk
import Derived.Laws.OwnMore
import Derived.Laws.Rows
import Derived.Deep.Draws
import Derived.WalkKit
import Derived.Tactics
import Derived.Lib.Hide
import Derived.KernelRfl
import Derived.MapKept
import Derived.WideMake
import Derived.Lib.Strings
import Derived.Test.YtifajfjiloajfaaGreatDoorMAluSpec
import Derived.Carry
import Derived.RegionTactic
namespace Go.Proofs.YtifajfjiloajfaaGreatDoor.Own
open Go.RowKit

section
variable {P : Program} {w : World}
theorem set_new (o o' : Obj) : ({ w.alloc o with heap := (w.alloc o).heap.setIfInBounds w.heap.size o' } : World) = w.alloc o' := by
  have e : ∀ o, w.alloc o = { w with heap := w.heap.push o } := fun _ => rfl
  rw [e, e]
  simp [Array.setIfInBounds, Array.set_push]
/-- An entry of a new name. -/
theorem run_lay (mty kt et : TypeId) (es : Array MapEntry) (clock : Nat) (s : ByteArray) (val : Value) (hm : P.underlying mty = some (.map kt et)) (hk : P.underlying kt = some .string)
    (hf : Instr.findNow .string (.string s) es.toList 0 = some none) :
    (Instr.mapUpdate mty (.map (some w.heap.size)) (.string s) val).run P (w.alloc (.map es clock)) = .ok () (w.alloc (.map (es.push { key := .string s, val := val, born := clock }) (clock + 1))) := by
  have hb : (w.alloc (.map es clock)).heap[w.heap.size]? = some (.map es clock) := heap_alloc_new w _
  have hc : (Instr.checkKey false 10000 kt (.string s)).run P (w.alloc (.map es clock)) = .ok () (w.alloc (.map es clock)) := MapKept.run_checkKey (k := .string s) hk (by simp [MapKept.IsKey]) false 9999
  have h := set_new (w := w) (.map es clock) (.map (es.push { key := .string s, val := val, born := clock }) (clock + 1))
  simp only [Instr.mapUpdate, Sem.run_bind, run_underlying hm, MapKept.run_getObj_map hb, hc, MapKept.run_findKey hk hf, MapKept.run_setObj_map _ hb, Result.andThen]
  rw [h]
/-- A atName-up that finds. -/
theorem run_look (mty kt et : TypeId) (es : Array MapEntry) (clock : Nat) (b : Nat) (s : ByteArray) (i : Nat) (v : Value) (hm : P.underlying mty = some (.map kt et)) (hk : P.underlying kt = some .string)
    (hb : w.heap[b]? = some (.map es clock)) (hf : Instr.findNow .string (.string s) es.toList 0 = some (some (i, v))) :
    (Instr.lookup mty (.map (some b)) (.string s) false).run P w = .ok v w ∧ (Instr.lookup mty (.map (some b)) (.string s) true).run P w = .ok (.tuple #[v, .bool true]) w := by
  have hc : ∀ e, (Instr.checkKey e 10000 kt (.string s)).run P w = .ok () w := fun e => MapKept.run_checkKey (k := .string s) hk (by simp [MapKept.IsKey]) e 9999
  constructor <;> simp [Instr.lookup, run_underlying hm, MapKept.run_getObj_map hb, hc, MapKept.run_findKey hk hf, Result.andThen]
/-- A atName-up that doesn't. -/
theorem run_look_none (mty kt et : TypeId) (es : Array MapEntry) (clock : Nat) (b : Nat) (s : ByteArray) (i : TypeInfo) (z : Value) (hm : P.underlying mty = some (.map kt et)) (hk : P.underlying kt = some .string) (hi : P.info? et = some i) (hz : i.zero = some z)
    (hb : w.heap[b]? = some (.map es clock)) (hf : Instr.findNow .string (.string s) es.toList 0 = some none) :
    (Instr.lookup mty (.map (some b)) (.string s) false).run P w = .ok z w ∧ (Instr.lookup mty (.map (some b)) (.string s) true).run P w = .ok (.tuple #[z, .bool false]) w := by
  have hc : ∀ e, (Instr.checkKey e 10000 kt (.string s)).run P w = .ok () w := fun e => MapKept.run_checkKey (k := .string s) hk (by simp [MapKept.IsKey]) e 9999
  constructor <;> simp [Instr.lookup, run_underlying hm, MapKept.run_getObj_map hb, hc, MapKept.run_findKey hk hf, Result.andThen, zeroValue, typeInfo, hi, hz]
end
def ents : List (ByteArray × Value) → Nat → List MapEntry
  | [], _ => []
  | (k, v) :: r, i => { key := .string k, val := v, born := i } :: ents r (i + 1)
/-- What a list of names and values has at a name. -/
def atName {α : Type} (n : List UInt8) : List (ByteArray × α) → Option α
  | [] => none
  | (k, v) :: r => if (n == k.toList) = true then some v else atName n r
theorem ents_append : ∀ (a b : List (ByteArray × Value)) (i : Nat), ents (a ++ b) i = ents a i ++ ents b (i + a.length)
  | [], b, i => rfl
  | (k, v) :: a, b, i => by
    have := ents_append a b (i + 1)
    simp only [List.cons_append, ents, List.length_cons]
    rw [this, show i + 1 + a.length = i + (a.length + 1) by omega]
theorem bytes_beq (a b : ByteArray) : (a == b) = (a.toList == b.toList) := by
  rw [Lib.toList_data, Lib.toList_data]
  obtain ⟨x⟩ := a
  obtain ⟨y⟩ := b
  show (x == y) = (x.toList == y.toList)
  rw [Bool.eq_iff_iff, beq_iff_eq, beq_iff_eq, Array.toList_inj]
theorem find_ents (s : ByteArray) : ∀ (kvs : List (ByteArray × Value)) (i j : Nat), ∃ q, Instr.findNow .string (.string s) (ents kvs i) j = some ((atName s.toList kvs).map (fun v => (q, v)))
  | [], _, _ => ⟨0, rfl⟩
  | (k, v) :: r, i, j => by
    obtain ⟨q, hq⟩ := find_ents s r (i + 1) (j + 1)
    cases h : (s.toList == k.toList)
    · refine ⟨q, ?_⟩
      simp only [ents, Instr.findNow, Instr.sameNow, bytes_beq, h, atName]
      simpa using hq
    · exact ⟨j, by simp [ents, Instr.findNow, Instr.sameNow, bytes_beq, h, atName]⟩
section
variable {P : Program} {w : World}
theorem lay_run (mty kt et : TypeId) (kvs : List (ByteArray × Value)) (s : ByteArray) (val : Value) (hm : P.underlying mty = some (.map kt et)) (hk : P.underlying kt = some .string) (hf : atName s.toList kvs = none) :
    (Instr.mapUpdate mty (.map (some w.heap.size)) (.string s) val).run P (w.alloc (.map (ents kvs 0).toArray kvs.length)) = .ok () (w.alloc (.map (ents (kvs ++ [(s, val)]) 0).toArray (kvs ++ [(s, val)]).length)) := by
  obtain ⟨q, hq⟩ := find_ents s kvs 0 0
  rw [hf] at hq
  rw [run_lay mty kt et _ _ s val hm hk (by simpa using hq), ents_append]
  simp [ents]
theorem name_run (mty kt et : TypeId) (kvs : List (ByteArray × Value)) (clock b : Nat) (s : ByteArray) (i : TypeInfo) (z : Value) (hm : P.underlying mty = some (.map kt et)) (hk : P.underlying kt = some .string) (hi : P.info? et = some i) (hz : i.zero = some z)
    (hb : w.heap[b]? = some (.map (ents kvs 0).toArray clock)) :
    (Instr.lookup mty (.map (some b)) (.string s) false).run P w = .ok ((atName s.toList kvs).getD z) w ∧ (Instr.lookup mty (.map (some b)) (.string s) true).run P w = .ok (.tuple #[(atName s.toList kvs).getD z, .bool (atName s.toList kvs).isSome]) w := by
  obtain ⟨q, hq⟩ := find_ents s kvs 0 0
  cases h : atName s.toList kvs with
  | none =>
    rw [h] at hq
    exact run_look_none mty kt et _ clock b s i z hm hk hi hz hb (by simpa using hq)
  | some v =>
    rw [h] at hq
    exact run_look mty kt et _ clock b s q v hm hk hb (by simpa using hq)
end
end Go.Proofs.YtifajfjiloajfaaGreatDoor.Own
namespace Go.Proofs.YtifajfjiloajfaaGreatDoor.OwnEff
open Go.RowKit Go.Proofs.YtifajfjiloajfaaGreatDoor.Own

structure R where
  a : Int
  x : Int
  y : Int
  s : Int
  p : Int
  pc : Int
def R.ok (r : R) : Prop := By r.a ∧ By r.x ∧ By r.y ∧ By r.s ∧ By r.p ∧ 0 ≤ r.pc ∧ r.pc < 65536
def R.val (r : R) : Value := .agg #[.int .u8 r.a, .int .u8 r.x, .int .u8 r.y, .int .u8 r.s, .int .u8 r.p, .int .u16 r.pc]
theorem set_any (p1 p2 : Addr) (v P : Int) (w : World) (h1' : (w.cell? p1).isSome = true) (f1 : w.frozen? p1 = false) (h2 : (w.setCell p1 (.int .u8 v)).cell? p2 = some (.int .u8 P)) (f2 : (w.setCell p1 (.int .u8 v)).frozen? p2 = false) (hP : By P) :
    Calls Tryz.prog 187 #[.pointer (some p1), .pointer (some p2), .int .u8 v] w fun e w' => e = .returned (.tuple #[]) ∧ w' = (w.setCell p1 (.int .u8 v)).setCell p2 (.int .u8 (nz P v)) := by
  obtain ⟨o, h1⟩ := Option.isSome_iff_exists.1 h1'
  have HN := Lib.hid (fun w => nz_any P v w hP)
  clear h1'
  go_enter Tryz.func187, Tryz.ntmps187
  go_wp2_with fail
  go_at_call 201
  refine (HN.out _).mono ?_
  rintro e w' ⟨rfl, rfl⟩
  go_wp2
  go_end0
  exact ⟨rfl, rfl⟩
def pullsR (n : List UInt8) (r : R) (m : Int) : R :=
  if (n == [80, 76, 65]) = true then { r with a := m, p := nz r.p m }
  else if (n == [80, 76, 80]) = true then { r with p := Go.bits .or .u8 (Go.bits .andNot .u8 m 16) 32 }
  else r
set_option maxHeartbeats 3200000 in
theorem pulls_any (n : ByteArray) (r : R) (m : Int) (w : World) (hr : r.ok) :
    Calls Tryz.prog 165 #[.string n, r.val, .int .u8 m] w fun e w' => e = .returned (pullsR n.toList r m).val ∧ Below w.heap.size w w' := by
  obtain ⟨ra, rx, ry, rs, rp, rpc⟩ := r
  obtain ⟨ha, hx, hy, hs, hp, hq⟩ := hr
  have HS := Lib.hid (fun p1 p2 w h1 f1 h2 f2 => set_any p1 p2 m rp w h1 f1 h2 f2 hp)
  simp only [R.val]
  go_enter Tryz.func165, Tryz.ntmps165
  go_wp2_with (go_at_call 187; refine (HS.out _ _ _ ?_ ?_ ?_ ?_).mono ?_; (iterate 4 (focus (simp [go_sem]; done))); rintro e w' ⟨rfl, rfl⟩)
  all_goals
    refine bodyPost_ret (v := (pullsR n.toList { a := ra, x := rx, y := ry, s := rs, p := rp, pc := rpc } m).val) ?_ rfl ⟨rfl, ((Below.refl _ w).alloc (Nat.le_refl _) _).alloc (by simp) _⟩
    simp [results, Tryz.results165, go_sem, pullsR, R.val, *]
theorem and_by {x y : Int} (hx : By x) (hy : By y) : By (Go.bits .and .u8 x y) := by
  rw [u8_and x y hx.1 hx.2 hy.1 hy.2]
  exact land_by hx
def comparesR (n : List UInt8) (r : R) (m : Int) : R :=
  if (n == [67, 77, 80]) = true then { r with p := cmpF r.a m r.p }
  else if (n == [67, 80, 88]) = true then { r with p := cmpF r.x m r.p }
  else if (n == [67, 80, 89]) = true then { r with p := cmpF r.y m r.p }
  else if (n == [66, 73, 84]) = true then { r with p := bitF r.a m r.p }
  else r
def loadsR (n : List UInt8) (r : R) (m : Int) : R :=
  if (n == [76, 68, 88]) = true then { r with x := m, p := nz r.p m }
  else if (n == [76, 68, 89]) = true then { r with y := m, p := nz r.p m }
  else if (n == [76, 65, 88]) = true then { r with a := m, x := m, p := nz r.p m }
  else if (n == [76, 88, 65]) = true then { r with a := Go.bits .and .u8 (Go.bits .or .u8 (r.a) (238)) (m), x := Go.bits .and .u8 (Go.bits .or .u8 (r.a) (238)) (m), p := nz r.p (Go.bits .and .u8 (Go.bits .or .u8 (r.a) (238)) (m)) }
  else if (n == [76, 65, 83]) = true then { r with a := Go.bits .and .u8 (m) (r.s), x := Go.bits .and .u8 (m) (r.s), s := Go.bits .and .u8 (m) (r.s), p := nz r.p (Go.bits .and .u8 (m) (r.s)) }
  else if (n == [83, 66, 88]) = true then { r with x := sbxV (Go.bits .and .u8 (r.a) (r.x)) m, p := cmpF (Go.bits .and .u8 (r.a) (r.x)) m r.p }
  else r
def andsR (n : List UInt8) (r : R) (m : Int) : R :=
  if (n == [65, 78, 67]) = true then { r with a := Go.bits .and .u8 (r.a) (m), p := Go.bits .or .u8 (Go.bits .andNot .u8 (nz r.p (Go.bits .and .u8 (r.a) (m))) 1) ((Go.bits .and .u8 (r.a) (m)) / 128) }
  else if (n == [65, 76, 82]) = true then { r with a := lsrV (Go.bits .and .u8 (r.a) (m)), p := lsrF (Go.bits .and .u8 (r.a) (m)) r.p }
  else if (n == [65, 82, 82]) = true then { r with a := arrV r.a m r.p, p := arrF r.a m r.p }
  else if (n == [65, 78, 69]) = true then { r with a := Go.bits .and .u8 (Go.bits .and .u8 (Go.bits .or .u8 (r.a) (238)) (r.x)) (m), p := nz r.p (Go.bits .and .u8 (Go.bits .and .u8 (Go.bits .or .u8 (r.a) (238)) (r.x)) (m)) }
  else r
set_option maxHeartbeats 6400000 in
theorem compares_any (n : ByteArray) (r : R) (m : Int) (w : World) (hr : r.ok) (hm : By m) :
    Calls Tryz.prog 191 #[.string n, r.val, .int .u8 m] w fun e w' => e = .returned (comparesR n.toList r m).val ∧ Below w.heap.size w w' := by
  obtain ⟨ra, rx, ry, rs, rp, rpc⟩ := r
  obtain ⟨ha, hx, hy, hs, hp, hq⟩ := hr
  have H1 := Lib.hid (fun q (hq : By q) w => cmp_any q m rp w hq hm hp)
  have H4 := Lib.hid (fun w => bit_any ra m rp w ha hm hp)
  simp only [R.val]
  go_enter Tryz.func191, Tryz.ntmps191
  go_wp2_with (first
    | (go_at_call 207; refine (H1.out _ ?_ _).mono ?_; (focus assumption); rintro e w' ⟨rfl, rfl⟩)
    | (go_at_call 208; refine (H4.out _).mono ?_; rintro e w' ⟨rfl, rfl⟩))
  all_goals
    refine bodyPost_ret (v := (comparesR n.toList { a := ra, x := rx, y := ry, s := rs, p := rp, pc := rpc } m).val) ?_ rfl ⟨rfl, ((Below.refl _ w).alloc (Nat.le_refl _) _).alloc (by simp) _⟩
    simp [results, Tryz.results191, go_sem, comparesR, R.val, *]
set_option maxHeartbeats 6400000 in
theorem loads_any (n : ByteArray) (r : R) (m : Int) (w : World) (hr : r.ok) (hm : By m) :
    Calls Tryz.prog 192 #[.string n, r.val, .int .u8 m] w fun e w' => e = .returned (loadsR n.toList r m).val ∧ Below w.heap.size w w' := by
  obtain ⟨ra, rx, ry, rs, rp, rpc⟩ := r
  obtain ⟨ha, hx, hy, hs, hp, hq⟩ := hr
  have HS := Lib.hid (fun p1 p2 v w h1 f1 h2 f2 => set_any p1 p2 v rp w h1 f1 h2 f2 hp)
  have hax : By (Go.bits .and .u8 ra rx) := and_by ha hx
  have H1 := Lib.hid (fun w => sbx_any _ m rp w hax hm hp)
  simp only [R.val]
  go_enter Tryz.func192, Tryz.ntmps192
  go_wp2_with (first
    | (go_at_call 187; refine (HS.out _ _ _ _ ?_ ?_ ?_ ?_).mono ?_; (iterate 4 (focus (simp [go_sem]; done))); rintro e w' ⟨rfl, rfl⟩)
    | (go_at_call 209; refine (H1.out _).mono ?_; rintro e w' ⟨rfl, rfl⟩))
  all_goals
    refine bodyPost_ret (v := (loadsR n.toList { a := ra, x := rx, y := ry, s := rs, p := rp, pc := rpc } m).val) ?_ rfl ⟨rfl, ((Below.refl _ w).alloc (Nat.le_refl _) _).alloc (by simp) _⟩
    simp [results, Tryz.results192, go_sem, loadsR, R.val, *]
set_option maxHeartbeats 6400000 in
theorem ands_any (n : ByteArray) (r : R) (m : Int) (w : World) (hr : r.ok) (hm : By m) :
    Calls Tryz.prog 193 #[.string n, r.val, .int .u8 m] w fun e w' => e = .returned (andsR n.toList r m).val ∧ Below w.heap.size w w' := by
  obtain ⟨ra, rx, ry, rs, rp, rpc⟩ := r
  obtain ⟨ha, hx, hy, hs, hp, hq⟩ := hr
  have HS := Lib.hid (fun p1 p2 v w h1 f1 h2 f2 => set_any p1 p2 v rp w h1 f1 h2 f2 hp)
  have ham : By (Go.bits .and .u8 ra m) := and_by ha hm
  have H1 := Lib.hid (fun w => lsr_any _ rp w ham hp)
  have H2 := Lib.hid (fun w => arr_any ra m rp w ha hm hp)
  simp only [R.val]
  go_enter Tryz.func193, Tryz.ntmps193
  go_wp2_with (first
    | (go_at_call 187; refine (HS.out _ _ _ _ ?_ ?_ ?_ ?_).mono ?_; (iterate 4 (focus (simp [go_sem]; done))); rintro e w' ⟨rfl, rfl⟩)
    | (go_at_call 198; refine (H1.out _).mono ?_; rintro e w' ⟨rfl, rfl⟩)
    | (go_at_call 210; refine (H2.out _).mono ?_; rintro e w' ⟨rfl, rfl⟩))
  all_goals
    refine bodyPost_ret (v := (andsR n.toList { a := ra, x := rx, y := ry, s := rs, p := rp, pc := rpc } m).val) ?_ rfl ⟨rfl, ((Below.refl _ w).alloc (Nat.le_refl _) _).alloc (by simp) _⟩
    simp [results, Tryz.results193, go_sem, andsR, R.val, *]
end Go.Proofs.YtifajfjiloajfaaGreatDoor.OwnEff
namespace Go.Proofs.YtifajfjiloajfaaGreatDoor.OwnEff
open Go.RowKit Go.Proofs.YtifajfjiloajfaaGreatDoor.Own

def shiftT : List (ByteArray × Value) := [(⟨#[65, 83, 76]⟩, .func (.func 197) #[] #[]), (⟨#[76, 83, 82]⟩, .func (.func 198) #[] #[]), (⟨#[82, 79, 76]⟩, .func (.func 199) #[] #[]), (⟨#[82, 79, 82]⟩, .func (.func 200) #[] #[])]
theorem info187 : (Tryz.prog.info? 187).map (fun i => (i.zero, i.size, i.bytes)) = some (some .nilFunc, 1, 8) := by kernel_rfl
set_option maxHeartbeats 3200000 in
set_option maxRecDepth 100000 in
theorem shift_any (n : ByteArray) (w : World) : Calls Tryz.prog 186 #[.string n] w fun e w' => e = .returned ((atName n.toList shiftT).getD .nilFunc) ∧ Below w.heap.size w w' := by
  obtain ⟨i0, hi, hz0, _, _⟩ := info_parts info187
  have hmm := @run_makeMap Tryz.prog 200 w
  have l0 := lay_run (P := Tryz.prog) (w := w) 200 _ _ ([] : List (ByteArray × Value)) (⟨#[65, 83, 76]⟩) (.func (.func 197) #[] #[]) Tryz.underlying200 Tryz.underlying9 (by simp [atName])
  replace l0 : (Instr.mapUpdate 200 (.map (some w.heap.size)) (.string ⟨#[65, 83, 76]⟩) (.func (.func 197) #[] #[])).run Tryz.prog (w.alloc (.map #[] 0)) = .ok () (w.alloc (.map (ents ([(⟨#[65, 83, 76]⟩, .func (.func 197) #[] #[])] : List (ByteArray × Value)) 0).toArray 1)) := l0
  have l1 := lay_run (P := Tryz.prog) (w := w) 200 _ _ ([(⟨#[65, 83, 76]⟩, .func (.func 197) #[] #[])] : List (ByteArray × Value)) (⟨#[76, 83, 82]⟩) (.func (.func 198) #[] #[]) Tryz.underlying200 Tryz.underlying9 (by simp [atName, Lib.toList_data])
  replace l1 : (Instr.mapUpdate 200 (.map (some w.heap.size)) (.string ⟨#[76, 83, 82]⟩) (.func (.func 198) #[] #[])).run Tryz.prog (w.alloc (.map (ents ([(⟨#[65, 83, 76]⟩, .func (.func 197) #[] #[])] : List (ByteArray × Value)) 0).toArray 1)) = .ok () (w.alloc (.map (ents ([(⟨#[65, 83, 76]⟩, .func (.func 197) #[] #[]), (⟨#[76, 83, 82]⟩, .func (.func 198) #[] #[])] : List (ByteArray × Value)) 0).toArray 2)) := l1
  have l2 := lay_run (P := Tryz.prog) (w := w) 200 _ _ ([(⟨#[65, 83, 76]⟩, .func (.func 197) #[] #[]), (⟨#[76, 83, 82]⟩, .func (.func 198) #[] #[])] : List (ByteArray × Value)) (⟨#[82, 79, 76]⟩) (.func (.func 199) #[] #[]) Tryz.underlying200 Tryz.underlying9 (by simp [atName, Lib.toList_data])
  replace l2 : (Instr.mapUpdate 200 (.map (some w.heap.size)) (.string ⟨#[82, 79, 76]⟩) (.func (.func 199) #[] #[])).run Tryz.prog (w.alloc (.map (ents ([(⟨#[65, 83, 76]⟩, .func (.func 197) #[] #[]), (⟨#[76, 83, 82]⟩, .func (.func 198) #[] #[])] : List (ByteArray × Value)) 0).toArray 2)) = .ok () (w.alloc (.map (ents ([(⟨#[65, 83, 76]⟩, .func (.func 197) #[] #[]), (⟨#[76, 83, 82]⟩, .func (.func 198) #[] #[]), (⟨#[82, 79, 76]⟩, .func (.func 199) #[] #[])] : List (ByteArray × Value)) 0).toArray 3)) := l2
  have l3 := lay_run (P := Tryz.prog) (w := w) 200 _ _ ([(⟨#[65, 83, 76]⟩, .func (.func 197) #[] #[]), (⟨#[76, 83, 82]⟩, .func (.func 198) #[] #[]), (⟨#[82, 79, 76]⟩, .func (.func 199) #[] #[])] : List (ByteArray × Value)) (⟨#[82, 79, 82]⟩) (.func (.func 200) #[] #[]) Tryz.underlying200 Tryz.underlying9 (by simp [atName, Lib.toList_data])
  replace l3 : (Instr.mapUpdate 200 (.map (some w.heap.size)) (.string ⟨#[82, 79, 82]⟩) (.func (.func 200) #[] #[])).run Tryz.prog (w.alloc (.map (ents ([(⟨#[65, 83, 76]⟩, .func (.func 197) #[] #[]), (⟨#[76, 83, 82]⟩, .func (.func 198) #[] #[]), (⟨#[82, 79, 76]⟩, .func (.func 199) #[] #[])] : List (ByteArray × Value)) 0).toArray 3)) = .ok () (w.alloc (.map (ents ([(⟨#[65, 83, 76]⟩, .func (.func 197) #[] #[]), (⟨#[76, 83, 82]⟩, .func (.func 198) #[] #[]), (⟨#[82, 79, 76]⟩, .func (.func 199) #[] #[]), (⟨#[82, 79, 82]⟩, .func (.func 200) #[] #[])] : List (ByteArray × Value)) 0).toArray 4)) := l3
  have hlk := (name_run (P := Tryz.prog) (w := w.alloc (.map (ents shiftT 0).toArray 4)) 200 _ _ shiftT 4 w.heap.size n i0 .nilFunc Tryz.underlying200 Tryz.underlying9 hi hz0 (heap_alloc_new w _)).1
  change _ = Result.ok () (w.alloc (.map (ents shiftT 0).toArray 4)) at l3
  generalize Obj.map (ents shiftT 0).toArray 4 = O4 at l3 hlk
  generalize (atName n.toList shiftT).getD .nilFunc = v at hlk ⊢
  go_enter Tryz.func186, Tryz.ntmps186
  go_wp2
  go_ret
  exact ⟨rfl, (Below.refl _ _).alloc (Nat.le_refl _) _⟩
def pushesV (n : List UInt8) (r : R) : Int :=
  if (n == [80, 72, 65]) = true then r.a else if (n == [80, 72, 80]) = true then Go.bits .or .u8 (Go.bits .or .u8 r.p 16) 32 else 0
set_option maxHeartbeats 3200000 in
theorem pushes_any (n : ByteArray) (r : R) (w : World) : Calls Tryz.prog 159 #[.string n, r.val] w fun e w' => e = .returned (.int .u8 (pushesV n.toList r)) ∧ Below w.heap.size w w' := by
  obtain ⟨ra, rx, ry, rs, rp, rpc⟩ := r
  simp only [R.val]
  go_enter Tryz.func159, Tryz.ntmps159
  go_wp2
  all_goals
    go_ret
    refine ⟨?_, (Below.refl _ _).alloc (Nat.le_refl _) _⟩
    simp [pushesV, *]
theorem of_list {n : ByteArray} {l : List UInt8} (h : (n.toList == l) = true) : n = ⟨l.toArray⟩ := by
  rw [Lib.toList_data] at h
  obtain ⟨x⟩ := n
  have h2 : x.toList = l := by simpa using h
  rw [← h2]
end Go.Proofs.YtifajfjiloajfaaGreatDoor.OwnEff
namespace Go.Proofs.YtifajfjiloajfaaGreatDoor.OwnEff
open Go.RowKit Go.Proofs.YtifajfjiloajfaaGreatDoor.Own

def writesT (r : R) (h : Int) : List (ByteArray × Int) := [(⟨#[83, 84, 65]⟩, r.a), (⟨#[83, 84, 88]⟩, r.x), (⟨#[83, 84, 89]⟩, r.y), (⟨#[83, 65, 88]⟩, Go.bits .and .u8 (r.a) (r.x)), (⟨#[83, 72, 65]⟩, Go.bits .and .u8 (Go.bits .and .u8 (r.a) (r.x)) ((h + 1) % 256)), (⟨#[83, 72, 88]⟩, Go.bits .and .u8 (r.x) ((h + 1) % 256)), (⟨#[83, 72, 89]⟩, Go.bits .and .u8 (r.y) ((h + 1) % 256))]
def writesR (n : List UInt8) (r : R) : R := if (n == [84, 65, 83]) = true then { r with s := Go.bits .and .u8 r.a r.x } else r
def writesV (n : List UInt8) (r : R) (h : Int) : Int := if (n == [84, 65, 83]) = true then Go.bits .and .u8 (Go.bits .and .u8 r.a r.x) ((h + 1) % 256) else (atName n (writesT r h)).getD 0
theorem atName_map (n : List UInt8) : ∀ kvs : List (ByteArray × Int), (atName n (kvs.map (fun kv => (kv.1, Value.int .u8 kv.2)))).getD (.int .u8 0) = .int .u8 ((atName n kvs).getD 0)
  | [] => rfl
  | (k, v) :: r => by
    simp only [List.map_cons, atName]
    split
    · rfl
    · exact atName_map n r
theorem info5' : (Tryz.prog.info? 5).map (fun i => (i.zero, i.size, i.bytes)) = some (some (.int .u8 0), 1, 1) := by kernel_rfl
set_option maxHeartbeats 6400000 in
set_option maxRecDepth 100000 in
theorem writes_any (n : ByteArray) (r : R) (h : Int) (w : World) : Calls Tryz.prog 169 #[.string n, r.val, .int .u8 h] w fun e w' => e = .returned (.tuple #[(writesR n.toList r).val, .int .u8 (writesV n.toList r h)]) ∧ Below w.heap.size w w' := by
  obtain ⟨i0, hi, hz0, _, _⟩ := info_parts info5'
  obtain ⟨ra, rx, ry, rs, rp, rpc⟩ := r
  have hmm := @run_makeMap Tryz.prog 186 ((w.alloc (.cells #[.int .u8 ra, .int .u8 rx, .int .u8 ry, .int .u8 rs, .int .u8 rp, .int .u16 rpc] 57)).alloc (.cells #[.int .u8 0, .int .u8 0, .int .u8 0, .int .u8 0, .int .u8 0, .int .u16 0] 57))
  have l0 := lay_run (P := Tryz.prog) (w := ((w.alloc (.cells #[.int .u8 ra, .int .u8 rx, .int .u8 ry, .int .u8 rs, .int .u8 rp, .int .u16 rpc] 57)).alloc (.cells #[.int .u8 0, .int .u8 0, .int .u8 0, .int .u8 0, .int .u8 0, .int .u16 0] 57))) 186 _ _ ([] : List (ByteArray × Value)) (⟨#[83, 84, 65]⟩) (.int .u8 (ra)) Tryz.underlying186 Tryz.underlying9 (by simp [atName])
  replace l0 : (Instr.mapUpdate 186 (.map (some ((w.alloc (.cells #[.int .u8 ra, .int .u8 rx, .int .u8 ry, .int .u8 rs, .int .u8 rp, .int .u16 rpc] 57)).alloc (.cells #[.int .u8 0, .int .u8 0, .int .u8 0, .int .u8 0, .int .u8 0, .int .u16 0] 57)).heap.size)) (.string ⟨#[83, 84, 65]⟩) (.int .u8 (ra))).run Tryz.prog (((w.alloc (.cells #[.int .u8 ra, .int .u8 rx, .int .u8 ry, .int .u8 rs, .int .u8 rp, .int .u16 rpc] 57)).alloc (.cells #[.int .u8 0, .int .u8 0, .int .u8 0, .int .u8 0, .int .u8 0, .int .u16 0] 57)).alloc (.map #[] 0)) = .ok () (((w.alloc (.cells #[.int .u8 ra, .int .u8 rx, .int .u8 ry, .int .u8 rs, .int .u8 rp, .int .u16 rpc] 57)).alloc (.cells #[.int .u8 0, .int .u8 0, .int .u8 0, .int .u8 0, .int .u8 0, .int .u16 0] 57)).alloc (.map (ents ([(⟨#[83, 84, 65]⟩, .int .u8 (ra))] : List (ByteArray × Value)) 0).toArray 1)) := l0
  have l1 := lay_run (P := Tryz.prog) (w := ((w.alloc (.cells #[.int .u8 ra, .int .u8 rx, .int .u8 ry, .int .u8 rs, .int .u8 rp, .int .u16 rpc] 57)).alloc (.cells #[.int .u8 0, .int .u8 0, .int .u8 0, .int .u8 0, .int .u8 0, .int .u16 0] 57))) 186 _ _ ([(⟨#[83, 84, 65]⟩, .int .u8 (ra))] : List (ByteArray × Value)) (⟨#[83, 84, 88]⟩) (.int .u8 (rx)) Tryz.underlying186 Tryz.underlying9 (by simp [atName, Lib.toList_data])
  replace l1 : (Instr.mapUpdate 186 (.map (some ((w.alloc (.cells #[.int .u8 ra, .int .u8 rx, .int .u8 ry, .int .u8 rs, .int .u8 rp, .int .u16 rpc] 57)).alloc (.cells #[.int .u8 0, .int .u8 0, .int .u8 0, .int .u8 0, .int .u8 0, .int .u16 0] 57)).heap.size)) (.string ⟨#[83, 84, 88]⟩) (.int .u8 (rx))).run Tryz.prog (((w.alloc (.cells #[.int .u8 ra, .int .u8 rx, .int .u8 ry, .int .u8 rs, .int .u8 rp, .int .u16 rpc] 57)).alloc (.cells #[.int .u8 0, .int .u8 0, .int .u8 0, .int .u8 0, .int .u8 0, .int .u16 0] 57)).alloc (.map (ents ([(⟨#[83, 84, 65]⟩, .int .u8 (ra))] : List (ByteArray × Value)) 0).toArray 1)) = .ok () (((w.alloc (.cells #[.int .u8 ra, .int .u8 rx, .int .u8 ry, .int .u8 rs, .int .u8 rp, .int .u16 rpc] 57)).alloc (.cells #[.int .u8 0, .int .u8 0, .int .u8 0, .int .u8 0, .int .u8 0, .int .u16 0] 57)).alloc (.map (ents ([(⟨#[83, 84, 65]⟩, .int .u8 (ra)), (⟨#[83, 84, 88]⟩, .int .u8 (rx))] : List (ByteArray × Value)) 0).toArray 2)) := l1
  have l2 := lay_run (P := Tryz.prog) (w := ((w.alloc (.cells #[.int .u8 ra, .int .u8 rx, .int .u8 ry, .int .u8 rs, .int .u8 rp, .int .u16 rpc] 57)).alloc (.cells #[.int .u8 0, .int .u8 0, .int .u8 0, .int .u8 0, .int .u8 0, .int .u16 0] 57))) 186 _ _ ([(⟨#[83, 84, 65]⟩, .int .u8 (ra)), (⟨#[83, 84, 88]⟩, .int .u8 (rx))] : List (ByteArray × Value)) (⟨#[83, 84, 89]⟩) (.int .u8 (ry)) Tryz.underlying186 Tryz.underlying9 (by simp [atName, Lib.toList_data])
  replace l2 : (Instr.mapUpdate 186 (.map (some ((w.alloc (.cells #[.int .u8 ra, .int .u8 rx, .int .u8 ry, .int .u8 rs, .int .u8 rp, .int .u16 rpc] 57)).alloc (.cells #[.int .u8 0, .int .u8 0, .int .u8 0, .int .u8 0, .int .u8 0, .int .u16 0] 57)).heap.size)) (.string ⟨#[83, 84, 89]⟩) (.int .u8 (ry))).run Tryz.prog (((w.alloc (.cells #[.int .u8 ra, .int .u8 rx, .int .u8 ry, .int .u8 rs, .int .u8 rp, .int .u16 rpc] 57)).alloc (.cells #[.int .u8 0, .int .u8 0, .int .u8 0, .int .u8 0, .int .u8 0, .int .u16 0] 57)).alloc (.map (ents ([(⟨#[83, 84, 65]⟩, .int .u8 (ra)), (⟨#[83, 84, 88]⟩, .int .u8 (rx))] : List (ByteArray × Value)) 0).toArray 2)) = .ok () (((w.alloc (.cells #[.int .u8 ra, .int .u8 rx, .int .u8 ry, .int .u8 rs, .int .u8 rp, .int .u16 rpc] 57)).alloc (.cells #[.int .u8 0, .int .u8 0, .int .u8 0, .int .u8 0, .int .u8 0, .int .u16 0] 57)).alloc (.map (ents ([(⟨#[83, 84, 65]⟩, .int .u8 (ra)), (⟨#[83, 84, 88]⟩, .int .u8 (rx)), (⟨#[83, 84, 89]⟩, .int .u8 (ry))] : List (ByteArray × Value)) 0).toArray 3)) := l2
  have l3 := lay_run (P := Tryz.prog) (w := ((w.alloc (.cells #[.int .u8 ra, .int .u8 rx, .int .u8 ry, .int .u8 rs, .int .u8 rp, .int .u16 rpc] 57)).alloc (.cells #[.int .u8 0, .int .u8 0, .int .u8 0, .int .u8 0, .int .u8 0, .int .u16 0] 57))) 186 _ _ ([(⟨#[83, 84, 65]⟩, .int .u8 (ra)), (⟨#[83, 84, 88]⟩, .int .u8 (rx)), (⟨#[83, 84, 89]⟩, .int .u8 (ry))] : List (ByteArray × Value)) (⟨#[83, 65, 88]⟩) (.int .u8 (Go.bits .and .u8 (ra) (rx))) Tryz.underlying186 Tryz.underlying9 (by simp [atName, Lib.toList_data])
  replace l3 : (Instr.mapUpdate 186 (.map (some ((w.alloc (.cells #[.int .u8 ra, .int .u8 rx, .int .u8 ry, .int .u8 rs, .int .u8 rp, .int .u16 rpc] 57)).alloc (.cells #[.int .u8 0, .int .u8 0, .int .u8 0, .int .u8 0, .int .u8 0, .int .u16 0] 57)).heap.size)) (.string ⟨#[83, 65, 88]⟩) (.int .u8 (Go.bits .and .u8 (ra) (rx)))).run Tryz.prog (((w.alloc (.cells #[.int .u8 ra, .int .u8 rx, .int .u8 ry, .int .u8 rs, .int .u8 rp, .int .u16 rpc] 57)).alloc (.cells #[.int .u8 0, .int .u8 0, .int .u8 0, .int .u8 0, .int .u8 0, .int .u16 0] 57)).alloc (.map (ents ([(⟨#[83, 84, 65]⟩, .int .u8 (ra)), (⟨#[83, 84, 88]⟩, .int .u8 (rx)), (⟨#[83, 84, 89]⟩, .int .u8 (ry))] : List (ByteArray × Value)) 0).toArray 3)) = .ok () (((w.alloc (.cells #[.int .u8 ra, .int .u8 rx, .int .u8 ry, .int .u8 rs, .int .u8 rp, .int .u16 rpc] 57)).alloc (.cells #[.int .u8 0, .int .u8 0, .int .u8 0, .int .u8 0, .int .u8 0, .int .u16 0] 57)).alloc (.map (ents ([(⟨#[83, 84, 65]⟩, .int .u8 (ra)), (⟨#[83, 84, 88]⟩, .int .u8 (rx)), (⟨#[83, 84, 89]⟩, .int .u8 (ry)), (⟨#[83, 65, 88]⟩, .int .u8 (Go.bits .and .u8 (ra) (rx)))] : List (ByteArray × Value)) 0).toArray 4)) := l3
  have l4 := lay_run (P := Tryz.prog) (w := ((w.alloc (.cells #[.int .u8 ra, .int .u8 rx, .int .u8 ry, .int .u8 rs, .int .u8 rp, .int .u16 rpc] 57)).alloc (.cells #[.int .u8 0, .int .u8 0, .int .u8 0, .int .u8 0, .int .u8 0, .int .u16 0] 57))) 186 _ _ ([(⟨#[83, 84, 65]⟩, .int .u8 (ra)), (⟨#[83, 84, 88]⟩, .int .u8 (rx)), (⟨#[83, 84, 89]⟩, .int .u8 (ry)), (⟨#[83, 65, 88]⟩, .int .u8 (Go.bits .and .u8 (ra) (rx)))] : List (ByteArray × Value)) (⟨#[83, 72, 65]⟩) (.int .u8 (Go.bits .and .u8 (Go.bits .and .u8 (ra) (rx)) ((h + 1) % 256))) Tryz.underlying186 Tryz.underlying9 (by simp [atName, Lib.toList_data])
  replace l4 : (Instr.mapUpdate 186 (.map (some ((w.alloc (.cells #[.int .u8 ra, .int .u8 rx, .int .u8 ry, .int .u8 rs, .int .u8 rp, .int .u16 rpc] 57)).alloc (.cells #[.int .u8 0, .int .u8 0, .int .u8 0, .int .u8 0, .int .u8 0, .int .u16 0] 57)).heap.size)) (.string ⟨#[83, 72, 65]⟩) (.int .u8 (Go.bits .and .u8 (Go.bits .and .u8 (ra) (rx)) ((h + 1) % 256)))).run Tryz.prog (((w.alloc (.cells #[.int .u8 ra, .int .u8 rx, .int .u8 ry, .int .u8 rs, .int .u8 rp, .int .u16 rpc] 57)).alloc (.cells #[.int .u8 0, .int .u8 0, .int .u8 0, .int .u8 0, .int .u8 0, .int .u16 0] 57)).alloc (.map (ents ([(⟨#[83, 84, 65]⟩, .int .u8 (ra)), (⟨#[83, 84, 88]⟩, .int .u8 (rx)), (⟨#[83, 84, 89]⟩, .int .u8 (ry)), (⟨#[83, 65, 88]⟩, .int .u8 (Go.bits .and .u8 (ra) (rx)))] : List (ByteArray × Value)) 0).toArray 4)) = .ok () (((w.alloc (.cells #[.int .u8 ra, .int .u8 rx, .int .u8 ry, .int .u8 rs, .int .u8 rp, .int .u16 rpc] 57)).alloc (.cells #[.int .u8 0, .int .u8 0, .int .u8 0, .int .u8 0, .int .u8 0, .int .u16 0] 57)).alloc (.map (ents ([(⟨#[83, 84, 65]⟩, .int .u8 (ra)), (⟨#[83, 84, 88]⟩, .int .u8 (rx)), (⟨#[83, 84, 89]⟩, .int .u8 (ry)), (⟨#[83, 65, 88]⟩, .int .u8 (Go.bits .and .u8 (ra) (rx))), (⟨#[83, 72, 65]⟩, .int .u8 (Go.bits .and .u8 (Go.bits .and .u8 (ra) (rx)) ((h + 1) % 256)))] : List (ByteArray × Value)) 0).toArray 5)) := l4
  have l5 := lay_run (P := Tryz.prog) (w := ((w.alloc (.cells #[.int .u8 ra, .int .u8 rx, .int .u8 ry, .int .u8 rs, .int .u8 rp, .int .u16 rpc] 57)).alloc (.cells #[.int .u8 0, .int .u8 0, .int .u8 0, .int .u8 0, .int .u8 0, .int .u16 0] 57))) 186 _ _ ([(⟨#[83, 84, 65]⟩, .int .u8 (ra)), (⟨#[83, 84, 88]⟩, .int .u8 (rx)), (⟨#[83, 84, 89]⟩, .int .u8 (ry)), (⟨#[83, 65, 88]⟩, .int .u8 (Go.bits .and .u8 (ra) (rx))), (⟨#[83, 72, 65]⟩, .int .u8 (Go.bits .and .u8 (Go.bits .and .u8 (ra) (rx)) ((h + 1) % 256)))] : List (ByteArray × Value)) (⟨#[83, 72, 88]⟩) (.int .u8 (Go.bits .and .u8 (rx) ((h + 1) % 256))) Tryz.underlying186 Tryz.underlying9 (by simp [atName, Lib.toList_data])
  replace l5 : (Instr.mapUpdate 186 (.map (some ((w.alloc (.cells #[.int .u8 ra, .int .u8 rx, .int .u8 ry, .int .u8 rs, .int .u8 rp, .int .u16 rpc] 57)).alloc (.cells #[.int .u8 0, .int .u8 0, .int .u8 0, .int .u8 0, .int .u8 0, .int .u16 0] 57)).heap.size)) (.string ⟨#[83, 72, 88]⟩) (.int .u8 (Go.bits .and .u8 (rx) ((h + 1) % 256)))).run Tryz.prog (((w.alloc (.cells #[.int .u8 ra, .int .u8 rx, .int .u8 ry, .int .u8 rs, .int .u8 rp, .int .u16 rpc] 57)).alloc (.cells #[.int .u8 0, .int .u8 0, .int .u8 0, .int .u8 0, .int .u8 0, .int .u16 0] 57)).alloc (.map (ents ([(⟨#[83, 84, 65]⟩, .int .u8 (ra)), (⟨#[83, 84, 88]⟩, .int .u8 (rx)), (⟨#[83, 84, 89]⟩, .int .u8 (ry)), (⟨#[83, 65, 88]⟩, .int .u8 (Go.bits .and .u8 (ra) (rx))), (⟨#[83, 72, 65]⟩, .int .u8 (Go.bits .and .u8 (Go.bits .and .u8 (ra) (rx)) ((h + 1) % 256)))] : List (ByteArray × Value)) 0).toArray 5)) = .ok () (((w.alloc (.cells #[.int .u8 ra, .int .u8 rx, .int .u8 ry, .int .u8 rs, .int .u8 rp, .int .u16 rpc] 57)).alloc (.cells #[.int .u8 0, .int .u8 0, .int .u8 0, .int .u8 0, .int .u8 0, .int .u16 0] 57)).alloc (.map (ents ([(⟨#[83, 84, 65]⟩, .int .u8 (ra)), (⟨#[83, 84, 88]⟩, .int .u8 (rx)), (⟨#[83, 84, 89]⟩, .int .u8 (ry)), (⟨#[83, 65, 88]⟩, .int .u8 (Go.bits .and .u8 (ra) (rx))), (⟨#[83, 72, 65]⟩, .int .u8 (Go.bits .and .u8 (Go.bits .and .u8 (ra) (rx)) ((h + 1) % 256))), (⟨#[83, 72, 88]⟩, .int .u8 (Go.bits .and .u8 (rx) ((h + 1) % 256)))] : List (ByteArray × Value)) 0).toArray 6)) := l5
  have l6 := lay_run (P := Tryz.prog) (w := ((w.alloc (.cells #[.int .u8 ra, .int .u8 rx, .int .u8 ry, .int .u8 rs, .int .u8 rp, .int .u16 rpc] 57)).alloc (.cells #[.int .u8 0, .int .u8 0, .int .u8 0, .int .u8 0, .int .u8 0, .int .u16 0] 57))) 186 _ _ ([(⟨#[83, 84, 65]⟩, .int .u8 (ra)), (⟨#[83, 84, 88]⟩, .int .u8 (rx)), (⟨#[83, 84, 89]⟩, .int .u8 (ry)), (⟨#[83, 65, 88]⟩, .int .u8 (Go.bits .and .u8 (ra) (rx))), (⟨#[83, 72, 65]⟩, .int .u8 (Go.bits .and .u8 (Go.bits .and .u8 (ra) (rx)) ((h + 1) % 256))), (⟨#[83, 72, 88]⟩, .int .u8 (Go.bits .and .u8 (rx) ((h + 1) % 256)))] : List (ByteArray × Value)) (⟨#[83, 72, 89]⟩) (.int .u8 (Go.bits .and .u8 (ry) ((h + 1) % 256))) Tryz.underlying186 Tryz.underlying9 (by simp [atName, Lib.toList_data])
  replace l6 : (Instr.mapUpdate 186 (.map (some ((w.alloc (.cells #[.int .u8 ra, .int .u8 rx, .int .u8 ry, .int .u8 rs, .int .u8 rp, .int .u16 rpc] 57)).alloc (.cells #[.int .u8 0, .int .u8 0, .int .u8 0, .int .u8 0, .int .u8 0, .int .u16 0] 57)).heap.size)) (.string ⟨#[83, 72, 89]⟩) (.int .u8 (Go.bits .and .u8 (ry) ((h + 1) % 256)))).run Tryz.prog (((w.alloc (.cells #[.int .u8 ra, .int .u8 rx, .int .u8 ry, .int .u8 rs, .int .u8 rp, .int .u16 rpc] 57)).alloc (.cells #[.int .u8 0, .int .u8 0, .int .u8 0, .int .u8 0, .int .u8 0, .int .u16 0] 57)).alloc (.map (ents ([(⟨#[83, 84, 65]⟩, .int .u8 (ra)), (⟨#[83, 84, 88]⟩, .int .u8 (rx)), (⟨#[83, 84, 89]⟩, .int .u8 (ry)), (⟨#[83, 65, 88]⟩, .int .u8 (Go.bits .and .u8 (ra) (rx))), (⟨#[83, 72, 65]⟩, .int .u8 (Go.bits .and .u8 (Go.bits .and .u8 (ra) (rx)) ((h + 1) % 256))), (⟨#[83, 72, 88]⟩, .int .u8 (Go.bits .and .u8 (rx) ((h + 1) % 256)))] : List (ByteArray × Value)) 0).toArray 6)) = .ok () (((w.alloc (.cells #[.int .u8 ra, .int .u8 rx, .int .u8 ry, .int .u8 rs, .int .u8 rp, .int .u16 rpc] 57)).alloc (.cells #[.int .u8 0, .int .u8 0, .int .u8 0, .int .u8 0, .int .u8 0, .int .u16 0] 57)).alloc (.map (ents ([(⟨#[83, 84, 65]⟩, .int .u8 (ra)), (⟨#[83, 84, 88]⟩, .int .u8 (rx)), (⟨#[83, 84, 89]⟩, .int .u8 (ry)), (⟨#[83, 65, 88]⟩, .int .u8 (Go.bits .and .u8 (ra) (rx))), (⟨#[83, 72, 65]⟩, .int .u8 (Go.bits .and .u8 (Go.bits .and .u8 (ra) (rx)) ((h + 1) % 256))), (⟨#[83, 72, 88]⟩, .int .u8 (Go.bits .and .u8 (rx) ((h + 1) % 256))), (⟨#[83, 72, 89]⟩, .int .u8 (Go.bits .and .u8 (ry) ((h + 1) % 256)))] : List (ByteArray × Value)) 0).toArray 7)) := l6
  have hmap := atName_map n.toList (writesT { a := ra, x := rx, y := ry, s := rs, p := rp, pc := rpc } h)
  have hlk : ∀ cs, (Instr.lookup 186 (.map (some ((w.alloc (.cells #[.int .u8 ra, .int .u8 rx, .int .u8 ry, .int .u8 rs, .int .u8 rp, .int .u16 rpc] 57)).alloc (.cells #[.int .u8 0, .int .u8 0, .int .u8 0, .int .u8 0, .int .u8 0, .int .u16 0] 57)).heap.size)) (.string n) false).run Tryz.prog ((((w.alloc (.cells #[.int .u8 ra, .int .u8 rx, .int .u8 ry, .int .u8 rs, .int .u8 rp, .int .u16 rpc] 57)).alloc (.cells cs 57)).alloc (.map (ents ([(⟨#[83, 84, 65]⟩, .int .u8 (ra)), (⟨#[83, 84, 88]⟩, .int .u8 (rx)), (⟨#[83, 84, 89]⟩, .int .u8 (ry)), (⟨#[83, 65, 88]⟩, .int .u8 (Go.bits .and .u8 (ra) (rx))), (⟨#[83, 72, 65]⟩, .int .u8 (Go.bits .and .u8 (Go.bits .and .u8 (ra) (rx)) ((h + 1) % 256))), (⟨#[83, 72, 88]⟩, .int .u8 (Go.bits .and .u8 (rx) ((h + 1) % 256))), (⟨#[83, 72, 89]⟩, .int .u8 (Go.bits .and .u8 (ry) ((h + 1) % 256)))] : List (ByteArray × Value)) 0).toArray 7)).drew) = .ok (.int .u8 ((atName n.toList (writesT { a := ra, x := rx, y := ry, s := rs, p := rp, pc := rpc } h)).getD 0)) ((((w.alloc (.cells #[.int .u8 ra, .int .u8 rx, .int .u8 ry, .int .u8 rs, .int .u8 rp, .int .u16 rpc] 57)).alloc (.cells cs 57)).alloc (.map (ents ([(⟨#[83, 84, 65]⟩, .int .u8 (ra)), (⟨#[83, 84, 88]⟩, .int .u8 (rx)), (⟨#[83, 84, 89]⟩, .int .u8 (ry)), (⟨#[83, 65, 88]⟩, .int .u8 (Go.bits .and .u8 (ra) (rx))), (⟨#[83, 72, 65]⟩, .int .u8 (Go.bits .and .u8 (Go.bits .and .u8 (ra) (rx)) ((h + 1) % 256))), (⟨#[83, 72, 88]⟩, .int .u8 (Go.bits .and .u8 (rx) ((h + 1) % 256))), (⟨#[83, 72, 89]⟩, .int .u8 (Go.bits .and .u8 (ry) ((h + 1) % 256)))] : List (ByteArray × Value)) 0).toArray 7)).drew) := fun cs =>
    (name_run (P := Tryz.prog) (w := (((w.alloc (.cells #[.int .u8 ra, .int .u8 rx, .int .u8 ry, .int .u8 rs, .int .u8 rp, .int .u16 rpc] 57)).alloc (.cells cs 57)).alloc (.map (ents ([(⟨#[83, 84, 65]⟩, .int .u8 (ra)), (⟨#[83, 84, 88]⟩, .int .u8 (rx)), (⟨#[83, 84, 89]⟩, .int .u8 (ry)), (⟨#[83, 65, 88]⟩, .int .u8 (Go.bits .and .u8 (ra) (rx))), (⟨#[83, 72, 65]⟩, .int .u8 (Go.bits .and .u8 (Go.bits .and .u8 (ra) (rx)) ((h + 1) % 256))), (⟨#[83, 72, 88]⟩, .int .u8 (Go.bits .and .u8 (rx) ((h + 1) % 256))), (⟨#[83, 72, 89]⟩, .int .u8 (Go.bits .and .u8 (ry) ((h + 1) % 256)))] : List (ByteArray × Value)) 0).toArray 7)).drew) 186 _ _ ([(⟨#[83, 84, 65]⟩, .int .u8 (ra)), (⟨#[83, 84, 88]⟩, .int .u8 (rx)), (⟨#[83, 84, 89]⟩, .int .u8 (ry)), (⟨#[83, 65, 88]⟩, .int .u8 (Go.bits .and .u8 (ra) (rx))), (⟨#[83, 72, 65]⟩, .int .u8 (Go.bits .and .u8 (Go.bits .and .u8 (ra) (rx)) ((h + 1) % 256))), (⟨#[83, 72, 88]⟩, .int .u8 (Go.bits .and .u8 (rx) ((h + 1) % 256))), (⟨#[83, 72, 89]⟩, .int .u8 (Go.bits .and .u8 (ry) ((h + 1) % 256)))] : List (ByteArray × Value)) 7 ((w.alloc (.cells #[.int .u8 ra, .int .u8 rx, .int .u8 ry, .int .u8 rs, .int .u8 rp, .int .u16 rpc] 57)).alloc (.cells #[.int .u8 0, .int .u8 0, .int .u8 0, .int .u8 0, .int .u8 0, .int .u16 0] 57)).heap.size n i0 (.int .u8 0) Tryz.underlying186 Tryz.underlying9 hi hz0 (by have h9 := heap_alloc_new ((w.alloc (.cells #[.int .u8 ra, .int .u8 rx, .int .u8 ry, .int .u8 rs, .int .u8 rp, .int .u16 rpc] 57)).alloc (.cells cs 57)) (.map (ents ([(⟨#[83, 84, 65]⟩, .int .u8 (ra)), (⟨#[83, 84, 88]⟩, .int .u8 (rx)), (⟨#[83, 84, 89]⟩, .int .u8 (ry)), (⟨#[83, 65, 88]⟩, .int .u8 (Go.bits .and .u8 (ra) (rx))), (⟨#[83, 72, 65]⟩, .int .u8 (Go.bits .and .u8 (Go.bits .and .u8 (ra) (rx)) ((h + 1) % 256))), (⟨#[83, 72, 88]⟩, .int .u8 (Go.bits .and .u8 (rx) ((h + 1) % 256))), (⟨#[83, 72, 89]⟩, .int .u8 (Go.bits .and .u8 (ry) ((h + 1) % 256)))] : List (ByteArray × Value)) 0).toArray 7); simp only [World.size_alloc] at h9 ⊢; exact h9)).1.trans (by rw [← hmap]; rfl)
  clear hmap
  generalize Obj.map (ents ([(⟨#[83, 84, 65]⟩, .int .u8 (ra)), (⟨#[83, 84, 88]⟩, .int .u8 (rx)), (⟨#[83, 84, 89]⟩, .int .u8 (ry)), (⟨#[83, 65, 88]⟩, .int .u8 (Go.bits .and .u8 (ra) (rx))), (⟨#[83, 72, 65]⟩, .int .u8 (Go.bits .and .u8 (Go.bits .and .u8 (ra) (rx)) ((h + 1) % 256))), (⟨#[83, 72, 88]⟩, .int .u8 (Go.bits .and .u8 (rx) ((h + 1) % 256))), (⟨#[83, 72, 89]⟩, .int .u8 (Go.bits .and .u8 (ry) ((h + 1) % 256)))] : List (ByteArray × Value)) 0).toArray 7 = O7 at l6 hlk
  simp only [World.size_alloc] at hmm l0 l1 l2 l3 l4 l5 l6 hlk
  simp only [R.val]
  go_enter Tryz.func169, Tryz.ntmps169
  by_cases ht : (n.toList == [84, 65, 83]) = true
  · go_wp2
    refine bodyPost_ret (v := .tuple #[(writesR n.toList { a := ra, x := rx, y := ry, s := rs, p := rp, pc := rpc }).val, .int .u8 (writesV n.toList { a := ra, x := rx, y := ry, s := rs, p := rp, pc := rpc } h)]) ?_ rfl ⟨rfl, ((Below.refl _ w).alloc (Nat.le_refl _) _).alloc (by simp) _⟩
    simp [results, Tryz.results169, go_sem, writesR, writesV, R.val, ht]
  · have ht : (n.toList == [84, 65, 83]) = false := by simpa using ht
    go_wp2
    go_region
    all_goals
      go_wp2
      refine bodyPost_ret (v := .tuple #[(writesR n.toList { a := ra, x := rx, y := ry, s := rs, p := rp, pc := rpc }).val, .int .u8 (writesV n.toList { a := ra, x := rx, y := ry, s := rs, p := rp, pc := rpc } h)]) ?_ rfl ⟨rfl, ((((Below.refl _ w).alloc (Nat.le_refl _) _).alloc (by simp) _).alloc (by simp; omega) _).drew⟩
      simp [results, Tryz.results169, go_sem, writesR, writesV, R.val, ht]
end Go.Proofs.YtifajfjiloajfaaGreatDoor.OwnEff
namespace Go.Proofs.YtifajfjiloajfaaGreatDoor.OwnEff
open Go.RowKit Go.Proofs.YtifajfjiloajfaaGreatDoor.Own

def offT : List (ByteArray × Int) := [(⟨#[66, 80, 76]⟩, 128), (⟨#[66, 86, 67]⟩, 64), (⟨#[66, 67, 67]⟩, 1), (⟨#[66, 78, 69]⟩, 2)]
def onT : List (ByteArray × Int) := [(⟨#[66, 77, 73]⟩, 128), (⟨#[66, 86, 83]⟩, 64), (⟨#[66, 67, 83]⟩, 1), (⟨#[66, 69, 81]⟩, 2)]
def takenB (n : List UInt8) (p : Int) : Bool :=
  if (atName n offT).isSome = true then Go.bits .and .u8 p ((atName n offT).getD 0) == 0 else Go.bits .and .u8 p ((atName n onT).getD 0) != 0
theorem atName_some (n : List UInt8) : ∀ kvs : List (ByteArray × Int), (atName n (kvs.map (fun kv => (kv.1, Value.int .u8 kv.2)))).isSome = (atName n kvs).isSome
  | [] => rfl
  | (k, v) :: r => by
    simp only [List.map_cons, atName]
    split
    · rfl
    · exact atName_some n r
set_option maxHeartbeats 6400000 in
set_option maxRecDepth 100000 in
theorem taken_any (n : ByteArray) (p : Int) (w : World) : Calls Tryz.prog 166 #[.string n, .int .u8 p] w fun e w' => e = .returned (.bool (takenB n.toList p)) ∧ Below w.heap.size w w' := by
  obtain ⟨i0, hi, hz0, _, _⟩ := info_parts info5'
  have hmm := @run_makeMap Tryz.prog 186 w
  have l0 := lay_run (P := Tryz.prog) (w := w) 186 _ _ ([] : List (ByteArray × Value)) (⟨#[66, 80, 76]⟩) (.int .u8 128) Tryz.underlying186 Tryz.underlying9 (by simp [atName])
  replace l0 : (Instr.mapUpdate 186 (.map (some w.heap.size)) (.string ⟨#[66, 80, 76]⟩) (.int .u8 128)).run Tryz.prog (w.alloc (.map #[] 0)) = .ok () (w.alloc (.map (ents ([(⟨#[66, 80, 76]⟩, .int .u8 128)] : List (ByteArray × Value)) 0).toArray 1)) := l0
  have l1 := lay_run (P := Tryz.prog) (w := w) 186 _ _ ([(⟨#[66, 80, 76]⟩, .int .u8 128)] : List (ByteArray × Value)) (⟨#[66, 86, 67]⟩) (.int .u8 64) Tryz.underlying186 Tryz.underlying9 (by simp [atName, Lib.toList_data])
  replace l1 : (Instr.mapUpdate 186 (.map (some w.heap.size)) (.string ⟨#[66, 86, 67]⟩) (.int .u8 64)).run Tryz.prog (w.alloc (.map (ents ([(⟨#[66, 80, 76]⟩, .int .u8 128)] : List (ByteArray × Value)) 0).toArray 1)) = .ok () (w.alloc (.map (ents ([(⟨#[66, 80, 76]⟩, .int .u8 128), (⟨#[66, 86, 67]⟩, .int .u8 64)] : List (ByteArray × Value)) 0).toArray 2)) := l1
  have l2 := lay_run (P := Tryz.prog) (w := w) 186 _ _ ([(⟨#[66, 80, 76]⟩, .int .u8 128), (⟨#[66, 86, 67]⟩, .int .u8 64)] : List (ByteArray × Value)) (⟨#[66, 67, 67]⟩) (.int .u8 1) Tryz.underlying186 Tryz.underlying9 (by simp [atName, Lib.toList_data])
  replace l2 : (Instr.mapUpdate 186 (.map (some w.heap.size)) (.string ⟨#[66, 67, 67]⟩) (.int .u8 1)).run Tryz.prog (w.alloc (.map (ents ([(⟨#[66, 80, 76]⟩, .int .u8 128), (⟨#[66, 86, 67]⟩, .int .u8 64)] : List (ByteArray × Value)) 0).toArray 2)) = .ok () (w.alloc (.map (ents ([(⟨#[66, 80, 76]⟩, .int .u8 128), (⟨#[66, 86, 67]⟩, .int .u8 64), (⟨#[66, 67, 67]⟩, .int .u8 1)] : List (ByteArray × Value)) 0).toArray 3)) := l2
  have l3 := lay_run (P := Tryz.prog) (w := w) 186 _ _ ([(⟨#[66, 80, 76]⟩, .int .u8 128), (⟨#[66, 86, 67]⟩, .int .u8 64), (⟨#[66, 67, 67]⟩, .int .u8 1)] : List (ByteArray × Value)) (⟨#[66, 78, 69]⟩) (.int .u8 2) Tryz.underlying186 Tryz.underlying9 (by simp [atName, Lib.toList_data])
  replace l3 : (Instr.mapUpdate 186 (.map (some w.heap.size)) (.string ⟨#[66, 78, 69]⟩) (.int .u8 2)).run Tryz.prog (w.alloc (.map (ents ([(⟨#[66, 80, 76]⟩, .int .u8 128), (⟨#[66, 86, 67]⟩, .int .u8 64), (⟨#[66, 67, 67]⟩, .int .u8 1)] : List (ByteArray × Value)) 0).toArray 3)) = .ok () (w.alloc (.map (ents ([(⟨#[66, 80, 76]⟩, .int .u8 128), (⟨#[66, 86, 67]⟩, .int .u8 64), (⟨#[66, 67, 67]⟩, .int .u8 1), (⟨#[66, 78, 69]⟩, .int .u8 2)] : List (ByteArray × Value)) 0).toArray 4)) := l3
  have hA : ∀ OB, (Instr.lookup 186 (.map (some w.heap.size)) (.string n) true).run Tryz.prog ((w.alloc (.map (ents ([(⟨#[66, 80, 76]⟩, .int .u8 128), (⟨#[66, 86, 67]⟩, .int .u8 64), (⟨#[66, 67, 67]⟩, .int .u8 1), (⟨#[66, 78, 69]⟩, .int .u8 2)] : List (ByteArray × Value)) 0).toArray 4)).alloc OB) = .ok (.tuple #[.int .u8 ((atName n.toList offT).getD 0), .bool (atName n.toList offT).isSome]) ((w.alloc (.map (ents ([(⟨#[66, 80, 76]⟩, .int .u8 128), (⟨#[66, 86, 67]⟩, .int .u8 64), (⟨#[66, 67, 67]⟩, .int .u8 1), (⟨#[66, 78, 69]⟩, .int .u8 2)] : List (ByteArray × Value)) 0).toArray 4)).alloc OB) := fun OB =>
    (name_run (P := Tryz.prog) (w := (w.alloc (.map (ents ([(⟨#[66, 80, 76]⟩, .int .u8 128), (⟨#[66, 86, 67]⟩, .int .u8 64), (⟨#[66, 67, 67]⟩, .int .u8 1), (⟨#[66, 78, 69]⟩, .int .u8 2)] : List (ByteArray × Value)) 0).toArray 4)).alloc OB) 186 _ _ ([(⟨#[66, 80, 76]⟩, .int .u8 128), (⟨#[66, 86, 67]⟩, .int .u8 64), (⟨#[66, 67, 67]⟩, .int .u8 1), (⟨#[66, 78, 69]⟩, .int .u8 2)] : List (ByteArray × Value)) 4 w.heap.size n i0 (.int .u8 0) Tryz.underlying186 Tryz.underlying9 hi hz0 ((heap_alloc_old _ _ (by simp)).trans (heap_alloc_new w _))).2.trans (by rw [← atName_map, ← atName_some]; rfl)
  generalize Obj.map (ents ([(⟨#[66, 80, 76]⟩, .int .u8 128), (⟨#[66, 86, 67]⟩, .int .u8 64), (⟨#[66, 67, 67]⟩, .int .u8 1), (⟨#[66, 78, 69]⟩, .int .u8 2)] : List (ByteArray × Value)) 0).toArray 4 = OA at l3 hA
  have hmn := @run_makeMap Tryz.prog 186 (w.alloc OA)
  have k0 := lay_run (P := Tryz.prog) (w := (w.alloc OA)) 186 _ _ ([] : List (ByteArray × Value)) (⟨#[66, 77, 73]⟩) (.int .u8 128) Tryz.underlying186 Tryz.underlying9 (by simp [atName])
  replace k0 : (Instr.mapUpdate 186 (.map (some (w.alloc OA).heap.size)) (.string ⟨#[66, 77, 73]⟩) (.int .u8 128)).run Tryz.prog ((w.alloc OA).alloc (.map #[] 0)) = .ok () ((w.alloc OA).alloc (.map (ents ([(⟨#[66, 77, 73]⟩, .int .u8 128)] : List (ByteArray × Value)) 0).toArray 1)) := k0
  have k1 := lay_run (P := Tryz.prog) (w := (w.alloc OA)) 186 _ _ ([(⟨#[66, 77, 73]⟩, .int .u8 128)] : List (ByteArray × Value)) (⟨#[66, 86, 83]⟩) (.int .u8 64) Tryz.underlying186 Tryz.underlying9 (by simp [atName, Lib.toList_data])
  replace k1 : (Instr.mapUpdate 186 (.map (some (w.alloc OA).heap.size)) (.string ⟨#[66, 86, 83]⟩) (.int .u8 64)).run Tryz.prog ((w.alloc OA).alloc (.map (ents ([(⟨#[66, 77, 73]⟩, .int .u8 128)] : List (ByteArray × Value)) 0).toArray 1)) = .ok () ((w.alloc OA).alloc (.map (ents ([(⟨#[66, 77, 73]⟩, .int .u8 128), (⟨#[66, 86, 83]⟩, .int .u8 64)] : List (ByteArray × Value)) 0).toArray 2)) := k1
  have k2 := lay_run (P := Tryz.prog) (w := (w.alloc OA)) 186 _ _ ([(⟨#[66, 77, 73]⟩, .int .u8 128), (⟨#[66, 86, 83]⟩, .int .u8 64)] : List (ByteArray × Value)) (⟨#[66, 67, 83]⟩) (.int .u8 1) Tryz.underlying186 Tryz.underlying9 (by simp [atName, Lib.toList_data])
  replace k2 : (Instr.mapUpdate 186 (.map (some (w.alloc OA).heap.size)) (.string ⟨#[66, 67, 83]⟩) (.int .u8 1)).run Tryz.prog ((w.alloc OA).alloc (.map (ents ([(⟨#[66, 77, 73]⟩, .int .u8 128), (⟨#[66, 86, 83]⟩, .int .u8 64)] : List (ByteArray × Value)) 0).toArray 2)) = .ok () ((w.alloc OA).alloc (.map (ents ([(⟨#[66, 77, 73]⟩, .int .u8 128), (⟨#[66, 86, 83]⟩, .int .u8 64), (⟨#[66, 67, 83]⟩, .int .u8 1)] : List (ByteArray × Value)) 0).toArray 3)) := k2
  have k3 := lay_run (P := Tryz.prog) (w := (w.alloc OA)) 186 _ _ ([(⟨#[66, 77, 73]⟩, .int .u8 128), (⟨#[66, 86, 83]⟩, .int .u8 64), (⟨#[66, 67, 83]⟩, .int .u8 1)] : List (ByteArray × Value)) (⟨#[66, 69, 81]⟩) (.int .u8 2) Tryz.underlying186 Tryz.underlying9 (by simp [atName, Lib.toList_data])
  replace k3 : (Instr.mapUpdate 186 (.map (some (w.alloc OA).heap.size)) (.string ⟨#[66, 69, 81]⟩) (.int .u8 2)).run Tryz.prog ((w.alloc OA).alloc (.map (ents ([(⟨#[66, 77, 73]⟩, .int .u8 128), (⟨#[66, 86, 83]⟩, .int .u8 64), (⟨#[66, 67, 83]⟩, .int .u8 1)] : List (ByteArray × Value)) 0).toArray 3)) = .ok () ((w.alloc OA).alloc (.map (ents ([(⟨#[66, 77, 73]⟩, .int .u8 128), (⟨#[66, 86, 83]⟩, .int .u8 64), (⟨#[66, 67, 83]⟩, .int .u8 1), (⟨#[66, 69, 81]⟩, .int .u8 2)] : List (ByteArray × Value)) 0).toArray 4)) := k3
  have hB : (Instr.lookup 186 (.map (some (w.alloc OA).heap.size)) (.string n) false).run Tryz.prog ((w.alloc OA).alloc (.map (ents ([(⟨#[66, 77, 73]⟩, .int .u8 128), (⟨#[66, 86, 83]⟩, .int .u8 64), (⟨#[66, 67, 83]⟩, .int .u8 1), (⟨#[66, 69, 81]⟩, .int .u8 2)] : List (ByteArray × Value)) 0).toArray 4)) = .ok (.int .u8 ((atName n.toList onT).getD 0)) ((w.alloc OA).alloc (.map (ents ([(⟨#[66, 77, 73]⟩, .int .u8 128), (⟨#[66, 86, 83]⟩, .int .u8 64), (⟨#[66, 67, 83]⟩, .int .u8 1), (⟨#[66, 69, 81]⟩, .int .u8 2)] : List (ByteArray × Value)) 0).toArray 4)) :=
    (name_run (P := Tryz.prog) (w := (w.alloc OA).alloc (.map (ents ([(⟨#[66, 77, 73]⟩, .int .u8 128), (⟨#[66, 86, 83]⟩, .int .u8 64), (⟨#[66, 67, 83]⟩, .int .u8 1), (⟨#[66, 69, 81]⟩, .int .u8 2)] : List (ByteArray × Value)) 0).toArray 4)) 186 _ _ ([(⟨#[66, 77, 73]⟩, .int .u8 128), (⟨#[66, 86, 83]⟩, .int .u8 64), (⟨#[66, 67, 83]⟩, .int .u8 1), (⟨#[66, 69, 81]⟩, .int .u8 2)] : List (ByteArray × Value)) 4 (w.alloc OA).heap.size n i0 (.int .u8 0) Tryz.underlying186 Tryz.underlying9 hi hz0 (heap_alloc_new _ _)).1.trans (by rw [← atName_map]; rfl)
  generalize Obj.map (ents ([(⟨#[66, 77, 73]⟩, .int .u8 128), (⟨#[66, 86, 83]⟩, .int .u8 64), (⟨#[66, 67, 83]⟩, .int .u8 1), (⟨#[66, 69, 81]⟩, .int .u8 2)] : List (ByteArray × Value)) 0).toArray 4 = OB at k3 hB
  have hA' := hA OB
  clear hA
  simp only [World.size_alloc] at hmn k0 k1 k2 k3 hB
  cases hs : (atName n.toList offT).isSome
  · rw [hs] at hA'
    go_enter Tryz.func166, Tryz.ntmps166
    go_wp2
    go_ret
    refine ⟨?_, ((Below.refl _ w).alloc (Nat.le_refl _) _).alloc (by simp) _⟩
    simp [takenB, hs]
  · rw [hs] at hA'
    go_enter Tryz.func166, Tryz.ntmps166
    go_wp2
    go_ret
    refine ⟨?_, ((Below.refl _ w).alloc (Nat.le_refl _) _).alloc (by simp) _⟩
    simp [takenB, hs]
end Go.Proofs.YtifajfjiloajfaaGreatDoor.OwnEff

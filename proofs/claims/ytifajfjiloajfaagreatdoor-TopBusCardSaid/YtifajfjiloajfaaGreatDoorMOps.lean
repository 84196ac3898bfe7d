/- Contracts of the opcodes' functions: a name, a mode's letter, a kind, an opcode, a mode's size. Conditions: bytes are bytes; the library's own variable reads as an integer. · Contracts of an opcode and of a mode's size. Conditions: bytes are bytes; the library's own variable reads as an integer. -/
import Derived.Test.YtifajfjiloajfaaGreatDoorShelf
import Derived.Below
import Derived.OwnWalk
import Derived.Laws.OwnMore
import Derived.Laws.Rows
import Derived.Deep.Draws
import Derived.WalkKit
import Derived.Tactics
import Derived.Lib.Hide
import Derived.KernelRfl
namespace Go.Proofs.YtifajfjiloajfaaGreatDoor.Own
open Go.RowKit

-- the names, and the modes' tables, as they stand in the loaded program
def strOf : Operand → List ByteArray
  | .const (.string s) => [s]
  | _ => []
def strIn (o : Oper) : List ByteArray :=
  match o.op with
  | .slice _ x _ _ _ => strOf x
  | .index _ x _ => strOf x
  | .call c => c.args.toList.flatMap strOf
  | _ => []
def codeStr : Code → List ByteArray
  | .region _ ops _ => ops.toList.flatMap strIn
  | .seq a b => codeStr a ++ codeStr b
  | .block _ c => codeStr c
  | .scope c => codeStr c
  | .loop c => codeStr c
  | .cond _ a b => codeStr a ++ codeStr b
  | _ => []
noncomputable def tbl (f : Func) (i : Nat) : ByteArray := (((f.body.map codeStr).getD []).getD i ByteArray.empty)
noncomputable def nameN (c : Nat) : ByteArray := ((tbl Tryz.f113 0).extract (3 * c) 768).extract 0 3
noncomputable def at_ (i : Nat) (c : Int) : Int := ((tbl Tryz.f112 i).data.toList.getD (c % 16).toNat 0).toNat
noncomputable def letterI (c : Int) : Int :=
  if c = 32 then 97 else if c = 108 then 106 else if c / 16 = 9 ∨ c / 16 = 11 then at_ 0 c else if c / 16 % 2 = 1 then at_ 1 c else if c / 16 ≥ 8 then at_ 2 c else at_ 3 c
noncomputable def modeI (c : Int) : Int := Lib.indexByte (tbl Tryz.f95 0).data.toList (letterI c).toNat.toUInt8
def kindS (s : ByteArray) (m : Int) : Int :=
  if (s.toList == [74, 65, 77]) = true then 8
  else if Lib.contains [80, 72, 65, 32, 80, 72, 80] s.data.toList = true then 6
  else if Lib.contains [80, 76, 65, 32, 80, 76, 80] s.data.toList = true then 7
  else if Lib.contains [66, 82, 75, 32, 74, 83, 82, 32, 82, 84, 73, 32, 82, 84, 83, 32, 74, 77, 80] s.data.toList = true then 5
  else if (m == 10) = true then 4
  else if Lib.contains [83, 84, 65, 32, 83, 84, 88, 32, 83, 84, 89, 32, 83, 65, 88, 32, 83, 72, 65, 32, 83, 72, 88, 32, 83, 72, 89, 32, 84, 65, 83] s.data.toList = true then 2
  else if (m == 0) = true then 0
  else if Lib.contains [65, 83, 76, 32, 76, 83, 82, 32, 82, 79, 76, 32, 82, 79, 82, 32, 73, 78, 67, 32, 68, 69, 67, 32, 83, 76, 79, 32, 82, 76, 65, 32, 83, 82, 69, 32, 82, 82, 65, 32, 68, 67, 80, 32, 73, 83, 67] s.data.toList = true then 3
  else 1

theorem names_size : (tbl Tryz.f113 0).size = 768 := by kernel_rfl
set_option maxHeartbeats 1600000 in
set_option maxRecDepth 100000 in
theorem name_any (c : Nat) (w : World) (h1 : c < 256) :
    Calls Tryz.prog 113 #[.int .u8 c] w fun e w' => e = .returned (.string (nameN c)) ∧ w = w' := by
  go_enter Tryz.func113, Tryz.ntmps113
  go_wp2
  go_ret
  exact ⟨rfl, rfl⟩

theorem at_byte (s : ByteArray) (i : Nat) (h : i < s.size) : s[i]'h = s.data.toList.getD i 0 := by
  have h' : i < s.data.toList.length := by simpa using h
  rw [List.getD_eq_getElem?_getD, List.getElem?_eq_getElem h']
  rfl
theorem ret_int {k : IntKind} {a b : Int} (h : a = b) : Ending.returned (.int k a) = .returned (.int k b) := by rw [h]
set_option maxHeartbeats 1600000 in
set_option maxRecDepth 100000 in
theorem letter_32 (c : Int) (w : World) (h : c = 32) :
    Calls Tryz.prog 112 #[.int .u8 c] w fun e w' => e = .returned (.int .u8 (97)) ∧ w = w' := by
  subst h
  go_enter Tryz.func112, Tryz.ntmps112
  go_wp2
  go_ret
  exact ⟨rfl, rfl⟩
set_option maxHeartbeats 1600000 in
set_option maxRecDepth 100000 in
theorem letter_108 (c : Int) (w : World) (h : c = 108) :
    Calls Tryz.prog 112 #[.int .u8 c] w fun e w' => e = .returned (.int .u8 (106)) ∧ w = w' := by
  subst h
  go_enter Tryz.func112, Tryz.ntmps112
  go_wp2
  go_ret
  exact ⟨rfl, rfl⟩
set_option maxHeartbeats 1600000 in
set_option maxRecDepth 100000 in
theorem letter_0a (c : Int) (w : World) (h0 : 0 ≤ c) (h1 : c < 256) (k0 : (c == 32) = false) (k1 : (c == 108) = false) (k2 : (c / 16 == 9) = true) :
    Calls Tryz.prog 112 #[.int .u8 c] w fun e w' => e = .returned (.int .u8 (at_ 0 c)) ∧ w = w' := by
  go_enter Tryz.func112, Tryz.ntmps112
  go_wp2
  go_ret
  refine ⟨ret_int ?_, rfl⟩
  rw [at_byte]
  rfl
set_option maxHeartbeats 1600000 in
set_option maxRecDepth 100000 in
theorem letter_0b (c : Int) (w : World) (h0 : 0 ≤ c) (h1 : c < 256) (k0 : (c == 32) = false) (k1 : (c == 108) = false) (k2 : (c / 16 == 9) = false) (k3 : (c / 16 == 11) = true) :
    Calls Tryz.prog 112 #[.int .u8 c] w fun e w' => e = .returned (.int .u8 (at_ 0 c)) ∧ w = w' := by
  go_enter Tryz.func112, Tryz.ntmps112
  go_wp2
  go_ret
  refine ⟨ret_int ?_, rfl⟩
  rw [at_byte]
  rfl
set_option maxHeartbeats 1600000 in
set_option maxRecDepth 100000 in
theorem letter_1 (c : Int) (w : World) (h0 : 0 ≤ c) (h1 : c < 256) (k0 : (c == 32) = false) (k1 : (c == 108) = false) (k2 : (c / 16 == 9) = false) (k3 : (c / 16 == 11) = false) (k4 : (c / 16 % 2 == 1) = true) :
    Calls Tryz.prog 112 #[.int .u8 c] w fun e w' => e = .returned (.int .u8 (at_ 1 c)) ∧ w = w' := by
  go_enter Tryz.func112, Tryz.ntmps112
  go_wp2
  go_ret
  refine ⟨ret_int ?_, rfl⟩
  rw [at_byte]
  rfl
set_option maxHeartbeats 1600000 in
set_option maxRecDepth 100000 in
theorem letter_2 (c : Int) (w : World) (h0 : 0 ≤ c) (h1 : c < 256) (k0 : (c == 32) = false) (k1 : (c == 108) = false) (k2 : (c / 16 == 9) = false) (k3 : (c / 16 == 11) = false) (k4 : (c / 16 % 2 == 1) = false) (k5 : decide (8 ≤ c / 16) = true) :
    Calls Tryz.prog 112 #[.int .u8 c] w fun e w' => e = .returned (.int .u8 (at_ 2 c)) ∧ w = w' := by
  go_enter Tryz.func112, Tryz.ntmps112
  go_wp2
  go_ret
  refine ⟨ret_int ?_, rfl⟩
  rw [at_byte]
  rfl
set_option maxHeartbeats 1600000 in
set_option maxRecDepth 100000 in
theorem letter_3 (c : Int) (w : World) (h0 : 0 ≤ c) (h1 : c < 256) (k0 : (c == 32) = false) (k1 : (c == 108) = false) (k2 : (c / 16 == 9) = false) (k3 : (c / 16 == 11) = false) (k4 : (c / 16 % 2 == 1) = false) (k5 : decide (8 ≤ c / 16) = false) :
    Calls Tryz.prog 112 #[.int .u8 c] w fun e w' => e = .returned (.int .u8 (at_ 3 c)) ∧ w = w' := by
  go_enter Tryz.func112, Tryz.ntmps112
  go_wp2
  go_ret
  refine ⟨ret_int ?_, rfl⟩
  rw [at_byte]
  rfl
theorem letter_any (c : Int) (w : World) (h : 0 ≤ c ∧ c < 256) : Calls Tryz.prog 112 #[.int .u8 c] w fun e w' => e = .returned (.int .u8 (letterI c)) ∧ w = w' := by
  obtain ⟨h0, h1⟩ := h
  unfold letterI
  by_cases k0 : c = 32
  · rw [if_pos k0]
    exact letter_32 c w k0
  rw [if_neg k0]
  by_cases k1 : c = 108
  · rw [if_pos k1]
    exact letter_108 c w k1
  rw [if_neg k1]
  by_cases k2 : c / 16 = 9
  · rw [if_pos (.inl k2)]
    exact letter_0a c w h0 h1 (by simpa using k0) (by simpa using k1) (by simpa using k2)
  by_cases k3 : c / 16 = 11
  · rw [if_pos (.inr k3)]
    exact letter_0b c w h0 h1 (by simpa using k0) (by simpa using k1) (by simpa using k2) (by simpa using k3)
  rw [if_neg (by simp [k2, k3])]
  by_cases k4 : c / 16 % 2 = 1
  · rw [if_pos k4]
    exact letter_1 c w h0 h1 (by simpa using k0) (by simpa using k1) (by simpa using k2) (by simpa using k3) (by simpa using k4)
  rw [if_neg k4]
  by_cases k5 : c / 16 ≥ 8
  · rw [if_pos k5]
    exact letter_2 c w h0 h1 (by simpa using k0) (by simpa using k1) (by simpa using k2) (by simpa using k3) (by simpa using k4) (by simpa using k5)
  · rw [if_neg k5]
    exact letter_3 c w h0 h1 (by simpa using k0) (by simpa using k1) (by simpa using k2) (by simpa using k3) (by simpa using k4) (by simpa using k5)

set_option maxHeartbeats 3200000 in
set_option maxRecDepth 100000 in
theorem kind_any (s : ByteArray) (m mx : Int) (w : World) (hm : w.cell? ⟨1, 0, none⟩ = some (.int .i64 mx)) :
    Calls Tryz.prog 114 #[.string s, .int .i64 m] w fun e w' => e = .returned (.int .i64 (kindS s m)) ∧ w = w' := by
  have HM := Lib.hid hm
  clear hm
  go_enter Tryz.func114, Tryz.ntmps114
  go_wp2_with (go_at_call 161; refine (Tryz.strings_Contains _ s mx _ (by decide) HM.out).mono ?_; rintro e w' ⟨rfl, rfl⟩)
  all_goals
    go_ret
    refine ⟨ret_int ?_, rfl⟩
    unfold kindS
    simp [*]
end Go.Proofs.YtifajfjiloajfaaGreatDoor.Own
namespace Go.Proofs.YtifajfjiloajfaaGreatDoor.Own
open Go.RowKit

noncomputable def kindI (c : Nat) : Int := kindS (nameN c) (modeI c)
set_option maxHeartbeats 3200000 in
set_option maxRecDepth 100000 in
theorem of_any (c : Nat) (mx : Int) (w : World) (h : c < 256) (hm : w.cell? ⟨1, 0, none⟩ = some (.int .i64 mx)) :
    Calls Tryz.prog 95 #[.int .u8 c] w fun e w' => e = .returned (.agg #[.string (nameN c), .int .i64 (modeI c), .int .i64 (kindI c)]) ∧ Below w.heap.size w w' := by
  have hlt := World.block_lt_of_cell? _ _ hm
  have HM := Lib.hid (show ∀ o, (w.alloc o).cell? ⟨1, 0, none⟩ = some (.int .i64 mx) from fun o => (World.cell?_alloc_lt w o _ hlt).trans hm)
  have HL := Lib.hid (fun w => letter_any (c : Int) w ⟨by omega, by omega⟩)
  clear hm hlt
  go_enter Tryz.func95, Tryz.ntmps95
  go_wp2_with fail
  go_at_call 112
  refine (HL.out _).mono ?_
  rintro e w' ⟨rfl, rfl⟩
  go_wp2_with fail
  go_at_call 111
  refine (Tryz.strings_IndexByte _ _ _).mono ?_
  rintro e w' ⟨rfl, rfl⟩
  go_wp2_with fail
  go_at_call 113
  refine (name_any _ _ h).mono ?_
  rintro e w' ⟨rfl, rfl⟩
  go_wp2_with fail
  go_at_call 113
  refine (name_any _ _ h).mono ?_
  rintro e w' ⟨rfl, rfl⟩
  go_wp2_with fail
  go_at_call 114
  refine (kind_any _ _ mx _ (HM.out _)).mono ?_
  rintro e w' ⟨rfl, rfl⟩
  go_wp2
  exact bodyPost_ret (v := .agg #[.string (nameN c), .int .i64 (modeI c), .int .i64 (kindI c)]) (by simp [results, Tryz.results95, go_sem]; exact ⟨rfl, rfl⟩) rfl ⟨rfl, (Below.refl _ _).alloc (Nat.le_refl _) _⟩
def sizeI (m : Int) : Int := if m < 0 ∨ m > 11 then 0 else if m = 0 then 1 else if m = 5 ∨ m = 6 ∨ m = 7 ∨ m = 11 then 3 else 2
end Go.Proofs.YtifajfjiloajfaaGreatDoor.Own

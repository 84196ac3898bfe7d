/- The tables as lists, and how a fact is asked of all 256 codes. No condition. -/
import Derived.Test.YtpicoihlbgceiaaAwake
import Derived.Lib.Strings
namespace Go.Proofs.Ytpicoihlbgceiaa.Own
open Go.RowKit

noncomputable def namesL : List UInt8 := (tbl Try.f18 0).data.toList
noncomputable def nameL (c : Nat) : List UInt8 := (namesL.drop (3 * c)).take 3
theorem nameN_eq (c : Nat) : nameN c = ⟨(nameL c).toArray⟩ := by
  have hl : (tbl Try.f18 0).data.toList.length = 768 := names_size
  unfold nameN nameL namesL
  rw [Lib.extract_eq (tbl Try.f18 0), Lib.extract_eq]
  rw [List.take_of_length_le (by simp [hl] : ((tbl Try.f18 0).data.toList.drop (3 * c)).length ≤ 768 - 3 * c)]
  simp
theorem nameN_list (c : Nat) : (nameN c).data.toList = nameL c := by rw [nameN_eq]
def kindL (l : List UInt8) (m : Int) : Int :=
  if (l == [74, 65, 77]) = true then 8
  else if Lib.contains [80, 72, 65, 32, 80, 72, 80] l = true then 6
  else if Lib.contains [80, 76, 65, 32, 80, 76, 80] l = true then 7
  else if Lib.contains [66, 82, 75, 32, 74, 83, 82, 32, 82, 84, 73, 32, 82, 84, 83, 32, 74, 77, 80] l = true then 5
  else if (m == 10) = true then 4
  else if Lib.contains [83, 84, 65, 32, 83, 84, 88, 32, 83, 84, 89, 32, 83, 65, 88, 32, 83, 72, 65, 32, 83, 72, 88, 32, 83, 72, 89, 32, 84, 65, 83] l = true then 2
  else if (m == 0) = true then 0
  else if Lib.contains [65, 83, 76, 32, 76, 83, 82, 32, 82, 79, 76, 32, 82, 79, 82, 32, 73, 78, 67, 32, 68, 69, 67, 32, 83, 76, 79, 32, 82, 76, 65, 32, 83, 82, 69, 32, 82, 82, 65, 32, 68, 67, 80, 32, 73, 83, 67] l = true then 3
  else 1
theorem kindI_eq (c : Nat) : kindI c = kindL (nameL c) (modeI c) := by
  unfold kindI kindS kindL
  rw [Lib.toList_data, nameN_list]
def chk (P : Nat → List UInt8 → Bool) : Nat → Nat → List UInt8 → Bool
  | 0, _, _ => true
  | n + 1, c, l => P c (l.take 3) && chk P n (c + 1) (l.drop 3)
theorem chk_from (P : Nat → List UInt8 → Bool) : ∀ (n c : Nat) (l : List UInt8), chk P n c l = true → ∀ i, i < n → P (c + i) ((l.drop (3 * i)).take 3) = true
  | 0, _, _, _, i, hi => by omega
  | n + 1, c, l, h, i, hi => by
    simp only [chk, Bool.and_eq_true] at h
    cases i with
    | zero => simpa using h.1
    | succ i =>
      have := chk_from P n (c + 1) (l.drop 3) h.2 i (by omega)
      rw [List.drop_drop] at this
      rw [show c + (i + 1) = c + 1 + i by omega, show 3 * (i + 1) = 3 + 3 * i by omega]
      exact this
theorem chk_all {P : Nat → List UInt8 → Bool} (h : chk P 256 0 namesL = true) (c : Nat) (hc : c < 256) : P c (nameL c) = true := by
  have := chk_from P 256 0 namesL h c hc
  rwa [Nat.zero_add] at this
theorem cell_after {w w' : World} {v : Value} (hb : Below w.heap.size w w') (hm : w.cell? ⟨0, 0, none⟩ = some v) : w'.cell? ⟨0, 0, none⟩ = some v :=
  (hb.cell (World.block_lt_of_cell? _ _ hm)).trans hm
def kmList : List (Int × Int) := [(0, 0), (0, 5), (0, 6), (0, 7), (0, 8), (1, 1), (2, 1), (2, 2), (2, 3), (3, 1), (3, 2), (3, 3), (4, 1), (4, 2), (5, 1), (5, 2), (5, 3), (5, 5), (6, 1), (6, 2), (6, 3), (7, 1), (7, 2), (7, 3), (8, 1), (8, 2), (8, 3), (9, 1), (9, 2), (9, 3), (10, 4), (11, 5)]
theorem km_all : chk (fun c l => kmList.contains (modeI (c : Int), kindL l (modeI (c : Int))) && (c == 108 || modeI (c : Int) != 11)) 256 0 namesL = true := by kernel_rfl
theorem km_at (c : Nat) (h : c < 256) : (modeI (c : Int), kindI c) ∈ kmList ∧ (modeI (c : Int) = 11 → c = 108) := by
  have h1 := chk_all km_all c h
  simp only [Bool.and_eq_true, Bool.or_eq_true, beq_iff_eq, bne_iff_ne, ne_eq, List.contains_iff_mem] at h1
  rw [kindI_eq]
  exact ⟨h1.1, fun h2 => h1.2.resolve_right (fun h3 => h3 h2)⟩
end Go.Proofs.Ytpicoihlbgceiaa.Own

/- The chapter's example is right. Condition: the library's own variable reads as an integer. -/
import Derived.Test.YtpicoihlbgceiaaCodes
namespace Go.Proofs.Ytpicoihlbgceiaa.Own
open Go.RowKit

theorem name169 : nameN 169 = ⟨#[76, 68, 65]⟩ := by kernel_rfl
theorem mode169 : modeI ((169 : Nat) : Int) = 1 := by kernel_rfl
theorem kind169 : kindI 169 = 1 := by kernel_rfl
theorem hitsJam : (hits ⟨#[74, 65, 77]⟩ 768).length = 12 := by kernel_rfl
theorem of_169 (mx : Int) (w : World) (hm : w.cell? ⟨0, 0, none⟩ = some (.int .i64 mx)) :
    Calls Try.prog 10 #[.int .u8 169] w fun e w' => e = .returned (.agg #[.string ⟨#[76, 68, 65]⟩, .int .i64 1, .int .i64 1]) ∧ Below w.heap.size w w' := by
  have h := of_any 169 mx w (by decide) hm
  rw [name169, mode169, kind169] at h
  exact h
theorem codes_jam (w : World) :
    Calls Try.prog 15 #[.string ⟨#[74, 65, 77]⟩] w fun e w' => ∃ g cap, e = .returned (.slice (some ⟨g, 0, none⟩) 12 cap) ∧ Below w.heap.size w w' := by
  refine (codes_any _ w).mono ?_
  rintro e w' ⟨v, rfl, hown, hb⟩
  rcases hown.2 with ⟨h0, hn⟩ | ⟨g, cap, cur, rfl, _⟩
  · rw [hitsJam] at hn; simp at hn
  · exact ⟨g, cap, by rw [hitsJam], hb⟩
set_option maxHeartbeats 1600000 in
set_option maxRecDepth 100000 in
theorem awake_any (mx : Int) (w : World) (hm : w.cell? ⟨0, 0, none⟩ = some (.int .i64 mx)) :
    Calls Try.prog 9 #[] w fun e w' => e = .returned (.bool true) ∧ Below w.heap.size w w' := by
  have HM := Lib.hid hm
  clear hm
  go_enter Try.func9, Try.ntmps9
  go_wp2_with fail
  go_at_call 10
  refine (of_169 mx _ HM.out).mono ?_
  rintro e w1 ⟨rfl, hb1⟩
  go_wp2_with fail
  go_at_call 12
  refine (size_any 1 _).mono ?_
  rintro e w2 ⟨rfl, rfl⟩
  simp [sizeI]
  go_wp2_with fail
  go_at_call 15
  refine (codes_jam _).mono ?_
  rintro e w3 ⟨g, cap, rfl, hb3⟩
  go_wp2
  go_ret
  exact ⟨rfl, hb1.trans (hb3.mono hb1.size)⟩
end Go.Proofs.Ytpicoihlbgceiaa.Own

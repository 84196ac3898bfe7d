/- The contract of the comparison of two lists of numbers that are one. Condition: the lists are read as their cells. -/
import Derived.Test.YtdfdmgdielfhnaaEvents
namespace Go.Proofs.Ytdfdmgdielfhnaa.Own
open Go.RowKit

/-- A list of numbers, in memory. -/
def IntsAt (w : World) (v : Value) (L : List Int) : Prop :=
  (v = .slice none 0 0 ∧ L = []) ∨ ∃ g cap, v = .slice (some ⟨g, 0, none⟩) L.length cap ∧ g < w.heap.size ∧ ∀ j, j < L.length → w.cell? ⟨g, j, none⟩ = some (.int .i64 (L.getD j 0))
theorem IntsAt.below {w w' : World} {v : Value} {L : List Int} (h : IntsAt w v L) (hb : Below w.heap.size w w') : IntsAt w' v L := by
  rcases h with h | ⟨g, cap, hv, hlt, hc⟩
  · exact .inl h
  · exact .inr ⟨g, cap, hv, Nat.lt_of_lt_of_le hlt hb.size, fun j hj => (hb.cell hlt).trans (hc j hj)⟩
theorem IntsAt.of {w : World} {B : Nat} {v : Value} {n : Nat} {L : List Int} (h : w.ownsRow B 3 1 v n (L.map (.int .i64))) : IntsAt w v L := by
  have hl := h.1
  simp at hl
  rcases h.2 with ⟨h0, hn⟩ | ⟨g, cap, cur, rfl, _⟩
  · exact .inl ⟨h0, List.length_eq_zero_iff.1 (by omega)⟩
  · refine .inr ⟨g, cap, by rw [hl], (h.lt g rfl).2, fun j hj => ?_⟩
    rw [h.cellAt j (by omega)]
    simp [List.getD_eq_getElem?_getD, hj]
set_option maxHeartbeats 4000000 in
set_option maxRecDepth 100000 in
theorem ints_zero (a b : Option Addr) (c d : Nat) (w : World) :
    Calls Try.prog 12 #[.slice a 0 c, .slice b 0 d] w fun e w' => e = .returned (.bool true) ∧ Below w.heap.size w w' := by
  go_enter Try.func12, Try.ntmps12
  go_wp2
  go_loop [5] (fun i => i = .int .i64 0) (fun _ => 0)
  case atStart => rfl
  case round =>
    obtain rfl := hrel
    go_wp2
    go_ret
    exact ⟨rfl, Below.refl _ _⟩
set_option maxHeartbeats 4000000 in
set_option maxRecDepth 100000 in
theorem ints_some (g h c d n : Nat) (L : List Int) (w : World) (hn : L.length = n) (h1000 : n ≤ 1000) (hg : ∀ j, j < n → w.cell? ⟨g, j, none⟩ = some (.int .i64 (L.getD j 0))) (hh : ∀ j, j < n → w.cell? ⟨h, j, none⟩ = some (.int .i64 (L.getD j 0))) :
    Calls Try.prog 12 #[.slice (some ⟨g, 0, none⟩) n c, .slice (some ⟨h, 0, none⟩) n d] w fun e w' => e = .returned (.bool true) ∧ Below w.heap.size w w' := by
  have HG := Lib.hid hg
  have HH := Lib.hid hh
  have hnn : (n : Int) ≤ 1000 := by omega
  clear hg hh
  go_enter Try.func12, Try.ntmps12
  go_wp2
  go_loopw [5] (fun i wr => ∃ k : Nat, k ≤ n ∧ i = .int .i64 k ∧ (Below w.heap.size w wr ∧ Hid ((∀ j, j < n → wr.cell? ⟨g, j, none⟩ = some (.int .i64 (L.getD j 0))) ∧ ∀ j, j < n → wr.cell? ⟨h, j, none⟩ = some (.int .i64 (L.getD j 0))))) (fun i _ => n - (intOf i).toNat)
  case atStart => exact ⟨0, by omega, rfl, Below.refl _ _, Lib.hid ⟨HG.out, HH.out⟩⟩
  case round =>
    obtain ⟨k, hk, rfl, hb, HC⟩ := hrel
    have hk0 : 0 ≤ (k : Int) := by omega
    by_cases hkn : k < n
    · have hk1 : (k : Int) < n := by omega
      have c0 := HC.out.1 k hkn
      have c1 := HC.out.2 k hkn
      generalize L.getD k 0 = z at c0 c1
      go_wp2
      go_region
      all_goals
        go_wp2
        go_roundw
        case rel => exact ⟨k + 1, by omega, by simp, hb.drew, Lib.hid ⟨fun j hj => by simpa using HC.out.1 j hj, fun j hj => by simpa using HC.out.2 j hj⟩⟩
        case measure => simp [intOf]; omega
    · have hk1 : ¬ (k : Int) < n := by omega
      go_wp2
      go_ret
      exact ⟨rfl, hb⟩
theorem ints_any (u v : Value) (L : List Int) (w : World) (h1000 : L.length ≤ 1000) (hu : IntsAt w u L) (hv : IntsAt w v L) :
    Calls Try.prog 12 #[u, v] w fun e w' => e = .returned (.bool true) ∧ Below w.heap.size w w' := by
  rcases hu with ⟨rfl, h0⟩ | ⟨g, c, rfl, _, hg⟩
  · subst h0
    rcases hv with ⟨rfl, _⟩ | ⟨h, d, rfl, _, hh⟩
    · exact ints_zero _ _ _ _ w
    · exact ints_zero _ _ _ _ w
  · rcases hv with ⟨rfl, h0⟩ | ⟨h, d, rfl, _, hh⟩
    · subst h0
      exact ints_zero _ _ _ _ w
    · exact ints_some g h c d L.length L w rfl h1000 hg hh
end Go.Proofs.Ytdfdmgdielfhnaa.Own

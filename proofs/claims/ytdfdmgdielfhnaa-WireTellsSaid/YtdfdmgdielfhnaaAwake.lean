/- The chapter's example is right; lists of levels that the code itself lays. No condition. -/
import Derived.Test.YtdfdmgdielfhnaaRuns
namespace Go.Proofs.Ytdfdmgdielfhnaa.Own
open Go.RowKit

def flatL (l : List (Bool × Bool)) : List Value := l.flatMap (fun y => [.bool y.1, .bool y.2])
theorem flatL_length : ∀ l, (flatL l).length = l.length * 2
  | [] => rfl
  | y :: l => by have := flatL_length l; simp [flatL] at *; omega
theorem flatL_append (a b : List (Bool × Bool)) : flatL (a ++ b) = flatL a ++ flatL b := by simp [flatL]
theorem flatL_get : ∀ (l : List (Bool × Bool)) (k : Nat), k < l.length → (flatL l)[k * 2]? = some (.bool (l.getD k (false, false)).1) ∧ (flatL l)[k * 2 + 1]? = some (.bool (l.getD k (false, false)).2)
  | [], k, h => by simp at h
  | y :: l, 0, _ => by simp [flatL]
  | y :: l, k + 1, h => by
    have := flatL_get l k (by simpa using h)
    rw [show (k + 1) * 2 = k * 2 + 2 by omega]
    simpa [flatL] using this
theorem lv_new (w : World) (l : List (Bool × Bool)) (arr : Array Value) (h : arr = (flatL l).toArray) : LvAt (w.alloc (.cells arr 30)) (some ⟨w.heap.size, 0, none⟩) l := by
  subst h
  refine .inr ⟨w.heap.size, 0, rfl, by simp, fun k hk => ?_⟩
  have hg := flatL_get l k hk
  rw [Blk.cell (Blk.new w 30 _), Blk.cell (Blk.new w 30 _), Nat.zero_add]
  simpa using hg
theorem ints_new (w : World) (l : List Int) (n : Nat) (hn : l.length = n) (arr : Array Value) (h : arr = (l.map (Value.int .i64)).toArray) (b : Nat) (hb : b = w.heap.size) : IntsAt (w.alloc (.cells arr 3)) (.slice (some ⟨b, 0, none⟩) n n) l := by
  subst h hn hb
  refine .inr ⟨w.heap.size, l.length, rfl, by simp, fun j hj => ?_⟩
  rw [Blk.cell (Blk.new w 3 _)]
  simp [List.getD_eq_getElem?_getD, hj]
def lv5 : List (Bool × Bool) := [(true, false), (false, false), (false, true), (true, true), (true, true)]
set_option maxHeartbeats 4000000 in
set_option maxRecDepth 100000 in
theorem awake_any (w : World) : Calls Try.prog 8 #[] w fun e w' => e = .returned (.bool true) ∧ Below w.heap.size w w' := by
  have HE := Lib.hid (fun A w h => events_any A 5 5 lv5 w rfl (by decide) h)
  have HR := Lib.hid (fun A w h => runs_any A 5 5 lv5 w rfl (by decide) h)
  have HI := Lib.hid ints_any
  have HL := Lib.hid (lv_new w lv5)
  have HN := Lib.hid (fun w => ints_new w [1, 4, 0, 3, 0] 5 rfl)
  go_enter Try.func8, Try.ntmps8
  go_wp2_with fail
  go_at_call 13
  have L1 := HL.out _ rfl
  have hb0 : Below w.heap.size w (w.alloc (.cells (flatL lv5).toArray 30)) := (Below.refl _ _).alloc (Nat.le_refl _) _
  refine (HE.out _ _ L1).mono ?_
  rintro e w1 ⟨v, rfl, hev, hb1⟩
  have hb1' := hb0.trans (hb1.mono hb0.size)
  have L2 := L1.below hb1
  have I1 : IntsAt w1 v [1, 4, 0, 3, 0] := IntsAt.of hev
  clear hev hb0 hb1
  go_wp2_with fail
  go_at_call 12
  have hba : Below w1.heap.size w1 (w1.alloc (.cells #[.int .i64 1, .int .i64 4, .int .i64 0, .int .i64 3, .int .i64 0] 3)) := (Below.refl _ _).alloc (Nat.le_refl _) _
  refine (HI.out _ _ _ _ (by decide) (I1.below hba) (HN.out _ _ rfl _ rfl)).mono ?_
  rintro e w2 ⟨rfl, hb2⟩
  have hb2' := hba.trans (hb2.mono hba.size)
  have L3 := L2.below hb2'
  have hb3' := hb1'.trans (hb2'.mono hb1'.size)
  clear hb2 hba hb2' hb1' I1 L1 L2
  go_wp2_with fail
  go_at_call 15
  refine (HR.out _ _ L3).mono ?_
  rintro e w3 ⟨v3, rfl, es, B, _, hR, hes, hb4⟩
  have hb4' := hb3'.trans (hb4.mono hb3'.size)
  have hl : es.length = 1 := by
    rw [← List.length_map (f := fun e : RunE => e.2), hes]
    decide
  obtain ⟨g, cap, rfl, _, _⟩ := hR.1.form (by omega)
  rw [hl]
  clear hR hes
  go_wp2
  go_ret
  exact ⟨rfl, hb4'⟩
end Go.Proofs.Ytdfdmgdielfhnaa.Own

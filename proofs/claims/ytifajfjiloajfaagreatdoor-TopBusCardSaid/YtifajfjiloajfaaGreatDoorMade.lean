/- A game's cartridge; whether a game is few. Conditions: a game's bytes. -/
import Derived.Test.YtifajfjiloajfaaGreatDoorMFill
import Derived.Test.YtifajfjiloajfaaGreatDoorMFlash
import Derived.Test.YtifajfjiloajfaaGreatDoorOut
namespace Go.Proofs.YtifajfjiloajfaaGreatDoor.OwnChip
open Go.RowKit Go.Proofs.YtifajfjiloajfaaGreatDoor.Own
set_option maxHeartbeats 1600000 in
theorem few_any (two : Bool) (A B C : Option Addr) (n cap m cap2 cap3 : Nat) (eb fb sb : Int) (w : World) (r : Bool) (hr : r = (decide (n ≤ 300) && decide (m ≤ 40))) :
    Calls Tryz.prog 5 #[.agg #[.bool two, .slice A n cap, .int .u8 eb, .int .u8 fb, .int .u8 sb], .slice B m cap2, .slice C 0 cap3] w fun e w' => e = .returned (.bool r) ∧ Below w.heap.size w w' := by
  by_cases h1 : n ≤ 300
  · by_cases h2 : m ≤ 40
    · have t1 : (n : Int) ≤ 300 := by omega
      have t2 : (m : Int) ≤ 40 := by omega
      obtain rfl : r = true := by rw [hr]; simp [h1, h2]
      clear h1 h2 hr
      go_enter Tryz.func5, Tryz.ntmps5
      go_wp2
      all_goals
        go_ret
        exact ⟨rfl, (Below.refl _ _).alloc (Nat.le_refl _) _⟩
    · have t1 : (n : Int) ≤ 300 := by omega
      have t2 : ¬ (m : Int) ≤ 40 := by omega
      obtain rfl : r = false := by rw [hr]; simp [h2]
      clear h1 h2 hr
      go_enter Tryz.func5, Tryz.ntmps5
      go_wp2
      all_goals
        go_ret
        exact ⟨rfl, (Below.refl _ _).alloc (Nat.le_refl _) _⟩
  · have t1 : ¬ (n : Int) ≤ 300 := by omega
    obtain rfl : r = false := by rw [hr]; simp [h1]
    clear h1 hr
    go_enter Tryz.func5, Tryz.ntmps5
    go_wp2
    all_goals
      go_ret
      exact ⟨rfl, (Below.refl _ _).alloc (Nat.le_refl _) _⟩
theorem Bs.below {A : Option Addr} {zs : List Int} {w w' : World} (hb : Below w.heap.size w w') (h : Bs w A zs) : Bs w' A zs := by
  obtain ⟨hz, h⟩ := h
  refine ⟨hz, ?_⟩
  cases A with
  | none => exact h
  | some a =>
    obtain ⟨b, off, sp⟩ := a
    rcases h with h | ⟨h1, h2⟩
    · exact Or.inl h
    simp only at h1 h2
    subst h1
    exact Or.inr ⟨rfl, fun j hj => (hb.cell (cell_lt (h2 j hj))).trans (h2 j hj)⟩
/-- A cartridge of a game. -/
def MadeRet (nb : Nat) (e f s : Int) (w : World) (x : Ending) (w' : World) : Prop :=
  ∃ rb, x = .returned (.agg #[.int .i64 8, .int .i64 nb, .int .i64 e, .int .i64 f, .int .i64 s, .slice (some ⟨rb, 0, none⟩) (nb * 256) (nb * 256)]) ∧ w.heap.size ≤ rb ∧ Byt (nb * 256) w' rb ∧ Below w.heap.size w w'
theorem MadeRet.mk {nb : Nat} {e f s : Int} {w w' : World} (rb : Nat) (h1 : w.heap.size ≤ rb) (h2 : Byt (nb * 256) w' rb) (h3 : Below w.heap.size w w') : MadeRet nb e f s w (.returned (.agg #[.int .i64 8, .int .i64 nb, .int .i64 e, .int .i64 f, .int .i64 s, .slice (some ⟨rb, 0, none⟩) (nb * 256) (nb * 256)])) w' := ⟨rb, rfl, h1, h2, h3⟩
set_option maxHeartbeats 3200000 in
set_option maxRecDepth 100000 in
theorem made_1 (A : Option Addr) (zs : List Int) (cap : Nat) (eb fb sb : Int) (w : World) (h : Bs w A zs) (hn : zs.length < 65536) :
    Calls Tryz.prog 6 #[.agg #[.bool false, .slice A zs.length cap, .int .u8 eb, .int .u8 fb, .int .u8 sb]] w (MadeRet 1 (wrap64 (eb.tmod 4)) (wrap64 (fb.tmod 3)) (wrap64 (sb.tmod 3)) w) := by
  have hb3 : Below w.heap.size w (((w.alloc (.cells #[.bool false, .slice A zs.length cap, .int .u8 eb, .int .u8 fb, .int .u8 sb] 24)).alloc (.cells #[.int .i64 0, .int .i64 0, .int .i64 0, .int .i64 0, .int .i64 0, .slice none 0 0] 30)).alloc (.cells #[.int .i64 8, .int .i64 1, .int .i64 (wrap64 (eb.tmod 4)), .int .i64 (wrap64 (fb.tmod 3)), .int .i64 (wrap64 (sb.tmod 3)), .slice none 0 0] 30)) := (((Below.refl _ w).alloc (Nat.le_refl _) _).alloc (by simp) _).alloc (by simp; omega) _
  have B2 : Blk (((w.alloc (.cells #[.bool false, .slice A zs.length cap, .int .u8 eb, .int .u8 fb, .int .u8 sb] 24)).alloc (.cells #[.int .i64 0, .int .i64 0, .int .i64 0, .int .i64 0, .int .i64 0, .slice none 0 0] 30)).alloc (.cells #[.int .i64 8, .int .i64 1, .int .i64 (wrap64 (eb.tmod 4)), .int .i64 (wrap64 (fb.tmod 3)), .int .i64 (wrap64 (sb.tmod 3)), .slice none 0 0] 30)) (w.heap.size + 1) 30 #[.int .i64 0, .int .i64 0, .int .i64 0, .int .i64 0, .int .i64 0, .slice none 0 0] := (new_1 w _ 30 _).alloc _
  have B3 : Blk (((w.alloc (.cells #[.bool false, .slice A zs.length cap, .int .u8 eb, .int .u8 fb, .int .u8 sb] 24)).alloc (.cells #[.int .i64 0, .int .i64 0, .int .i64 0, .int .i64 0, .int .i64 0, .slice none 0 0] 30)).alloc (.cells #[.int .i64 8, .int .i64 1, .int .i64 (wrap64 (eb.tmod 4)), .int .i64 (wrap64 (fb.tmod 3)), .int .i64 (wrap64 (sb.tmod 3)), .slice none 0 0] 30)) (w.heap.size + 2) 30 #[.int .i64 8, .int .i64 1, .int .i64 (wrap64 (eb.tmod 4)), .int .i64 (wrap64 (fb.tmod 3)), .int .i64 (wrap64 (sb.tmod 3)), .slice none 0 0] := new_2 w _ _ 30 _
  have hsz : (((w.alloc (.cells #[.bool false, .slice A zs.length cap, .int .u8 eb, .int .u8 fb, .int .u8 sb] 24)).alloc (.cells #[.int .i64 0, .int .i64 0, .int .i64 0, .int .i64 0, .int .i64 0, .slice none 0 0] 30)).alloc (.cells #[.int .i64 8, .int .i64 1, .int .i64 (wrap64 (eb.tmod 4)), .int .i64 (wrap64 (fb.tmod 3)), .int .i64 (wrap64 (sb.tmod 3)), .slice none 0 0] 30)).heap.size = w.heap.size + 3 := by simp
  have HF : Hid (Calls Tryz.prog 8 #[.slice A zs.length cap, .int .i64 256] (((w.alloc (.cells #[.bool false, .slice A zs.length cap, .int .u8 eb, .int .u8 fb, .int .u8 sb] 24)).alloc (.cells #[.int .i64 0, .int .i64 0, .int .i64 0, .int .i64 0, .int .i64 0, .slice none 0 0] 30)).alloc (.cells #[.int .i64 8, .int .i64 1, .int .i64 (wrap64 (eb.tmod 4)), .int .i64 (wrap64 (fb.tmod 3)), .int .i64 (wrap64 (sb.tmod 3)), .slice none 0 0] 30)) fun e w' => e = .returned (.slice (some ⟨w.heap.size + 3, 0, none⟩) 256 256) ∧ Byt 256 w' (w.heap.size + 3) ∧ Below w.heap.size w w' ∧ Blk w' (w.heap.size + 1) 30 #[.int .i64 0, .int .i64 0, .int .i64 0, .int .i64 0, .int .i64 0, .slice none 0 0] ∧ Blk w' (w.heap.size + 2) 30 #[.int .i64 8, .int .i64 1, .int .i64 (wrap64 (eb.tmod 4)), .int .i64 (wrap64 (fb.tmod 3)), .int .i64 (wrap64 (sb.tmod 3)), .slice none 0 0]) := by
    refine Lib.hid ?_
    have z := fill_any A zs cap 256 (((w.alloc (.cells #[.bool false, .slice A zs.length cap, .int .u8 eb, .int .u8 fb, .int .u8 sb] 24)).alloc (.cells #[.int .i64 0, .int .i64 0, .int .i64 0, .int .i64 0, .int .i64 0, .slice none 0 0] 30)).alloc (.cells #[.int .i64 8, .int .i64 1, .int .i64 (wrap64 (eb.tmod 4)), .int .i64 (wrap64 (fb.tmod 3)), .int .i64 (wrap64 (sb.tmod 3)), .slice none 0 0] 30)) (Bs.below hb3 h) hn (by decide)
    rw [hsz] at z
    refine z.mono fun e w' ⟨q1, q2, q3⟩ => ⟨q1, q2, ?_, B2.below q3 (by omega), B3.below q3 (by omega)⟩
    rw [← hsz] at q3
    exact bel_trans hb3 q3
  clear hb3 B2 B3 hsz h hn
  go_enter Tryz.func6, Tryz.ntmps6
  go_wp2_with (go_at_call 8; with_reducible refine HF.out.mono ?_; rintro e w1 ⟨rfl, q1, q2, q3, q4⟩; have Q1 := Lib.hid q1; have Q2 := Lib.hid q2; have a0 := q3.cell 0; have a1 := q3.cell 1; have a2 := q3.cell 2; have a3 := q3.cell 3; have a4 := q3.cell 4; have a5 := q3.cell 5; have f0 := q3.frozen 0; have f1 := q3.frozen 1; have f2 := q3.frozen 2; have f3 := q3.frozen 3; have f4 := q3.frozen 4; have f5 := q3.frozen 5; have b0 := q4.cell 0; have b1 := q4.cell 1; have b2 := q4.cell 2; have b3 := q4.cell 3; have b4 := q4.cell 4; have b5 := q4.cell 5; have g5 := q4.frozen 5; simp at a0 a1 a2 a3 a4 a5 b0 b1 b2 b3 b4 b5; clear q1 q2 q3 q4)
  refine bodyPost_ret (v := .agg #[.int .i64 8, .int .i64 1, .int .i64 (wrap64 (eb.tmod 4)), .int .i64 (wrap64 (fb.tmod 3)), .int .i64 (wrap64 (sb.tmod 3)), .slice (some ⟨w.heap.size + 3, 0, none⟩) 256 256]) ?_ rfl ?_
  · simp [results, Tryz.results6, go_sem, *]
  · have k : Kept (fun b => b = w.heap.size + 1 ∨ b = w.heap.size + 1 + 1) w1 (((((((w1.setCell ⟨w.heap.size + 1 + 1, 5, none⟩ (.slice (some ⟨w.heap.size + 3, 0, none⟩) 256 256)).setCell ⟨w.heap.size + 1, 0, none⟩ (.int .i64 8)).setCell ⟨w.heap.size + 1, 1, none⟩ (.int .i64 1)).setCell ⟨w.heap.size + 1, 2, none⟩ (.int .i64 (wrap64 (eb.tmod 4)))).setCell ⟨w.heap.size + 1, 3, none⟩ (.int .i64 (wrap64 (fb.tmod 3)))).setCell ⟨w.heap.size + 1, 4, none⟩ (.int .i64 (wrap64 (sb.tmod 3)))).setCell ⟨w.heap.size + 1, 5, none⟩ (.slice (some ⟨w.heap.size + 3, 0, none⟩) 256 256)) := by
      iterate 6 refine kset (S := fun b => b = w.heap.size + 1 ∨ b = w.heap.size + 1 + 1) ?_ (Or.inl rfl) _ _
      exact Kept.set (S := fun b => b = w.heap.size + 1 ∨ b = w.heap.size + 1 + 1) _ 5 _ (Or.inr rfl)
    exact MadeRet.mk (nb := 1) (w.heap.size + 3) (by omega) (Q1.out.kept k (by omega)) (Kept.none_below ((Kept.below Q2.out).trans (k.mono (fun b _ h => Or.inr (by omega)))))
set_option maxHeartbeats 3200000 in
set_option maxRecDepth 100000 in
theorem made_2 (A : Option Addr) (zs : List Int) (cap : Nat) (eb fb sb : Int) (w : World) (h : Bs w A zs) (hn : zs.length < 65536) :
    Calls Tryz.prog 6 #[.agg #[.bool true, .slice A zs.length cap, .int .u8 eb, .int .u8 fb, .int .u8 sb]] w (MadeRet 2 (wrap64 (eb.tmod 4)) (wrap64 (fb.tmod 3)) (wrap64 (sb.tmod 3)) w) := by
  have hb3 : Below w.heap.size w (((w.alloc (.cells #[.bool true, .slice A zs.length cap, .int .u8 eb, .int .u8 fb, .int .u8 sb] 24)).alloc (.cells #[.int .i64 0, .int .i64 0, .int .i64 0, .int .i64 0, .int .i64 0, .slice none 0 0] 30)).alloc (.cells #[.int .i64 8, .int .i64 2, .int .i64 (wrap64 (eb.tmod 4)), .int .i64 (wrap64 (fb.tmod 3)), .int .i64 (wrap64 (sb.tmod 3)), .slice none 0 0] 30)) := (((Below.refl _ w).alloc (Nat.le_refl _) _).alloc (by simp) _).alloc (by simp; omega) _
  have B2 : Blk (((w.alloc (.cells #[.bool true, .slice A zs.length cap, .int .u8 eb, .int .u8 fb, .int .u8 sb] 24)).alloc (.cells #[.int .i64 0, .int .i64 0, .int .i64 0, .int .i64 0, .int .i64 0, .slice none 0 0] 30)).alloc (.cells #[.int .i64 8, .int .i64 2, .int .i64 (wrap64 (eb.tmod 4)), .int .i64 (wrap64 (fb.tmod 3)), .int .i64 (wrap64 (sb.tmod 3)), .slice none 0 0] 30)) (w.heap.size + 1) 30 #[.int .i64 0, .int .i64 0, .int .i64 0, .int .i64 0, .int .i64 0, .slice none 0 0] := (new_1 w _ 30 _).alloc _
  have B3 : Blk (((w.alloc (.cells #[.bool true, .slice A zs.length cap, .int .u8 eb, .int .u8 fb, .int .u8 sb] 24)).alloc (.cells #[.int .i64 0, .int .i64 0, .int .i64 0, .int .i64 0, .int .i64 0, .slice none 0 0] 30)).alloc (.cells #[.int .i64 8, .int .i64 2, .int .i64 (wrap64 (eb.tmod 4)), .int .i64 (wrap64 (fb.tmod 3)), .int .i64 (wrap64 (sb.tmod 3)), .slice none 0 0] 30)) (w.heap.size + 2) 30 #[.int .i64 8, .int .i64 2, .int .i64 (wrap64 (eb.tmod 4)), .int .i64 (wrap64 (fb.tmod 3)), .int .i64 (wrap64 (sb.tmod 3)), .slice none 0 0] := new_2 w _ _ 30 _
  have hsz : (((w.alloc (.cells #[.bool true, .slice A zs.length cap, .int .u8 eb, .int .u8 fb, .int .u8 sb] 24)).alloc (.cells #[.int .i64 0, .int .i64 0, .int .i64 0, .int .i64 0, .int .i64 0, .slice none 0 0] 30)).alloc (.cells #[.int .i64 8, .int .i64 2, .int .i64 (wrap64 (eb.tmod 4)), .int .i64 (wrap64 (fb.tmod 3)), .int .i64 (wrap64 (sb.tmod 3)), .slice none 0 0] 30)).heap.size = w.heap.size + 3 := by simp
  have HF : Hid (Calls Tryz.prog 8 #[.slice A zs.length cap, .int .i64 512] (((w.alloc (.cells #[.bool true, .slice A zs.length cap, .int .u8 eb, .int .u8 fb, .int .u8 sb] 24)).alloc (.cells #[.int .i64 0, .int .i64 0, .int .i64 0, .int .i64 0, .int .i64 0, .slice none 0 0] 30)).alloc (.cells #[.int .i64 8, .int .i64 2, .int .i64 (wrap64 (eb.tmod 4)), .int .i64 (wrap64 (fb.tmod 3)), .int .i64 (wrap64 (sb.tmod 3)), .slice none 0 0] 30)) fun e w' => e = .returned (.slice (some ⟨w.heap.size + 3, 0, none⟩) 512 512) ∧ Byt 512 w' (w.heap.size + 3) ∧ Below w.heap.size w w' ∧ Blk w' (w.heap.size + 1) 30 #[.int .i64 0, .int .i64 0, .int .i64 0, .int .i64 0, .int .i64 0, .slice none 0 0] ∧ Blk w' (w.heap.size + 2) 30 #[.int .i64 8, .int .i64 2, .int .i64 (wrap64 (eb.tmod 4)), .int .i64 (wrap64 (fb.tmod 3)), .int .i64 (wrap64 (sb.tmod 3)), .slice none 0 0]) := by
    refine Lib.hid ?_
    have z := fill_any A zs cap 512 (((w.alloc (.cells #[.bool true, .slice A zs.length cap, .int .u8 eb, .int .u8 fb, .int .u8 sb] 24)).alloc (.cells #[.int .i64 0, .int .i64 0, .int .i64 0, .int .i64 0, .int .i64 0, .slice none 0 0] 30)).alloc (.cells #[.int .i64 8, .int .i64 2, .int .i64 (wrap64 (eb.tmod 4)), .int .i64 (wrap64 (fb.tmod 3)), .int .i64 (wrap64 (sb.tmod 3)), .slice none 0 0] 30)) (Bs.below hb3 h) hn (by decide)
    rw [hsz] at z
    refine z.mono fun e w' ⟨q1, q2, q3⟩ => ⟨q1, q2, ?_, B2.below q3 (by omega), B3.below q3 (by omega)⟩
    rw [← hsz] at q3
    exact bel_trans hb3 q3
  clear hb3 B2 B3 hsz h hn
  go_enter Tryz.func6, Tryz.ntmps6
  go_wp2_with (go_at_call 8; with_reducible refine HF.out.mono ?_; rintro e w1 ⟨rfl, q1, q2, q3, q4⟩; have Q1 := Lib.hid q1; have Q2 := Lib.hid q2; have a0 := q3.cell 0; have a1 := q3.cell 1; have a2 := q3.cell 2; have a3 := q3.cell 3; have a4 := q3.cell 4; have a5 := q3.cell 5; have f0 := q3.frozen 0; have f1 := q3.frozen 1; have f2 := q3.frozen 2; have f3 := q3.frozen 3; have f4 := q3.frozen 4; have f5 := q3.frozen 5; have b0 := q4.cell 0; have b1 := q4.cell 1; have b2 := q4.cell 2; have b3 := q4.cell 3; have b4 := q4.cell 4; have b5 := q4.cell 5; have g5 := q4.frozen 5; simp at a0 a1 a2 a3 a4 a5 b0 b1 b2 b3 b4 b5; clear q1 q2 q3 q4)
  refine bodyPost_ret (v := .agg #[.int .i64 8, .int .i64 2, .int .i64 (wrap64 (eb.tmod 4)), .int .i64 (wrap64 (fb.tmod 3)), .int .i64 (wrap64 (sb.tmod 3)), .slice (some ⟨w.heap.size + 3, 0, none⟩) 512 512]) ?_ rfl ?_
  · simp [results, Tryz.results6, go_sem, *]
  · have k : Kept (fun b => b = w.heap.size + 1 ∨ b = w.heap.size + 1 + 1) w1 (((((((w1.setCell ⟨w.heap.size + 1 + 1, 5, none⟩ (.slice (some ⟨w.heap.size + 3, 0, none⟩) 512 512)).setCell ⟨w.heap.size + 1, 0, none⟩ (.int .i64 8)).setCell ⟨w.heap.size + 1, 1, none⟩ (.int .i64 2)).setCell ⟨w.heap.size + 1, 2, none⟩ (.int .i64 (wrap64 (eb.tmod 4)))).setCell ⟨w.heap.size + 1, 3, none⟩ (.int .i64 (wrap64 (fb.tmod 3)))).setCell ⟨w.heap.size + 1, 4, none⟩ (.int .i64 (wrap64 (sb.tmod 3)))).setCell ⟨w.heap.size + 1, 5, none⟩ (.slice (some ⟨w.heap.size + 3, 0, none⟩) 512 512)) := by
      iterate 6 refine kset (S := fun b => b = w.heap.size + 1 ∨ b = w.heap.size + 1 + 1) ?_ (Or.inl rfl) _ _
      exact Kept.set (S := fun b => b = w.heap.size + 1 ∨ b = w.heap.size + 1 + 1) _ 5 _ (Or.inr rfl)
    exact MadeRet.mk (nb := 2) (w.heap.size + 3) (by omega) (Q1.out.kept k (by omega)) (Kept.none_below ((Kept.below Q2.out).trans (k.mono (fun b _ h => Or.inr (by omega)))))
end Go.Proofs.YtifajfjiloajfaaGreatDoor.OwnChip

/- Which cycles a mode has, a kind has, and what goes elsewhere has. No conditions. · Which cycles a kind has. No conditions. -/
import Derived.Test.YtifajfjiloajfaaGreatDoorPlan
import Derived.Laws.EntriesVeiled
namespace Go.Proofs.YtifajfjiloajfaaGreatDoor.OwnCpu
open Go.RowKit Go.Proofs.YtifajfjiloajfaaGreatDoor.Own Go.Proofs.YtifajfjiloajfaaGreatDoor.OwnEff Go.Proofs.YtifajfjiloajfaaGreatDoor.OwnAddr

/-- A plan that a call made and handed back. -/
def PlanRet (w : World) (pl : List (Nat × Nat)) (e : Ending) (w' : World) : Prop := ∃ v, e = .returned v ∧ PlanAt w' v pl ∧ Below w.heap.size w w' ∧ ∀ b, v.ownBlock = some b → w.heap.size ≤ b
theorem ret_lit {w W : World} (cs : Array Value) (pl : List (Nat × Nat)) (n : Nat) (hn : W.heap.size = n) (hB : Below w.heap.size w W) (hc : cs.toList = mcells pl) (hl : pl.length ≤ 1000) (k : Nat) (hk : pl.length = k) : PlanRet w pl (.returned (.slice (some ⟨n, 0, none⟩) k k)) (W.alloc (.cells cs 103)) := by
  subst hn
  subst hk
  refine ⟨_, rfl, PlanAt.lit cs pl hc hl, hB.alloc hB.size _, fun b hb => ?_⟩
  simp [Value.ownBlock] at hb
  subst hb
  exact hB.size
theorem ret_nil {w W : World} (hB : Below w.heap.size w W) : PlanRet w [] (.returned (.slice none 0 0)) W := ⟨_, rfl, PlanAt.nil, hB, fun b hb => by simp [Value.ownBlock] at hb⟩
def placesL (mode kind : Int) : List (Nat × Nat) :=
  if (kind == 1 || kind == 2 || kind == 3) = true then
    if (mode == 2) = true then [(55, 116)]
    else if (mode == 3) = true then [(55, 116), (117, 118)]
    else if (mode == 4) = true then [(55, 116), (117, 119)]
    else if (mode == 5) = true then [(55, 115), (55, 120)]
    else if (mode == 6) = true then [(55, 115), (55, 121)]
    else if (mode == 7) = true then [(55, 115), (55, 122)]
    else if (mode == 8) = true then [(55, 115), (123, 124), (123, 125), (126, 127)]
    else if (mode == 9) = true then [(55, 115), (123, 125), (126, 128)]
    else []
  else []
def interruptedL : List (Nat × Nat) := [(107, 54), (108, 54), (109, 110), (58, 59), (60, 61)]
theorem interrupted_any (w : World) : Calls Tryz.prog 94 #[] w (PlanRet w interruptedL) := by
  go_enter Tryz.func94, Tryz.ntmps94
  go_wp2
  go_ret
  exact ret_lit #[.func (.func 107) #[] #[], .func (.func 54) #[] #[], .func (.func 108) #[] #[], .func (.func 54) #[] #[], .func (.func 109) #[] #[], .func (.func 110) #[] #[], .func (.func 58) #[] #[], .func (.func 59) #[] #[], .func (.func 60) #[] #[], .func (.func 61) #[] #[]] [(107, 54), (108, 54), (109, 110), (58, 59), (60, 61)] _ rfl (Below.refl _ _) rfl (by decide) 5 rfl
theorem places_1_2 (n : ByteArray) (w : World) : Calls Tryz.prog 96 #[.agg #[.string n, .int .i64 2, .int .i64 1]] w (PlanRet w [(55, 116)]) := by
  have hB : Below w.heap.size w (((w.alloc (.cells #[.string n, .int .i64 2, .int .i64 1] 93)).alloc (.cells #[.func (.func 55) #[] #[], .func (.func 115) #[] #[]] 103)).alloc (.cells #[.func (.func 55) #[] #[], .func (.func 116) #[] #[]] 103)) := (((Below.refl _ w).alloc (Nat.le_refl _) _).alloc (by simp) _).alloc (by simp; omega) _
  have HB := Lib.hid hB
  clear hB
  go_enter Tryz.func96, Tryz.ntmps96
  go_wp2
  go_ret
  exact ret_lit #[.func (.func 55) #[] #[], .func (.func 116) #[] #[]] [(55, 116)] _ (by simp) HB.out rfl (by decide) 1 rfl
theorem places_1_3 (n : ByteArray) (w : World) : Calls Tryz.prog 96 #[.agg #[.string n, .int .i64 3, .int .i64 1]] w (PlanRet w [(55, 116), (117, 118)]) := by
  have hB : Below w.heap.size w (((w.alloc (.cells #[.string n, .int .i64 3, .int .i64 1] 93)).alloc (.cells #[.func (.func 55) #[] #[], .func (.func 115) #[] #[]] 103)).alloc (.cells #[.func (.func 55) #[] #[], .func (.func 116) #[] #[]] 103)) := (((Below.refl _ w).alloc (Nat.le_refl _) _).alloc (by simp) _).alloc (by simp; omega) _
  have HB := Lib.hid hB
  clear hB
  go_enter Tryz.func96, Tryz.ntmps96
  go_wp2
  go_ret
  exact ret_lit #[.func (.func 55) #[] #[], .func (.func 116) #[] #[], .func (.func 117) #[] #[], .func (.func 118) #[] #[]] [(55, 116), (117, 118)] _ (by simp) HB.out rfl (by decide) 2 rfl
theorem places_1_4 (n : ByteArray) (w : World) : Calls Tryz.prog 96 #[.agg #[.string n, .int .i64 4, .int .i64 1]] w (PlanRet w [(55, 116), (117, 119)]) := by
  have hB : Below w.heap.size w (((w.alloc (.cells #[.string n, .int .i64 4, .int .i64 1] 93)).alloc (.cells #[.func (.func 55) #[] #[], .func (.func 115) #[] #[]] 103)).alloc (.cells #[.func (.func 55) #[] #[], .func (.func 116) #[] #[]] 103)) := (((Below.refl _ w).alloc (Nat.le_refl _) _).alloc (by simp) _).alloc (by simp; omega) _
  have HB := Lib.hid hB
  clear hB
  go_enter Tryz.func96, Tryz.ntmps96
  go_wp2
  go_ret
  exact ret_lit #[.func (.func 55) #[] #[], .func (.func 116) #[] #[], .func (.func 117) #[] #[], .func (.func 119) #[] #[]] [(55, 116), (117, 119)] _ (by simp) HB.out rfl (by decide) 2 rfl
theorem places_1_5 (n : ByteArray) (w : World) : Calls Tryz.prog 96 #[.agg #[.string n, .int .i64 5, .int .i64 1]] w (PlanRet w [(55, 115), (55, 120)]) := by
  have hB : Below w.heap.size w (((w.alloc (.cells #[.string n, .int .i64 5, .int .i64 1] 93)).alloc (.cells #[.func (.func 55) #[] #[], .func (.func 115) #[] #[]] 103)).alloc (.cells #[.func (.func 55) #[] #[], .func (.func 116) #[] #[]] 103)) := (((Below.refl _ w).alloc (Nat.le_refl _) _).alloc (by simp) _).alloc (by simp; omega) _
  have HB := Lib.hid hB
  clear hB
  go_enter Tryz.func96, Tryz.ntmps96
  go_wp2
  go_ret
  exact ret_lit #[.func (.func 55) #[] #[], .func (.func 115) #[] #[], .func (.func 55) #[] #[], .func (.func 120) #[] #[]] [(55, 115), (55, 120)] _ (by simp) HB.out rfl (by decide) 2 rfl
theorem places_1_6 (n : ByteArray) (w : World) : Calls Tryz.prog 96 #[.agg #[.string n, .int .i64 6, .int .i64 1]] w (PlanRet w [(55, 115), (55, 121)]) := by
  have hB : Below w.heap.size w (((w.alloc (.cells #[.string n, .int .i64 6, .int .i64 1] 93)).alloc (.cells #[.func (.func 55) #[] #[], .func (.func 115) #[] #[]] 103)).alloc (.cells #[.func (.func 55) #[] #[], .func (.func 116) #[] #[]] 103)) := (((Below.refl _ w).alloc (Nat.le_refl _) _).alloc (by simp) _).alloc (by simp; omega) _
  have HB := Lib.hid hB
  clear hB
  go_enter Tryz.func96, Tryz.ntmps96
  go_wp2
  go_ret
  exact ret_lit #[.func (.func 55) #[] #[], .func (.func 115) #[] #[], .func (.func 55) #[] #[], .func (.func 121) #[] #[]] [(55, 115), (55, 121)] _ (by simp) HB.out rfl (by decide) 2 rfl
theorem places_1_7 (n : ByteArray) (w : World) : Calls Tryz.prog 96 #[.agg #[.string n, .int .i64 7, .int .i64 1]] w (PlanRet w [(55, 115), (55, 122)]) := by
  have hB : Below w.heap.size w (((w.alloc (.cells #[.string n, .int .i64 7, .int .i64 1] 93)).alloc (.cells #[.func (.func 55) #[] #[], .func (.func 115) #[] #[]] 103)).alloc (.cells #[.func (.func 55) #[] #[], .func (.func 116) #[] #[]] 103)) := (((Below.refl _ w).alloc (Nat.le_refl _) _).alloc (by simp) _).alloc (by simp; omega) _
  have HB := Lib.hid hB
  clear hB
  go_enter Tryz.func96, Tryz.ntmps96
  go_wp2
  go_ret
  exact ret_lit #[.func (.func 55) #[] #[], .func (.func 115) #[] #[], .func (.func 55) #[] #[], .func (.func 122) #[] #[]] [(55, 115), (55, 122)] _ (by simp) HB.out rfl (by decide) 2 rfl
theorem places_1_8 (n : ByteArray) (w : World) : Calls Tryz.prog 96 #[.agg #[.string n, .int .i64 8, .int .i64 1]] w (PlanRet w [(55, 115), (123, 124), (123, 125), (126, 127)]) := by
  have hB : Below w.heap.size w (((w.alloc (.cells #[.string n, .int .i64 8, .int .i64 1] 93)).alloc (.cells #[.func (.func 55) #[] #[], .func (.func 115) #[] #[]] 103)).alloc (.cells #[.func (.func 55) #[] #[], .func (.func 116) #[] #[]] 103)) := (((Below.refl _ w).alloc (Nat.le_refl _) _).alloc (by simp) _).alloc (by simp; omega) _
  have HB := Lib.hid hB
  clear hB
  go_enter Tryz.func96, Tryz.ntmps96
  go_wp2
  go_ret
  exact ret_lit #[.func (.func 55) #[] #[], .func (.func 115) #[] #[], .func (.func 123) #[] #[], .func (.func 124) #[] #[], .func (.func 123) #[] #[], .func (.func 125) #[] #[], .func (.func 126) #[] #[], .func (.func 127) #[] #[]] [(55, 115), (123, 124), (123, 125), (126, 127)] _ (by simp) HB.out rfl (by decide) 4 rfl
theorem places_1_9 (n : ByteArray) (w : World) : Calls Tryz.prog 96 #[.agg #[.string n, .int .i64 9, .int .i64 1]] w (PlanRet w [(55, 115), (123, 125), (126, 128)]) := by
  have hB : Below w.heap.size w (((w.alloc (.cells #[.string n, .int .i64 9, .int .i64 1] 93)).alloc (.cells #[.func (.func 55) #[] #[], .func (.func 115) #[] #[]] 103)).alloc (.cells #[.func (.func 55) #[] #[], .func (.func 116) #[] #[]] 103)) := (((Below.refl _ w).alloc (Nat.le_refl _) _).alloc (by simp) _).alloc (by simp; omega) _
  have HB := Lib.hid hB
  clear hB
  go_enter Tryz.func96, Tryz.ntmps96
  go_wp2
  go_ret
  exact ret_lit #[.func (.func 55) #[] #[], .func (.func 115) #[] #[], .func (.func 123) #[] #[], .func (.func 125) #[] #[], .func (.func 126) #[] #[], .func (.func 128) #[] #[]] [(55, 115), (123, 125), (126, 128)] _ (by simp) HB.out rfl (by decide) 3 rfl
theorem places_1_no (n : ByteArray) (mode : Int) (w : World) (m2 : (mode == 2) = false) (m3 : (mode == 3) = false) (m4 : (mode == 4) = false) (m5 : (mode == 5) = false) (m6 : (mode == 6) = false) (m7 : (mode == 7) = false) (m8 : (mode == 8) = false) (m9 : (mode == 9) = false) : Calls Tryz.prog 96 #[.agg #[.string n, .int .i64 mode, .int .i64 1]] w (PlanRet w []) := by
  have hB : Below w.heap.size w (((w.alloc (.cells #[.string n, .int .i64 mode, .int .i64 1] 93)).alloc (.cells #[.func (.func 55) #[] #[], .func (.func 115) #[] #[]] 103)).alloc (.cells #[.func (.func 55) #[] #[], .func (.func 116) #[] #[]] 103)) := (((Below.refl _ w).alloc (Nat.le_refl _) _).alloc (by simp) _).alloc (by simp; omega) _
  have HB := Lib.hid hB
  clear hB
  go_enter Tryz.func96, Tryz.ntmps96
  go_wp2
  go_ret
  exact ret_nil HB.out
theorem places_2_2 (n : ByteArray) (w : World) : Calls Tryz.prog 96 #[.agg #[.string n, .int .i64 2, .int .i64 2]] w (PlanRet w [(55, 116)]) := by
  have hB : Below w.heap.size w (((w.alloc (.cells #[.string n, .int .i64 2, .int .i64 2] 93)).alloc (.cells #[.func (.func 55) #[] #[], .func (.func 115) #[] #[]] 103)).alloc (.cells #[.func (.func 55) #[] #[], .func (.func 116) #[] #[]] 103)) := (((Below.refl _ w).alloc (Nat.le_refl _) _).alloc (by simp) _).alloc (by simp; omega) _
  have HB := Lib.hid hB
  clear hB
  go_enter Tryz.func96, Tryz.ntmps96
  go_wp2
  go_ret
  exact ret_lit #[.func (.func 55) #[] #[], .func (.func 116) #[] #[]] [(55, 116)] _ (by simp) HB.out rfl (by decide) 1 rfl
theorem places_2_3 (n : ByteArray) (w : World) : Calls Tryz.prog 96 #[.agg #[.string n, .int .i64 3, .int .i64 2]] w (PlanRet w [(55, 116), (117, 118)]) := by
  have hB : Below w.heap.size w (((w.alloc (.cells #[.string n, .int .i64 3, .int .i64 2] 93)).alloc (.cells #[.func (.func 55) #[] #[], .func (.func 115) #[] #[]] 103)).alloc (.cells #[.func (.func 55) #[] #[], .func (.func 116) #[] #[]] 103)) := (((Below.refl _ w).alloc (Nat.le_refl _) _).alloc (by simp) _).alloc (by simp; omega) _
  have HB := Lib.hid hB
  clear hB
  go_enter Tryz.func96, Tryz.ntmps96
  go_wp2
  go_ret
  exact ret_lit #[.func (.func 55) #[] #[], .func (.func 116) #[] #[], .func (.func 117) #[] #[], .func (.func 118) #[] #[]] [(55, 116), (117, 118)] _ (by simp) HB.out rfl (by decide) 2 rfl
theorem places_2_4 (n : ByteArray) (w : World) : Calls Tryz.prog 96 #[.agg #[.string n, .int .i64 4, .int .i64 2]] w (PlanRet w [(55, 116), (117, 119)]) := by
  have hB : Below w.heap.size w (((w.alloc (.cells #[.string n, .int .i64 4, .int .i64 2] 93)).alloc (.cells #[.func (.func 55) #[] #[], .func (.func 115) #[] #[]] 103)).alloc (.cells #[.func (.func 55) #[] #[], .func (.func 116) #[] #[]] 103)) := (((Below.refl _ w).alloc (Nat.le_refl _) _).alloc (by simp) _).alloc (by simp; omega) _
  have HB := Lib.hid hB
  clear hB
  go_enter Tryz.func96, Tryz.ntmps96
  go_wp2
  go_ret
  exact ret_lit #[.func (.func 55) #[] #[], .func (.func 116) #[] #[], .func (.func 117) #[] #[], .func (.func 119) #[] #[]] [(55, 116), (117, 119)] _ (by simp) HB.out rfl (by decide) 2 rfl
theorem places_2_5 (n : ByteArray) (w : World) : Calls Tryz.prog 96 #[.agg #[.string n, .int .i64 5, .int .i64 2]] w (PlanRet w [(55, 115), (55, 120)]) := by
  have hB : Below w.heap.size w (((w.alloc (.cells #[.string n, .int .i64 5, .int .i64 2] 93)).alloc (.cells #[.func (.func 55) #[] #[], .func (.func 115) #[] #[]] 103)).alloc (.cells #[.func (.func 55) #[] #[], .func (.func 116) #[] #[]] 103)) := (((Below.refl _ w).alloc (Nat.le_refl _) _).alloc (by simp) _).alloc (by simp; omega) _
  have HB := Lib.hid hB
  clear hB
  go_enter Tryz.func96, Tryz.ntmps96
  go_wp2
  go_ret
  exact ret_lit #[.func (.func 55) #[] #[], .func (.func 115) #[] #[], .func (.func 55) #[] #[], .func (.func 120) #[] #[]] [(55, 115), (55, 120)] _ (by simp) HB.out rfl (by decide) 2 rfl
theorem places_2_6 (n : ByteArray) (w : World) : Calls Tryz.prog 96 #[.agg #[.string n, .int .i64 6, .int .i64 2]] w (PlanRet w [(55, 115), (55, 121)]) := by
  have hB : Below w.heap.size w (((w.alloc (.cells #[.string n, .int .i64 6, .int .i64 2] 93)).alloc (.cells #[.func (.func 55) #[] #[], .func (.func 115) #[] #[]] 103)).alloc (.cells #[.func (.func 55) #[] #[], .func (.func 116) #[] #[]] 103)) := (((Below.refl _ w).alloc (Nat.le_refl _) _).alloc (by simp) _).alloc (by simp; omega) _
  have HB := Lib.hid hB
  clear hB
  go_enter Tryz.func96, Tryz.ntmps96
  go_wp2
  go_ret
  exact ret_lit #[.func (.func 55) #[] #[], .func (.func 115) #[] #[], .func (.func 55) #[] #[], .func (.func 121) #[] #[]] [(55, 115), (55, 121)] _ (by simp) HB.out rfl (by decide) 2 rfl
theorem places_2_7 (n : ByteArray) (w : World) : Calls Tryz.prog 96 #[.agg #[.string n, .int .i64 7, .int .i64 2]] w (PlanRet w [(55, 115), (55, 122)]) := by
  have hB : Below w.heap.size w (((w.alloc (.cells #[.string n, .int .i64 7, .int .i64 2] 93)).alloc (.cells #[.func (.func 55) #[] #[], .func (.func 115) #[] #[]] 103)).alloc (.cells #[.func (.func 55) #[] #[], .func (.func 116) #[] #[]] 103)) := (((Below.refl _ w).alloc (Nat.le_refl _) _).alloc (by simp) _).alloc (by simp; omega) _
  have HB := Lib.hid hB
  clear hB
  go_enter Tryz.func96, Tryz.ntmps96
  go_wp2
  go_ret
  exact ret_lit #[.func (.func 55) #[] #[], .func (.func 115) #[] #[], .func (.func 55) #[] #[], .func (.func 122) #[] #[]] [(55, 115), (55, 122)] _ (by simp) HB.out rfl (by decide) 2 rfl
theorem places_2_8 (n : ByteArray) (w : World) : Calls Tryz.prog 96 #[.agg #[.string n, .int .i64 8, .int .i64 2]] w (PlanRet w [(55, 115), (123, 124), (123, 125), (126, 127)]) := by
  have hB : Below w.heap.size w (((w.alloc (.cells #[.string n, .int .i64 8, .int .i64 2] 93)).alloc (.cells #[.func (.func 55) #[] #[], .func (.func 115) #[] #[]] 103)).alloc (.cells #[.func (.func 55) #[] #[], .func (.func 116) #[] #[]] 103)) := (((Below.refl _ w).alloc (Nat.le_refl _) _).alloc (by simp) _).alloc (by simp; omega) _
  have HB := Lib.hid hB
  clear hB
  go_enter Tryz.func96, Tryz.ntmps96
  go_wp2
  go_ret
  exact ret_lit #[.func (.func 55) #[] #[], .func (.func 115) #[] #[], .func (.func 123) #[] #[], .func (.func 124) #[] #[], .func (.func 123) #[] #[], .func (.func 125) #[] #[], .func (.func 126) #[] #[], .func (.func 127) #[] #[]] [(55, 115), (123, 124), (123, 125), (126, 127)] _ (by simp) HB.out rfl (by decide) 4 rfl
theorem places_2_9 (n : ByteArray) (w : World) : Calls Tryz.prog 96 #[.agg #[.string n, .int .i64 9, .int .i64 2]] w (PlanRet w [(55, 115), (123, 125), (126, 128)]) := by
  have hB : Below w.heap.size w (((w.alloc (.cells #[.string n, .int .i64 9, .int .i64 2] 93)).alloc (.cells #[.func (.func 55) #[] #[], .func (.func 115) #[] #[]] 103)).alloc (.cells #[.func (.func 55) #[] #[], .func (.func 116) #[] #[]] 103)) := (((Below.refl _ w).alloc (Nat.le_refl _) _).alloc (by simp) _).alloc (by simp; omega) _
  have HB := Lib.hid hB
  clear hB
  go_enter Tryz.func96, Tryz.ntmps96
  go_wp2
  go_ret
  exact ret_lit #[.func (.func 55) #[] #[], .func (.func 115) #[] #[], .func (.func 123) #[] #[], .func (.func 125) #[] #[], .func (.func 126) #[] #[], .func (.func 128) #[] #[]] [(55, 115), (123, 125), (126, 128)] _ (by simp) HB.out rfl (by decide) 3 rfl
theorem places_2_no (n : ByteArray) (mode : Int) (w : World) (m2 : (mode == 2) = false) (m3 : (mode == 3) = false) (m4 : (mode == 4) = false) (m5 : (mode == 5) = false) (m6 : (mode == 6) = false) (m7 : (mode == 7) = false) (m8 : (mode == 8) = false) (m9 : (mode == 9) = false) : Calls Tryz.prog 96 #[.agg #[.string n, .int .i64 mode, .int .i64 2]] w (PlanRet w []) := by
  have hB : Below w.heap.size w (((w.alloc (.cells #[.string n, .int .i64 mode, .int .i64 2] 93)).alloc (.cells #[.func (.func 55) #[] #[], .func (.func 115) #[] #[]] 103)).alloc (.cells #[.func (.func 55) #[] #[], .func (.func 116) #[] #[]] 103)) := (((Below.refl _ w).alloc (Nat.le_refl _) _).alloc (by simp) _).alloc (by simp; omega) _
  have HB := Lib.hid hB
  clear hB
  go_enter Tryz.func96, Tryz.ntmps96
  go_wp2
  go_ret
  exact ret_nil HB.out
theorem places_3_2 (n : ByteArray) (w : World) : Calls Tryz.prog 96 #[.agg #[.string n, .int .i64 2, .int .i64 3]] w (PlanRet w [(55, 116)]) := by
  have hB : Below w.heap.size w (((w.alloc (.cells #[.string n, .int .i64 2, .int .i64 3] 93)).alloc (.cells #[.func (.func 55) #[] #[], .func (.func 115) #[] #[]] 103)).alloc (.cells #[.func (.func 55) #[] #[], .func (.func 116) #[] #[]] 103)) := (((Below.refl _ w).alloc (Nat.le_refl _) _).alloc (by simp) _).alloc (by simp; omega) _
  have HB := Lib.hid hB
  clear hB
  go_enter Tryz.func96, Tryz.ntmps96
  go_wp2
  go_ret
  exact ret_lit #[.func (.func 55) #[] #[], .func (.func 116) #[] #[]] [(55, 116)] _ (by simp) HB.out rfl (by decide) 1 rfl
theorem places_3_3 (n : ByteArray) (w : World) : Calls Tryz.prog 96 #[.agg #[.string n, .int .i64 3, .int .i64 3]] w (PlanRet w [(55, 116), (117, 118)]) := by
  have hB : Below w.heap.size w (((w.alloc (.cells #[.string n, .int .i64 3, .int .i64 3] 93)).alloc (.cells #[.func (.func 55) #[] #[], .func (.func 115) #[] #[]] 103)).alloc (.cells #[.func (.func 55) #[] #[], .func (.func 116) #[] #[]] 103)) := (((Below.refl _ w).alloc (Nat.le_refl _) _).alloc (by simp) _).alloc (by simp; omega) _
  have HB := Lib.hid hB
  clear hB
  go_enter Tryz.func96, Tryz.ntmps96
  go_wp2
  go_ret
  exact ret_lit #[.func (.func 55) #[] #[], .func (.func 116) #[] #[], .func (.func 117) #[] #[], .func (.func 118) #[] #[]] [(55, 116), (117, 118)] _ (by simp) HB.out rfl (by decide) 2 rfl
theorem places_3_4 (n : ByteArray) (w : World) : Calls Tryz.prog 96 #[.agg #[.string n, .int .i64 4, .int .i64 3]] w (PlanRet w [(55, 116), (117, 119)]) := by
  have hB : Below w.heap.size w (((w.alloc (.cells #[.string n, .int .i64 4, .int .i64 3] 93)).alloc (.cells #[.func (.func 55) #[] #[], .func (.func 115) #[] #[]] 103)).alloc (.cells #[.func (.func 55) #[] #[], .func (.func 116) #[] #[]] 103)) := (((Below.refl _ w).alloc (Nat.le_refl _) _).alloc (by simp) _).alloc (by simp; omega) _
  have HB := Lib.hid hB
  clear hB
  go_enter Tryz.func96, Tryz.ntmps96
  go_wp2
  go_ret
  exact ret_lit #[.func (.func 55) #[] #[], .func (.func 116) #[] #[], .func (.func 117) #[] #[], .func (.func 119) #[] #[]] [(55, 116), (117, 119)] _ (by simp) HB.out rfl (by decide) 2 rfl
theorem places_3_5 (n : ByteArray) (w : World) : Calls Tryz.prog 96 #[.agg #[.string n, .int .i64 5, .int .i64 3]] w (PlanRet w [(55, 115), (55, 120)]) := by
  have hB : Below w.heap.size w (((w.alloc (.cells #[.string n, .int .i64 5, .int .i64 3] 93)).alloc (.cells #[.func (.func 55) #[] #[], .func (.func 115) #[] #[]] 103)).alloc (.cells #[.func (.func 55) #[] #[], .func (.func 116) #[] #[]] 103)) := (((Below.refl _ w).alloc (Nat.le_refl _) _).alloc (by simp) _).alloc (by simp; omega) _
  have HB := Lib.hid hB
  clear hB
  go_enter Tryz.func96, Tryz.ntmps96
  go_wp2
  go_ret
  exact ret_lit #[.func (.func 55) #[] #[], .func (.func 115) #[] #[], .func (.func 55) #[] #[], .func (.func 120) #[] #[]] [(55, 115), (55, 120)] _ (by simp) HB.out rfl (by decide) 2 rfl
theorem places_3_6 (n : ByteArray) (w : World) : Calls Tryz.prog 96 #[.agg #[.string n, .int .i64 6, .int .i64 3]] w (PlanRet w [(55, 115), (55, 121)]) := by
  have hB : Below w.heap.size w (((w.alloc (.cells #[.string n, .int .i64 6, .int .i64 3] 93)).alloc (.cells #[.func (.func 55) #[] #[], .func (.func 115) #[] #[]] 103)).alloc (.cells #[.func (.func 55) #[] #[], .func (.func 116) #[] #[]] 103)) := (((Below.refl _ w).alloc (Nat.le_refl _) _).alloc (by simp) _).alloc (by simp; omega) _
  have HB := Lib.hid hB
  clear hB
  go_enter Tryz.func96, Tryz.ntmps96
  go_wp2
  go_ret
  exact ret_lit #[.func (.func 55) #[] #[], .func (.func 115) #[] #[], .func (.func 55) #[] #[], .func (.func 121) #[] #[]] [(55, 115), (55, 121)] _ (by simp) HB.out rfl (by decide) 2 rfl
theorem places_3_7 (n : ByteArray) (w : World) : Calls Tryz.prog 96 #[.agg #[.string n, .int .i64 7, .int .i64 3]] w (PlanRet w [(55, 115), (55, 122)]) := by
  have hB : Below w.heap.size w (((w.alloc (.cells #[.string n, .int .i64 7, .int .i64 3] 93)).alloc (.cells #[.func (.func 55) #[] #[], .func (.func 115) #[] #[]] 103)).alloc (.cells #[.func (.func 55) #[] #[], .func (.func 116) #[] #[]] 103)) := (((Below.refl _ w).alloc (Nat.le_refl _) _).alloc (by simp) _).alloc (by simp; omega) _
  have HB := Lib.hid hB
  clear hB
  go_enter Tryz.func96, Tryz.ntmps96
  go_wp2
  go_ret
  exact ret_lit #[.func (.func 55) #[] #[], .func (.func 115) #[] #[], .func (.func 55) #[] #[], .func (.func 122) #[] #[]] [(55, 115), (55, 122)] _ (by simp) HB.out rfl (by decide) 2 rfl
theorem places_3_8 (n : ByteArray) (w : World) : Calls Tryz.prog 96 #[.agg #[.string n, .int .i64 8, .int .i64 3]] w (PlanRet w [(55, 115), (123, 124), (123, 125), (126, 127)]) := by
  have hB : Below w.heap.size w (((w.alloc (.cells #[.string n, .int .i64 8, .int .i64 3] 93)).alloc (.cells #[.func (.func 55) #[] #[], .func (.func 115) #[] #[]] 103)).alloc (.cells #[.func (.func 55) #[] #[], .func (.func 116) #[] #[]] 103)) := (((Below.refl _ w).alloc (Nat.le_refl _) _).alloc (by simp) _).alloc (by simp; omega) _
  have HB := Lib.hid hB
  clear hB
  go_enter Tryz.func96, Tryz.ntmps96
  go_wp2
  go_ret
  exact ret_lit #[.func (.func 55) #[] #[], .func (.func 115) #[] #[], .func (.func 123) #[] #[], .func (.func 124) #[] #[], .func (.func 123) #[] #[], .func (.func 125) #[] #[], .func (.func 126) #[] #[], .func (.func 127) #[] #[]] [(55, 115), (123, 124), (123, 125), (126, 127)] _ (by simp) HB.out rfl (by decide) 4 rfl
theorem places_3_9 (n : ByteArray) (w : World) : Calls Tryz.prog 96 #[.agg #[.string n, .int .i64 9, .int .i64 3]] w (PlanRet w [(55, 115), (123, 125), (126, 128)]) := by
  have hB : Below w.heap.size w (((w.alloc (.cells #[.string n, .int .i64 9, .int .i64 3] 93)).alloc (.cells #[.func (.func 55) #[] #[], .func (.func 115) #[] #[]] 103)).alloc (.cells #[.func (.func 55) #[] #[], .func (.func 116) #[] #[]] 103)) := (((Below.refl _ w).alloc (Nat.le_refl _) _).alloc (by simp) _).alloc (by simp; omega) _
  have HB := Lib.hid hB
  clear hB
  go_enter Tryz.func96, Tryz.ntmps96
  go_wp2
  go_ret
  exact ret_lit #[.func (.func 55) #[] #[], .func (.func 115) #[] #[], .func (.func 123) #[] #[], .func (.func 125) #[] #[], .func (.func 126) #[] #[], .func (.func 128) #[] #[]] [(55, 115), (123, 125), (126, 128)] _ (by simp) HB.out rfl (by decide) 3 rfl
theorem places_3_no (n : ByteArray) (mode : Int) (w : World) (m2 : (mode == 2) = false) (m3 : (mode == 3) = false) (m4 : (mode == 4) = false) (m5 : (mode == 5) = false) (m6 : (mode == 6) = false) (m7 : (mode == 7) = false) (m8 : (mode == 8) = false) (m9 : (mode == 9) = false) : Calls Tryz.prog 96 #[.agg #[.string n, .int .i64 mode, .int .i64 3]] w (PlanRet w []) := by
  have hB : Below w.heap.size w (((w.alloc (.cells #[.string n, .int .i64 mode, .int .i64 3] 93)).alloc (.cells #[.func (.func 55) #[] #[], .func (.func 115) #[] #[]] 103)).alloc (.cells #[.func (.func 55) #[] #[], .func (.func 116) #[] #[]] 103)) := (((Below.refl _ w).alloc (Nat.le_refl _) _).alloc (by simp) _).alloc (by simp; omega) _
  have HB := Lib.hid hB
  clear hB
  go_enter Tryz.func96, Tryz.ntmps96
  go_wp2
  go_ret
  exact ret_nil HB.out
theorem places_no (n : ByteArray) (mode kind : Int) (w : World) (k1 : (kind != 1) = true) (k2 : (kind != 2) = true) (k3 : (kind != 3) = true) : Calls Tryz.prog 96 #[.agg #[.string n, .int .i64 mode, .int .i64 kind]] w (PlanRet w []) := by
  have hB : Below w.heap.size w (((w.alloc (.cells #[.string n, .int .i64 mode, .int .i64 kind] 93)).alloc (.cells #[.func (.func 55) #[] #[], .func (.func 115) #[] #[]] 103)).alloc (.cells #[.func (.func 55) #[] #[], .func (.func 116) #[] #[]] 103)) := (((Below.refl _ w).alloc (Nat.le_refl _) _).alloc (by simp) _).alloc (by simp; omega) _
  have HB := Lib.hid hB
  clear hB
  go_enter Tryz.func96, Tryz.ntmps96
  go_wp2
  go_ret
  exact ret_nil HB.out
theorem places_any (n : ByteArray) (mode kind : Int) (w : World) : Calls Tryz.prog 96 #[.agg #[.string n, .int .i64 mode, .int .i64 kind]] w (PlanRet w (placesL mode kind)) := by
  by_cases k1 : kind = 1
  · subst k1
    by_cases m2 : mode = 2
    · subst m2; exact places_1_2 n w
    by_cases m3 : mode = 3
    · subst m3; exact places_1_3 n w
    by_cases m4 : mode = 4
    · subst m4; exact places_1_4 n w
    by_cases m5 : mode = 5
    · subst m5; exact places_1_5 n w
    by_cases m6 : mode = 6
    · subst m6; exact places_1_6 n w
    by_cases m7 : mode = 7
    · subst m7; exact places_1_7 n w
    by_cases m8 : mode = 8
    · subst m8; exact places_1_8 n w
    by_cases m9 : mode = 9
    · subst m9; exact places_1_9 n w
    have e : placesL mode 1 = [] := by simp [placesL, m2, m3, m4, m5, m6, m7, m8, m9]
    rw [e]
    exact places_1_no n mode w (by simp [m2]) (by simp [m3]) (by simp [m4]) (by simp [m5]) (by simp [m6]) (by simp [m7]) (by simp [m8]) (by simp [m9])
  by_cases k2 : kind = 2
  · subst k2
    by_cases m2 : mode = 2
    · subst m2; exact places_2_2 n w
    by_cases m3 : mode = 3
    · subst m3; exact places_2_3 n w
    by_cases m4 : mode = 4
    · subst m4; exact places_2_4 n w
    by_cases m5 : mode = 5
    · subst m5; exact places_2_5 n w
    by_cases m6 : mode = 6
    · subst m6; exact places_2_6 n w
    by_cases m7 : mode = 7
    · subst m7; exact places_2_7 n w
    by_cases m8 : mode = 8
    · subst m8; exact places_2_8 n w
    by_cases m9 : mode = 9
    · subst m9; exact places_2_9 n w
    have e : placesL mode 2 = [] := by simp [placesL, m2, m3, m4, m5, m6, m7, m8, m9]
    rw [e]
    exact places_2_no n mode w (by simp [m2]) (by simp [m3]) (by simp [m4]) (by simp [m5]) (by simp [m6]) (by simp [m7]) (by simp [m8]) (by simp [m9])
  by_cases k3 : kind = 3
  · subst k3
    by_cases m2 : mode = 2
    · subst m2; exact places_3_2 n w
    by_cases m3 : mode = 3
    · subst m3; exact places_3_3 n w
    by_cases m4 : mode = 4
    · subst m4; exact places_3_4 n w
    by_cases m5 : mode = 5
    · subst m5; exact places_3_5 n w
    by_cases m6 : mode = 6
    · subst m6; exact places_3_6 n w
    by_cases m7 : mode = 7
    · subst m7; exact places_3_7 n w
    by_cases m8 : mode = 8
    · subst m8; exact places_3_8 n w
    by_cases m9 : mode = 9
    · subst m9; exact places_3_9 n w
    have e : placesL mode 3 = [] := by simp [placesL, m2, m3, m4, m5, m6, m7, m8, m9]
    rw [e]
    exact places_3_no n mode w (by simp [m2]) (by simp [m3]) (by simp [m4]) (by simp [m5]) (by simp [m6]) (by simp [m7]) (by simp [m8]) (by simp [m9])
  have e : placesL mode kind = [] := by simp [placesL, k1, k2, k3]
  rw [e]
  exact places_no n mode kind w (by simp [k1]) (by simp [k2]) (by simp [k3])
end Go.Proofs.YtifajfjiloajfaaGreatDoor.OwnCpu
namespace Go.Proofs.YtifajfjiloajfaaGreatDoor.OwnCpu
open Go.RowKit Go.Proofs.YtifajfjiloajfaaGreatDoor.Own Go.Proofs.YtifajfjiloajfaaGreatDoor.OwnEff Go.Proofs.YtifajfjiloajfaaGreatDoor.OwnAddr

theorem interrupted_x (w : World) : Calls Tryz.prog 94 #[] w fun e w' => e = .returned (.slice (some ⟨w.heap.size, 0, none⟩) 5 5) ∧ w.alloc (.cells #[.func (.func 107) #[] #[], .func (.func 54) #[] #[], .func (.func 108) #[] #[], .func (.func 54) #[] #[], .func (.func 109) #[] #[], .func (.func 110) #[] #[], .func (.func 58) #[] #[], .func (.func 59) #[] #[], .func (.func 60) #[] #[], .func (.func 61) #[] #[]] 103) = w' := by
  go_enter Tryz.func94, Tryz.ntmps94
  go_wp2
  go_ret
  exact ⟨rfl, rfl⟩
theorem ret_grown {w W w1 : World} {pl : List (Nat × Nat)} {v v' : Value} (hB : Below w.heap.size w W) (hv : ∀ b, v.ownBlock = some b → w.heap.size ≤ b) (hP : PlanAt w1 v' pl) (hg : W.grownBy w1 v.ownBlock) (hat : v'.ownBlock = v.ownBlock ∨ v'.ownBlock = some W.heap.size) : PlanRet w pl (.returned v') w1 := by
  refine ⟨_, rfl, hP, hB.trans ⟨hg.os, hg.tape, hg.output, hg.size, fun k hk => hg.block k (Nat.lt_of_lt_of_le hk hB.size) (fun e => ?_)⟩, fun b hb => ?_⟩
  · have := hv k e.symm
    omega
  · rcases hat with h | h
    · exact hv b (h ▸ hb)
    · rw [h] at hb
      simp at hb
      subst hb
      exact hB.size
def flowsL (n : List UInt8) (mode : Int) : List (Nat × Nat) :=
  if (n == [74, 77, 80]) = true then (if (mode == 5) = true then [(55, 115), (55, 61)] else [(55, 115), (55, 120), (117, 59), (171, 61)])
  else if (n == [74, 83, 82]) = true then [(55, 115), (53, 56), (107, 54), (108, 54), (55, 61)]
  else if (n == [82, 84, 83]) = true then [(55, 56), (53, 132), (53, 172), (53, 61), (55, 173)]
  else if (n == [82, 84, 73]) = true then [(55, 56), (53, 132), (53, 174), (53, 172), (53, 61)]
  else (55, 173) :: interruptedL
def roughL (mode : Int) : List (Nat × Nat) := if (mode == 6 || mode == 7 || mode == 9) = true then [(129, 56)] else []
def doesL (n : List UInt8) (mode kind : Int) : List (Nat × Nat) :=
  if (kind == 0) = true then [(55, 130)]
  else if (kind == 6) = true then [(55, 56), (131, 54)]
  else if (kind == 7) = true then [(55, 56), (53, 132), (53, 133)]
  else if (kind == 4) = true then [(55, 134)]
  else if (kind == 8) = true then [(55, 135), (136, 137)]
  else if (kind == 2) = true then roughL mode ++ [(138, 139)]
  else if (kind == 3) = true then roughL mode ++ [(117, 140), (141, 56), (142, 143)]
  else if (kind == 5) = true then flowsL n mode
  else if (mode == 1) = true then [(55, 145)]
  else if (mode == 6 || mode == 7 || mode == 9) = true then [(129, 146)]
  else [(117, 147)]
theorem flows_JMP5 (kind : Int) (w : World) : Calls Tryz.prog 144 #[.agg #[.string ⟨#[74, 77, 80]⟩, .int .i64 5, .int .i64 kind]] w (PlanRet w [(55, 115), (55, 61)]) := by
  have HB : Hid (Below w.heap.size w ((((w.alloc (.cells #[.string ⟨#[74, 77, 80]⟩, .int .i64 5, .int .i64 kind] 93)).alloc (.cells #[.func (.func 55) #[] #[], .func (.func 56) #[] #[]] 103)).alloc (.cells #[.func (.func 55) #[] #[], .func (.func 115) #[] #[]] 103)).alloc (.cells #[.func (.func 53) #[] #[], .func (.func 132) #[] #[]] 103))) := Lib.hid (Below.alloc (Below.alloc (Below.alloc ((Below.refl _ w).alloc (Nat.le_refl _) _) (by simp) _) (by simp; omega) _) (by simp; omega) _)
  go_enter Tryz.func144, Tryz.ntmps144
  go_wp2
  go_ret
  exact ret_lit #[.func (.func 55) #[] #[], .func (.func 115) #[] #[], .func (.func 55) #[] #[], .func (.func 61) #[] #[]] [(55, 115), (55, 61)] _ (by simp) HB.out rfl (by decide) 2 rfl
theorem flows_JMP (mode kind : Int) (hm : (mode == 5) = false) (w : World) : Calls Tryz.prog 144 #[.agg #[.string ⟨#[74, 77, 80]⟩, .int .i64 mode, .int .i64 kind]] w (PlanRet w [(55, 115), (55, 120), (117, 59), (171, 61)]) := by
  have HB : Hid (Below w.heap.size w ((((w.alloc (.cells #[.string ⟨#[74, 77, 80]⟩, .int .i64 mode, .int .i64 kind] 93)).alloc (.cells #[.func (.func 55) #[] #[], .func (.func 56) #[] #[]] 103)).alloc (.cells #[.func (.func 55) #[] #[], .func (.func 115) #[] #[]] 103)).alloc (.cells #[.func (.func 53) #[] #[], .func (.func 132) #[] #[]] 103))) := Lib.hid (Below.alloc (Below.alloc (Below.alloc ((Below.refl _ w).alloc (Nat.le_refl _) _) (by simp) _) (by simp; omega) _) (by simp; omega) _)
  go_enter Tryz.func144, Tryz.ntmps144
  go_wp2
  go_ret
  exact ret_lit #[.func (.func 55) #[] #[], .func (.func 115) #[] #[], .func (.func 55) #[] #[], .func (.func 120) #[] #[], .func (.func 117) #[] #[], .func (.func 59) #[] #[], .func (.func 171) #[] #[], .func (.func 61) #[] #[]] [(55, 115), (55, 120), (117, 59), (171, 61)] _ (by simp) HB.out rfl (by decide) 4 rfl
theorem flows_JSR (mode kind : Int) (w : World) : Calls Tryz.prog 144 #[.agg #[.string ⟨#[74, 83, 82]⟩, .int .i64 mode, .int .i64 kind]] w (PlanRet w [(55, 115), (53, 56), (107, 54), (108, 54), (55, 61)]) := by
  have HB : Hid (Below w.heap.size w ((((w.alloc (.cells #[.string ⟨#[74, 83, 82]⟩, .int .i64 mode, .int .i64 kind] 93)).alloc (.cells #[.func (.func 55) #[] #[], .func (.func 56) #[] #[]] 103)).alloc (.cells #[.func (.func 55) #[] #[], .func (.func 115) #[] #[]] 103)).alloc (.cells #[.func (.func 53) #[] #[], .func (.func 132) #[] #[]] 103))) := Lib.hid (Below.alloc (Below.alloc (Below.alloc ((Below.refl _ w).alloc (Nat.le_refl _) _) (by simp) _) (by simp; omega) _) (by simp; omega) _)
  go_enter Tryz.func144, Tryz.ntmps144
  go_wp2
  go_ret
  exact ret_lit #[.func (.func 55) #[] #[], .func (.func 115) #[] #[], .func (.func 53) #[] #[], .func (.func 56) #[] #[], .func (.func 107) #[] #[], .func (.func 54) #[] #[], .func (.func 108) #[] #[], .func (.func 54) #[] #[], .func (.func 55) #[] #[], .func (.func 61) #[] #[]] [(55, 115), (53, 56), (107, 54), (108, 54), (55, 61)] _ (by simp) HB.out rfl (by decide) 5 rfl
theorem flows_RTS (mode kind : Int) (w : World) : Calls Tryz.prog 144 #[.agg #[.string ⟨#[82, 84, 83]⟩, .int .i64 mode, .int .i64 kind]] w (PlanRet w [(55, 56), (53, 132), (53, 172), (53, 61), (55, 173)]) := by
  have HB : Hid (Below w.heap.size w ((((w.alloc (.cells #[.string ⟨#[82, 84, 83]⟩, .int .i64 mode, .int .i64 kind] 93)).alloc (.cells #[.func (.func 55) #[] #[], .func (.func 56) #[] #[]] 103)).alloc (.cells #[.func (.func 55) #[] #[], .func (.func 115) #[] #[]] 103)).alloc (.cells #[.func (.func 53) #[] #[], .func (.func 132) #[] #[]] 103))) := Lib.hid (Below.alloc (Below.alloc (Below.alloc ((Below.refl _ w).alloc (Nat.le_refl _) _) (by simp) _) (by simp; omega) _) (by simp; omega) _)
  go_enter Tryz.func144, Tryz.ntmps144
  go_wp2
  go_ret
  exact ret_lit #[.func (.func 55) #[] #[], .func (.func 56) #[] #[], .func (.func 53) #[] #[], .func (.func 132) #[] #[], .func (.func 53) #[] #[], .func (.func 172) #[] #[], .func (.func 53) #[] #[], .func (.func 61) #[] #[], .func (.func 55) #[] #[], .func (.func 173) #[] #[]] [(55, 56), (53, 132), (53, 172), (53, 61), (55, 173)] _ (by simp) HB.out rfl (by decide) 5 rfl
theorem flows_RTI (mode kind : Int) (w : World) : Calls Tryz.prog 144 #[.agg #[.string ⟨#[82, 84, 73]⟩, .int .i64 mode, .int .i64 kind]] w (PlanRet w [(55, 56), (53, 132), (53, 174), (53, 172), (53, 61)]) := by
  have HB : Hid (Below w.heap.size w ((((w.alloc (.cells #[.string ⟨#[82, 84, 73]⟩, .int .i64 mode, .int .i64 kind] 93)).alloc (.cells #[.func (.func 55) #[] #[], .func (.func 56) #[] #[]] 103)).alloc (.cells #[.func (.func 55) #[] #[], .func (.func 115) #[] #[]] 103)).alloc (.cells #[.func (.func 53) #[] #[], .func (.func 132) #[] #[]] 103))) := Lib.hid (Below.alloc (Below.alloc (Below.alloc ((Below.refl _ w).alloc (Nat.le_refl _) _) (by simp) _) (by simp; omega) _) (by simp; omega) _)
  go_enter Tryz.func144, Tryz.ntmps144
  go_wp2
  go_ret
  exact ret_lit #[.func (.func 55) #[] #[], .func (.func 56) #[] #[], .func (.func 53) #[] #[], .func (.func 132) #[] #[], .func (.func 53) #[] #[], .func (.func 174) #[] #[], .func (.func 53) #[] #[], .func (.func 172) #[] #[], .func (.func 53) #[] #[], .func (.func 61) #[] #[]] [(55, 56), (53, 132), (53, 174), (53, 172), (53, 61)] _ (by simp) HB.out rfl (by decide) 5 rfl
theorem flows_else (n : ByteArray) (mode kind : Int) (n0 : (n.toList == [74, 77, 80]) = false) (n1 : (n.toList == [74, 83, 82]) = false) (n2 : (n.toList == [82, 84, 83]) = false) (n3 : (n.toList == [82, 84, 73]) = false) (w : World) : Calls Tryz.prog 144 #[.agg #[.string n, .int .i64 mode, .int .i64 kind]] w (PlanRet w ((55, 173) :: interruptedL)) := by
  have HB : Hid (Below w.heap.size w ((((w.alloc (.cells #[.string n, .int .i64 mode, .int .i64 kind] 93)).alloc (.cells #[.func (.func 55) #[] #[], .func (.func 56) #[] #[]] 103)).alloc (.cells #[.func (.func 55) #[] #[], .func (.func 115) #[] #[]] 103)).alloc (.cells #[.func (.func 53) #[] #[], .func (.func 132) #[] #[]] 103))) := Lib.hid (Below.alloc (Below.alloc (Below.alloc ((Below.refl _ w).alloc (Nat.le_refl _) _) (by simp) _) (by simp; omega) _) (by simp; omega) _)
  have HI := Lib.hid (interrupted_x (((((w.alloc (.cells #[.string n, .int .i64 mode, .int .i64 kind] 93)).alloc (.cells #[.func (.func 55) #[] #[], .func (.func 56) #[] #[]] 103)).alloc (.cells #[.func (.func 55) #[] #[], .func (.func 115) #[] #[]] 103)).alloc (.cells #[.func (.func 53) #[] #[], .func (.func 132) #[] #[]] 103)).alloc (.cells #[.func (.func 55) #[] #[], .func (.func 173) #[] #[]] 103)))
  have HO : Hid (PlanAt ((((((w.alloc (.cells #[.string n, .int .i64 mode, .int .i64 kind] 93)).alloc (.cells #[.func (.func 55) #[] #[], .func (.func 56) #[] #[]] 103)).alloc (.cells #[.func (.func 55) #[] #[], .func (.func 115) #[] #[]] 103)).alloc (.cells #[.func (.func 53) #[] #[], .func (.func 132) #[] #[]] 103)).alloc (.cells #[.func (.func 55) #[] #[], .func (.func 173) #[] #[]] 103)).alloc (.cells #[.func (.func 107) #[] #[], .func (.func 54) #[] #[], .func (.func 108) #[] #[], .func (.func 54) #[] #[], .func (.func 109) #[] #[], .func (.func 110) #[] #[], .func (.func 58) #[] #[], .func (.func 59) #[] #[], .func (.func 60) #[] #[], .func (.func 61) #[] #[]] 103)) (.slice (some ⟨w.heap.size + 1 + 1 + 1 + 1, 0, none⟩) 1 1) [(55, 173)]) := Lib.hid (by
    have h := (PlanAt.lit (w := ((((w.alloc (.cells #[.string n, .int .i64 mode, .int .i64 kind] 93)).alloc (.cells #[.func (.func 55) #[] #[], .func (.func 56) #[] #[]] 103)).alloc (.cells #[.func (.func 55) #[] #[], .func (.func 115) #[] #[]] 103)).alloc (.cells #[.func (.func 53) #[] #[], .func (.func 132) #[] #[]] 103))) #[.func (.func 55) #[] #[], .func (.func 173) #[] #[]] [(55, 173)] rfl (by decide)).alloc (.cells #[.func (.func 107) #[] #[], .func (.func 54) #[] #[], .func (.func 108) #[] #[], .func (.func 54) #[] #[], .func (.func 109) #[] #[], .func (.func 110) #[] #[], .func (.func 58) #[] #[], .func (.func 59) #[] #[], .func (.func 60) #[] #[], .func (.func 61) #[] #[]] 103)
    simp only [World.size_alloc] at h
    exact h)
  have HP : Hid (PlanAt ((((((w.alloc (.cells #[.string n, .int .i64 mode, .int .i64 kind] 93)).alloc (.cells #[.func (.func 55) #[] #[], .func (.func 56) #[] #[]] 103)).alloc (.cells #[.func (.func 55) #[] #[], .func (.func 115) #[] #[]] 103)).alloc (.cells #[.func (.func 53) #[] #[], .func (.func 132) #[] #[]] 103)).alloc (.cells #[.func (.func 55) #[] #[], .func (.func 173) #[] #[]] 103)).alloc (.cells #[.func (.func 107) #[] #[], .func (.func 54) #[] #[], .func (.func 108) #[] #[], .func (.func 54) #[] #[], .func (.func 109) #[] #[], .func (.func 110) #[] #[], .func (.func 58) #[] #[], .func (.func 59) #[] #[], .func (.func 60) #[] #[], .func (.func 61) #[] #[]] 103)) (.slice (some ⟨w.heap.size + 1 + 1 + 1 + 1 + 1, 0, none⟩) 5 5) interruptedL) := Lib.hid (by
    have h := (PlanAt.lit (w := (((((w.alloc (.cells #[.string n, .int .i64 mode, .int .i64 kind] 93)).alloc (.cells #[.func (.func 55) #[] #[], .func (.func 56) #[] #[]] 103)).alloc (.cells #[.func (.func 55) #[] #[], .func (.func 115) #[] #[]] 103)).alloc (.cells #[.func (.func 53) #[] #[], .func (.func 132) #[] #[]] 103)).alloc (.cells #[.func (.func 55) #[] #[], .func (.func 173) #[] #[]] 103))) #[.func (.func 107) #[] #[], .func (.func 54) #[] #[], .func (.func 108) #[] #[], .func (.func 54) #[] #[], .func (.func 109) #[] #[], .func (.func 110) #[] #[], .func (.func 58) #[] #[], .func (.func 59) #[] #[], .func (.func 60) #[] #[], .func (.func 61) #[] #[]] interruptedL rfl (by decide))
    simp only [World.size_alloc] at h
    exact h)
  have HB5 : Hid (Below w.heap.size w ((((((w.alloc (.cells #[.string n, .int .i64 mode, .int .i64 kind] 93)).alloc (.cells #[.func (.func 55) #[] #[], .func (.func 56) #[] #[]] 103)).alloc (.cells #[.func (.func 55) #[] #[], .func (.func 115) #[] #[]] 103)).alloc (.cells #[.func (.func 53) #[] #[], .func (.func 132) #[] #[]] 103)).alloc (.cells #[.func (.func 55) #[] #[], .func (.func 173) #[] #[]] 103)).alloc (.cells #[.func (.func 107) #[] #[], .func (.func 54) #[] #[], .func (.func 108) #[] #[], .func (.func 54) #[] #[], .func (.func 109) #[] #[], .func (.func 110) #[] #[], .func (.func 58) #[] #[], .func (.func 59) #[] #[], .func (.func 60) #[] #[], .func (.func 61) #[] #[]] 103))) := Lib.hid (Below.alloc (Below.alloc HB.out (by simp; omega) _) (by simp; omega) _)
  go_enter Tryz.func144, Tryz.ntmps144
  go_wp2_with (first
    | (go_at_call 94; refine HI.out.mono ?_; rintro e w' ⟨rfl, rfl⟩)
    | (at_builtin; refine wpList_append_plan rfl (.tmp 61) (.tmp 62) (by rfl) _ [(55, 173)] (by rfl) HO.out _ interruptedL (by rfl) HP.out (by decide) ?_; intro v' w1 hP hgrow hat))
  go_ret
  exact ret_grown HB5.out (fun b hb => by simp [Value.ownBlock] at hb; omega) hP hgrow hat
theorem flows_any (n : ByteArray) (mode kind : Int) (w : World) : Calls Tryz.prog 144 #[.agg #[.string n, .int .i64 mode, .int .i64 kind]] w (PlanRet w (flowsL n.toList mode)) := by
  unfold flowsL
  by_cases n0 : (n.toList == [74, 77, 80]) = true
  · rw [if_pos n0]
    obtain rfl := of_list n0
    by_cases hm : (mode == 5) = true
    · rw [if_pos hm]
      obtain rfl : mode = 5 := by simpa using hm
      exact flows_JMP5 kind w
    · rw [if_neg hm]
      exact flows_JMP mode kind (by simpa using hm) w
  rw [if_neg n0]
  by_cases n1 : (n.toList == [74, 83, 82]) = true
  · rw [if_pos n1]
    obtain rfl := of_list n1
    exact flows_JSR mode kind w
  rw [if_neg n1]
  by_cases n2 : (n.toList == [82, 84, 83]) = true
  · rw [if_pos n2]
    obtain rfl := of_list n2
    exact flows_RTS mode kind w
  rw [if_neg n2]
  by_cases n3 : (n.toList == [82, 84, 73]) = true
  · rw [if_pos n3]
    obtain rfl := of_list n3
    exact flows_RTI mode kind w
  rw [if_neg n3]
  simp only [Bool.not_eq_true] at n0 n1 n2 n3
  exact flows_else n mode kind n0 n1 n2 n3 w
theorem does_0_6 (n : ByteArray) (w : World) : Calls Tryz.prog 97 #[.agg #[.string n, .int .i64 6, .int .i64 0]] w (PlanRet w [(55, 130)]) := by
  have HB : Hid (Below w.heap.size w (((w.alloc (.cells #[.string n, .int .i64 6, .int .i64 0] 93)).alloc (.cells #[.func (.func 55) #[] #[], .func (.func 56) #[] #[]] 103)).alloc (.cells #[.func (.func 129) #[] #[], .func (.func 56) #[] #[]] 103))) := Lib.hid (Below.alloc (Below.alloc ((Below.refl _ w).alloc (Nat.le_refl _) _) (by simp) _) (by simp; omega) _)
  go_enter Tryz.func97, Tryz.ntmps97
  go_wp2
  go_ret
  exact ret_lit #[.func (.func 55) #[] #[], .func (.func 130) #[] #[]] [(55, 130)] _ (by simp) HB.out rfl (by decide) 1 rfl
theorem does_6_6 (n : ByteArray) (w : World) : Calls Tryz.prog 97 #[.agg #[.string n, .int .i64 6, .int .i64 6]] w (PlanRet w [(55, 56), (131, 54)]) := by
  have HB : Hid (Below w.heap.size w (((w.alloc (.cells #[.string n, .int .i64 6, .int .i64 6] 93)).alloc (.cells #[.func (.func 55) #[] #[], .func (.func 56) #[] #[]] 103)).alloc (.cells #[.func (.func 129) #[] #[], .func (.func 56) #[] #[]] 103))) := Lib.hid (Below.alloc (Below.alloc ((Below.refl _ w).alloc (Nat.le_refl _) _) (by simp) _) (by simp; omega) _)
  go_enter Tryz.func97, Tryz.ntmps97
  go_wp2
  go_ret
  exact ret_lit #[.func (.func 55) #[] #[], .func (.func 56) #[] #[], .func (.func 131) #[] #[], .func (.func 54) #[] #[]] [(55, 56), (131, 54)] _ (by simp) HB.out rfl (by decide) 2 rfl
theorem does_7_6 (n : ByteArray) (w : World) : Calls Tryz.prog 97 #[.agg #[.string n, .int .i64 6, .int .i64 7]] w (PlanRet w [(55, 56), (53, 132), (53, 133)]) := by
  have HB : Hid (Below w.heap.size w (((w.alloc (.cells #[.string n, .int .i64 6, .int .i64 7] 93)).alloc (.cells #[.func (.func 55) #[] #[], .func (.func 56) #[] #[]] 103)).alloc (.cells #[.func (.func 129) #[] #[], .func (.func 56) #[] #[]] 103))) := Lib.hid (Below.alloc (Below.alloc ((Below.refl _ w).alloc (Nat.le_refl _) _) (by simp) _) (by simp; omega) _)
  go_enter Tryz.func97, Tryz.ntmps97
  go_wp2
  go_ret
  exact ret_lit #[.func (.func 55) #[] #[], .func (.func 56) #[] #[], .func (.func 53) #[] #[], .func (.func 132) #[] #[], .func (.func 53) #[] #[], .func (.func 133) #[] #[]] [(55, 56), (53, 132), (53, 133)] _ (by simp) HB.out rfl (by decide) 3 rfl
theorem does_4_6 (n : ByteArray) (w : World) : Calls Tryz.prog 97 #[.agg #[.string n, .int .i64 6, .int .i64 4]] w (PlanRet w [(55, 134)]) := by
  have HB : Hid (Below w.heap.size w (((w.alloc (.cells #[.string n, .int .i64 6, .int .i64 4] 93)).alloc (.cells #[.func (.func 55) #[] #[], .func (.func 56) #[] #[]] 103)).alloc (.cells #[.func (.func 129) #[] #[], .func (.func 56) #[] #[]] 103))) := Lib.hid (Below.alloc (Below.alloc ((Below.refl _ w).alloc (Nat.le_refl _) _) (by simp) _) (by simp; omega) _)
  go_enter Tryz.func97, Tryz.ntmps97
  go_wp2
  go_ret
  exact ret_lit #[.func (.func 55) #[] #[], .func (.func 134) #[] #[]] [(55, 134)] _ (by simp) HB.out rfl (by decide) 1 rfl
theorem does_8_6 (n : ByteArray) (w : World) : Calls Tryz.prog 97 #[.agg #[.string n, .int .i64 6, .int .i64 8]] w (PlanRet w [(55, 135), (136, 137)]) := by
  have HB : Hid (Below w.heap.size w (((w.alloc (.cells #[.string n, .int .i64 6, .int .i64 8] 93)).alloc (.cells #[.func (.func 55) #[] #[], .func (.func 56) #[] #[]] 103)).alloc (.cells #[.func (.func 129) #[] #[], .func (.func 56) #[] #[]] 103))) := Lib.hid (Below.alloc (Below.alloc ((Below.refl _ w).alloc (Nat.le_refl _) _) (by simp) _) (by simp; omega) _)
  go_enter Tryz.func97, Tryz.ntmps97
  go_wp2
  go_ret
  exact ret_lit #[.func (.func 55) #[] #[], .func (.func 135) #[] #[], .func (.func 136) #[] #[], .func (.func 137) #[] #[]] [(55, 135), (136, 137)] _ (by simp) HB.out rfl (by decide) 2 rfl
theorem does_2_6 (n : ByteArray) (w : World) : Calls Tryz.prog 97 #[.agg #[.string n, .int .i64 6, .int .i64 2]] w (PlanRet w [(129, 56), (138, 139)]) := by
  have HB : Hid (Below w.heap.size w (((w.alloc (.cells #[.string n, .int .i64 6, .int .i64 2] 93)).alloc (.cells #[.func (.func 55) #[] #[], .func (.func 56) #[] #[]] 103)).alloc (.cells #[.func (.func 129) #[] #[], .func (.func 56) #[] #[]] 103))) := Lib.hid (Below.alloc (Below.alloc ((Below.refl _ w).alloc (Nat.le_refl _) _) (by simp) _) (by simp; omega) _)
  have HO : Hid (PlanAt ((((w.alloc (.cells #[.string n, .int .i64 6, .int .i64 2] 93)).alloc (.cells #[.func (.func 55) #[] #[], .func (.func 56) #[] #[]] 103)).alloc (.cells #[.func (.func 129) #[] #[], .func (.func 56) #[] #[]] 103)).alloc (.cells #[.func (.func 138) #[] #[], .func (.func 139) #[] #[]] 103)) (.slice (some ⟨w.heap.size + 1 + 1, 0, none⟩) 1 1) [(129, 56)]) := Lib.hid (by
    have h := (PlanAt.lit (w := ((w.alloc (.cells #[.string n, .int .i64 6, .int .i64 2] 93)).alloc (.cells #[.func (.func 55) #[] #[], .func (.func 56) #[] #[]] 103))) #[.func (.func 129) #[] #[], .func (.func 56) #[] #[]] [(129, 56)] rfl (by decide)).alloc (.cells #[.func (.func 138) #[] #[], .func (.func 139) #[] #[]] 103)
    simp only [World.size_alloc] at h
    exact h)
  have HP : Hid (PlanAt ((((w.alloc (.cells #[.string n, .int .i64 6, .int .i64 2] 93)).alloc (.cells #[.func (.func 55) #[] #[], .func (.func 56) #[] #[]] 103)).alloc (.cells #[.func (.func 129) #[] #[], .func (.func 56) #[] #[]] 103)).alloc (.cells #[.func (.func 138) #[] #[], .func (.func 139) #[] #[]] 103)) (.slice (some ⟨w.heap.size + 1 + 1 + 1, 0, none⟩) 1 1) [(138, 139)]) := Lib.hid (by
    have h := (PlanAt.lit (w := (((w.alloc (.cells #[.string n, .int .i64 6, .int .i64 2] 93)).alloc (.cells #[.func (.func 55) #[] #[], .func (.func 56) #[] #[]] 103)).alloc (.cells #[.func (.func 129) #[] #[], .func (.func 56) #[] #[]] 103))) #[.func (.func 138) #[] #[], .func (.func 139) #[] #[]] [(138, 139)] rfl (by decide))
    simp only [World.size_alloc] at h
    exact h)
  have HB5 : Hid (Below w.heap.size w ((((w.alloc (.cells #[.string n, .int .i64 6, .int .i64 2] 93)).alloc (.cells #[.func (.func 55) #[] #[], .func (.func 56) #[] #[]] 103)).alloc (.cells #[.func (.func 129) #[] #[], .func (.func 56) #[] #[]] 103)).alloc (.cells #[.func (.func 138) #[] #[], .func (.func 139) #[] #[]] 103))) := Lib.hid (Below.alloc HB.out (by simp; omega) _)
  go_enter Tryz.func97, Tryz.ntmps97
  go_wp2_with (at_builtin; refine wpList_append_plan rfl (.tmp 49) (.tmp 51) (by rfl) _ [(129, 56)] (by rfl) HO.out _ [(138, 139)] (by rfl) HP.out (by decide) ?_; intro v' w1 hP hgrow hat)
  go_ret
  exact ret_grown HB5.out (fun b hb => by simp [Value.ownBlock] at hb ; omega) hP hgrow hat
theorem does_3_6 (n : ByteArray) (w : World) : Calls Tryz.prog 97 #[.agg #[.string n, .int .i64 6, .int .i64 3]] w (PlanRet w [(129, 56), (117, 140), (141, 56), (142, 143)]) := by
  have HB : Hid (Below w.heap.size w (((w.alloc (.cells #[.string n, .int .i64 6, .int .i64 3] 93)).alloc (.cells #[.func (.func 55) #[] #[], .func (.func 56) #[] #[]] 103)).alloc (.cells #[.func (.func 129) #[] #[], .func (.func 56) #[] #[]] 103))) := Lib.hid (Below.alloc (Below.alloc ((Below.refl _ w).alloc (Nat.le_refl _) _) (by simp) _) (by simp; omega) _)
  have HO : Hid (PlanAt ((((w.alloc (.cells #[.string n, .int .i64 6, .int .i64 3] 93)).alloc (.cells #[.func (.func 55) #[] #[], .func (.func 56) #[] #[]] 103)).alloc (.cells #[.func (.func 129) #[] #[], .func (.func 56) #[] #[]] 103)).alloc (.cells #[.func (.func 117) #[] #[], .func (.func 140) #[] #[], .func (.func 141) #[] #[], .func (.func 56) #[] #[], .func (.func 142) #[] #[], .func (.func 143) #[] #[]] 103)) (.slice (some ⟨w.heap.size + 1 + 1, 0, none⟩) 1 1) [(129, 56)]) := Lib.hid (by
    have h := (PlanAt.lit (w := ((w.alloc (.cells #[.string n, .int .i64 6, .int .i64 3] 93)).alloc (.cells #[.func (.func 55) #[] #[], .func (.func 56) #[] #[]] 103))) #[.func (.func 129) #[] #[], .func (.func 56) #[] #[]] [(129, 56)] rfl (by decide)).alloc (.cells #[.func (.func 117) #[] #[], .func (.func 140) #[] #[], .func (.func 141) #[] #[], .func (.func 56) #[] #[], .func (.func 142) #[] #[], .func (.func 143) #[] #[]] 103)
    simp only [World.size_alloc] at h
    exact h)
  have HP : Hid (PlanAt ((((w.alloc (.cells #[.string n, .int .i64 6, .int .i64 3] 93)).alloc (.cells #[.func (.func 55) #[] #[], .func (.func 56) #[] #[]] 103)).alloc (.cells #[.func (.func 129) #[] #[], .func (.func 56) #[] #[]] 103)).alloc (.cells #[.func (.func 117) #[] #[], .func (.func 140) #[] #[], .func (.func 141) #[] #[], .func (.func 56) #[] #[], .func (.func 142) #[] #[], .func (.func 143) #[] #[]] 103)) (.slice (some ⟨w.heap.size + 1 + 1 + 1, 0, none⟩) 3 3) [(117, 140), (141, 56), (142, 143)]) := Lib.hid (by
    have h := (PlanAt.lit (w := (((w.alloc (.cells #[.string n, .int .i64 6, .int .i64 3] 93)).alloc (.cells #[.func (.func 55) #[] #[], .func (.func 56) #[] #[]] 103)).alloc (.cells #[.func (.func 129) #[] #[], .func (.func 56) #[] #[]] 103))) #[.func (.func 117) #[] #[], .func (.func 140) #[] #[], .func (.func 141) #[] #[], .func (.func 56) #[] #[], .func (.func 142) #[] #[], .func (.func 143) #[] #[]] [(117, 140), (141, 56), (142, 143)] rfl (by decide))
    simp only [World.size_alloc] at h
    exact h)
  have HB5 : Hid (Below w.heap.size w ((((w.alloc (.cells #[.string n, .int .i64 6, .int .i64 3] 93)).alloc (.cells #[.func (.func 55) #[] #[], .func (.func 56) #[] #[]] 103)).alloc (.cells #[.func (.func 129) #[] #[], .func (.func 56) #[] #[]] 103)).alloc (.cells #[.func (.func 117) #[] #[], .func (.func 140) #[] #[], .func (.func 141) #[] #[], .func (.func 56) #[] #[], .func (.func 142) #[] #[], .func (.func 143) #[] #[]] 103))) := Lib.hid (Below.alloc HB.out (by simp; omega) _)
  go_enter Tryz.func97, Tryz.ntmps97
  go_wp2_with (at_builtin; refine wpList_append_plan rfl (.tmp 55) (.tmp 59) (by rfl) _ [(129, 56)] (by rfl) HO.out _ [(117, 140), (141, 56), (142, 143)] (by rfl) HP.out (by decide) ?_; intro v' w1 hP hgrow hat)
  go_ret
  exact ret_grown HB5.out (fun b hb => by simp [Value.ownBlock] at hb ; omega) hP hgrow hat
theorem does_5_6 (n : ByteArray) (w : World) : Calls Tryz.prog 97 #[.agg #[.string n, .int .i64 6, .int .i64 5]] w (PlanRet w (flowsL n.toList 6)) := by
  have HB : Hid (Below w.heap.size w (((w.alloc (.cells #[.string n, .int .i64 6, .int .i64 5] 93)).alloc (.cells #[.func (.func 55) #[] #[], .func (.func 56) #[] #[]] 103)).alloc (.cells #[.func (.func 129) #[] #[], .func (.func 56) #[] #[]] 103))) := Lib.hid (Below.alloc (Below.alloc ((Below.refl _ w).alloc (Nat.le_refl _) _) (by simp) _) (by simp; omega) _)
  have HF := Lib.hid (flows_any n 6 5 (((w.alloc (.cells #[.string n, .int .i64 6, .int .i64 5] 93)).alloc (.cells #[.func (.func 55) #[] #[], .func (.func 56) #[] #[]] 103)).alloc (.cells #[.func (.func 129) #[] #[], .func (.func 56) #[] #[]] 103)))
  go_enter Tryz.func97, Tryz.ntmps97
  go_wp2_with (go_at_call 144; refine HF.out.mono ?_; rintro e w3 ⟨v, rfl, hP, hb, hv⟩; have GP := Lib.hid hP; have GB := Lib.hid hb; have GV := Lib.hid hv; clear hP hb hv)
  go_ret
  exact ⟨_, rfl, GP.out, HB.out.trans (GB.out.mono HB.out.size), fun b h => Nat.le_trans HB.out.size (GV.out b h)⟩
theorem does_0_7 (n : ByteArray) (w : World) : Calls Tryz.prog 97 #[.agg #[.string n, .int .i64 7, .int .i64 0]] w (PlanRet w [(55, 130)]) := by
  have HB : Hid (Below w.heap.size w (((w.alloc (.cells #[.string n, .int .i64 7, .int .i64 0] 93)).alloc (.cells #[.func (.func 55) #[] #[], .func (.func 56) #[] #[]] 103)).alloc (.cells #[.func (.func 129) #[] #[], .func (.func 56) #[] #[]] 103))) := Lib.hid (Below.alloc (Below.alloc ((Below.refl _ w).alloc (Nat.le_refl _) _) (by simp) _) (by simp; omega) _)
  go_enter Tryz.func97, Tryz.ntmps97
  go_wp2
  go_ret
  exact ret_lit #[.func (.func 55) #[] #[], .func (.func 130) #[] #[]] [(55, 130)] _ (by simp) HB.out rfl (by decide) 1 rfl
theorem does_6_7 (n : ByteArray) (w : World) : Calls Tryz.prog 97 #[.agg #[.string n, .int .i64 7, .int .i64 6]] w (PlanRet w [(55, 56), (131, 54)]) := by
  have HB : Hid (Below w.heap.size w (((w.alloc (.cells #[.string n, .int .i64 7, .int .i64 6] 93)).alloc (.cells #[.func (.func 55) #[] #[], .func (.func 56) #[] #[]] 103)).alloc (.cells #[.func (.func 129) #[] #[], .func (.func 56) #[] #[]] 103))) := Lib.hid (Below.alloc (Below.alloc ((Below.refl _ w).alloc (Nat.le_refl _) _) (by simp) _) (by simp; omega) _)
  go_enter Tryz.func97, Tryz.ntmps97
  go_wp2
  go_ret
  exact ret_lit #[.func (.func 55) #[] #[], .func (.func 56) #[] #[], .func (.func 131) #[] #[], .func (.func 54) #[] #[]] [(55, 56), (131, 54)] _ (by simp) HB.out rfl (by decide) 2 rfl
theorem does_7_7 (n : ByteArray) (w : World) : Calls Tryz.prog 97 #[.agg #[.string n, .int .i64 7, .int .i64 7]] w (PlanRet w [(55, 56), (53, 132), (53, 133)]) := by
  have HB : Hid (Below w.heap.size w (((w.alloc (.cells #[.string n, .int .i64 7, .int .i64 7] 93)).alloc (.cells #[.func (.func 55) #[] #[], .func (.func 56) #[] #[]] 103)).alloc (.cells #[.func (.func 129) #[] #[], .func (.func 56) #[] #[]] 103))) := Lib.hid (Below.alloc (Below.alloc ((Below.refl _ w).alloc (Nat.le_refl _) _) (by simp) _) (by simp; omega) _)
  go_enter Tryz.func97, Tryz.ntmps97
  go_wp2
  go_ret
  exact ret_lit #[.func (.func 55) #[] #[], .func (.func 56) #[] #[], .func (.func 53) #[] #[], .func (.func 132) #[] #[], .func (.func 53) #[] #[], .func (.func 133) #[] #[]] [(55, 56), (53, 132), (53, 133)] _ (by simp) HB.out rfl (by decide) 3 rfl
theorem does_4_7 (n : ByteArray) (w : World) : Calls Tryz.prog 97 #[.agg #[.string n, .int .i64 7, .int .i64 4]] w (PlanRet w [(55, 134)]) := by
  have HB : Hid (Below w.heap.size w (((w.alloc (.cells #[.string n, .int .i64 7, .int .i64 4] 93)).alloc (.cells #[.func (.func 55) #[] #[], .func (.func 56) #[] #[]] 103)).alloc (.cells #[.func (.func 129) #[] #[], .func (.func 56) #[] #[]] 103))) := Lib.hid (Below.alloc (Below.alloc ((Below.refl _ w).alloc (Nat.le_refl _) _) (by simp) _) (by simp; omega) _)
  go_enter Tryz.func97, Tryz.ntmps97
  go_wp2
  go_ret
  exact ret_lit #[.func (.func 55) #[] #[], .func (.func 134) #[] #[]] [(55, 134)] _ (by simp) HB.out rfl (by decide) 1 rfl
theorem does_8_7 (n : ByteArray) (w : World) : Calls Tryz.prog 97 #[.agg #[.string n, .int .i64 7, .int .i64 8]] w (PlanRet w [(55, 135), (136, 137)]) := by
  have HB : Hid (Below w.heap.size w (((w.alloc (.cells #[.string n, .int .i64 7, .int .i64 8] 93)).alloc (.cells #[.func (.func 55) #[] #[], .func (.func 56) #[] #[]] 103)).alloc (.cells #[.func (.func 129) #[] #[], .func (.func 56) #[] #[]] 103))) := Lib.hid (Below.alloc (Below.alloc ((Below.refl _ w).alloc (Nat.le_refl _) _) (by simp) _) (by simp; omega) _)
  go_enter Tryz.func97, Tryz.ntmps97
  go_wp2
  go_ret
  exact ret_lit #[.func (.func 55) #[] #[], .func (.func 135) #[] #[], .func (.func 136) #[] #[], .func (.func 137) #[] #[]] [(55, 135), (136, 137)] _ (by simp) HB.out rfl (by decide) 2 rfl
theorem does_2_7 (n : ByteArray) (w : World) : Calls Tryz.prog 97 #[.agg #[.string n, .int .i64 7, .int .i64 2]] w (PlanRet w [(129, 56), (138, 139)]) := by
  have HB : Hid (Below w.heap.size w (((w.alloc (.cells #[.string n, .int .i64 7, .int .i64 2] 93)).alloc (.cells #[.func (.func 55) #[] #[], .func (.func 56) #[] #[]] 103)).alloc (.cells #[.func (.func 129) #[] #[], .func (.func 56) #[] #[]] 103))) := Lib.hid (Below.alloc (Below.alloc ((Below.refl _ w).alloc (Nat.le_refl _) _) (by simp) _) (by simp; omega) _)
  have HO : Hid (PlanAt ((((w.alloc (.cells #[.string n, .int .i64 7, .int .i64 2] 93)).alloc (.cells #[.func (.func 55) #[] #[], .func (.func 56) #[] #[]] 103)).alloc (.cells #[.func (.func 129) #[] #[], .func (.func 56) #[] #[]] 103)).alloc (.cells #[.func (.func 138) #[] #[], .func (.func 139) #[] #[]] 103)) (.slice (some ⟨w.heap.size + 1 + 1, 0, none⟩) 1 1) [(129, 56)]) := Lib.hid (by
    have h := (PlanAt.lit (w := ((w.alloc (.cells #[.string n, .int .i64 7, .int .i64 2] 93)).alloc (.cells #[.func (.func 55) #[] #[], .func (.func 56) #[] #[]] 103))) #[.func (.func 129) #[] #[], .func (.func 56) #[] #[]] [(129, 56)] rfl (by decide)).alloc (.cells #[.func (.func 138) #[] #[], .func (.func 139) #[] #[]] 103)
    simp only [World.size_alloc] at h
    exact h)
  have HP : Hid (PlanAt ((((w.alloc (.cells #[.string n, .int .i64 7, .int .i64 2] 93)).alloc (.cells #[.func (.func 55) #[] #[], .func (.func 56) #[] #[]] 103)).alloc (.cells #[.func (.func 129) #[] #[], .func (.func 56) #[] #[]] 103)).alloc (.cells #[.func (.func 138) #[] #[], .func (.func 139) #[] #[]] 103)) (.slice (some ⟨w.heap.size + 1 + 1 + 1, 0, none⟩) 1 1) [(138, 139)]) := Lib.hid (by
    have h := (PlanAt.lit (w := (((w.alloc (.cells #[.string n, .int .i64 7, .int .i64 2] 93)).alloc (.cells #[.func (.func 55) #[] #[], .func (.func 56) #[] #[]] 103)).alloc (.cells #[.func (.func 129) #[] #[], .func (.func 56) #[] #[]] 103))) #[.func (.func 138) #[] #[], .func (.func 139) #[] #[]] [(138, 139)] rfl (by decide))
    simp only [World.size_alloc] at h
    exact h)
  have HB5 : Hid (Below w.heap.size w ((((w.alloc (.cells #[.string n, .int .i64 7, .int .i64 2] 93)).alloc (.cells #[.func (.func 55) #[] #[], .func (.func 56) #[] #[]] 103)).alloc (.cells #[.func (.func 129) #[] #[], .func (.func 56) #[] #[]] 103)).alloc (.cells #[.func (.func 138) #[] #[], .func (.func 139) #[] #[]] 103))) := Lib.hid (Below.alloc HB.out (by simp; omega) _)
  go_enter Tryz.func97, Tryz.ntmps97
  go_wp2_with (at_builtin; refine wpList_append_plan rfl (.tmp 49) (.tmp 51) (by rfl) _ [(129, 56)] (by rfl) HO.out _ [(138, 139)] (by rfl) HP.out (by decide) ?_; intro v' w1 hP hgrow hat)
  go_ret
  exact ret_grown HB5.out (fun b hb => by simp [Value.ownBlock] at hb ; omega) hP hgrow hat
theorem does_3_7 (n : ByteArray) (w : World) : Calls Tryz.prog 97 #[.agg #[.string n, .int .i64 7, .int .i64 3]] w (PlanRet w [(129, 56), (117, 140), (141, 56), (142, 143)]) := by
  have HB : Hid (Below w.heap.size w (((w.alloc (.cells #[.string n, .int .i64 7, .int .i64 3] 93)).alloc (.cells #[.func (.func 55) #[] #[], .func (.func 56) #[] #[]] 103)).alloc (.cells #[.func (.func 129) #[] #[], .func (.func 56) #[] #[]] 103))) := Lib.hid (Below.alloc (Below.alloc ((Below.refl _ w).alloc (Nat.le_refl _) _) (by simp) _) (by simp; omega) _)
  have HO : Hid (PlanAt ((((w.alloc (.cells #[.string n, .int .i64 7, .int .i64 3] 93)).alloc (.cells #[.func (.func 55) #[] #[], .func (.func 56) #[] #[]] 103)).alloc (.cells #[.func (.func 129) #[] #[], .func (.func 56) #[] #[]] 103)).alloc (.cells #[.func (.func 117) #[] #[], .func (.func 140) #[] #[], .func (.func 141) #[] #[], .func (.func 56) #[] #[], .func (.func 142) #[] #[], .func (.func 143) #[] #[]] 103)) (.slice (some ⟨w.heap.size + 1 + 1, 0, none⟩) 1 1) [(129, 56)]) := Lib.hid (by
    have h := (PlanAt.lit (w := ((w.alloc (.cells #[.string n, .int .i64 7, .int .i64 3] 93)).alloc (.cells #[.func (.func 55) #[] #[], .func (.func 56) #[] #[]] 103))) #[.func (.func 129) #[] #[], .func (.func 56) #[] #[]] [(129, 56)] rfl (by decide)).alloc (.cells #[.func (.func 117) #[] #[], .func (.func 140) #[] #[], .func (.func 141) #[] #[], .func (.func 56) #[] #[], .func (.func 142) #[] #[], .func (.func 143) #[] #[]] 103)
    simp only [World.size_alloc] at h
    exact h)
  have HP : Hid (PlanAt ((((w.alloc (.cells #[.string n, .int .i64 7, .int .i64 3] 93)).alloc (.cells #[.func (.func 55) #[] #[], .func (.func 56) #[] #[]] 103)).alloc (.cells #[.func (.func 129) #[] #[], .func (.func 56) #[] #[]] 103)).alloc (.cells #[.func (.func 117) #[] #[], .func (.func 140) #[] #[], .func (.func 141) #[] #[], .func (.func 56) #[] #[], .func (.func 142) #[] #[], .func (.func 143) #[] #[]] 103)) (.slice (some ⟨w.heap.size + 1 + 1 + 1, 0, none⟩) 3 3) [(117, 140), (141, 56), (142, 143)]) := Lib.hid (by
    have h := (PlanAt.lit (w := (((w.alloc (.cells #[.string n, .int .i64 7, .int .i64 3] 93)).alloc (.cells #[.func (.func 55) #[] #[], .func (.func 56) #[] #[]] 103)).alloc (.cells #[.func (.func 129) #[] #[], .func (.func 56) #[] #[]] 103))) #[.func (.func 117) #[] #[], .func (.func 140) #[] #[], .func (.func 141) #[] #[], .func (.func 56) #[] #[], .func (.func 142) #[] #[], .func (.func 143) #[] #[]] [(117, 140), (141, 56), (142, 143)] rfl (by decide))
    simp only [World.size_alloc] at h
    exact h)
  have HB5 : Hid (Below w.heap.size w ((((w.alloc (.cells #[.string n, .int .i64 7, .int .i64 3] 93)).alloc (.cells #[.func (.func 55) #[] #[], .func (.func 56) #[] #[]] 103)).alloc (.cells #[.func (.func 129) #[] #[], .func (.func 56) #[] #[]] 103)).alloc (.cells #[.func (.func 117) #[] #[], .func (.func 140) #[] #[], .func (.func 141) #[] #[], .func (.func 56) #[] #[], .func (.func 142) #[] #[], .func (.func 143) #[] #[]] 103))) := Lib.hid (Below.alloc HB.out (by simp; omega) _)
  go_enter Tryz.func97, Tryz.ntmps97
  go_wp2_with (at_builtin; refine wpList_append_plan rfl (.tmp 55) (.tmp 59) (by rfl) _ [(129, 56)] (by rfl) HO.out _ [(117, 140), (141, 56), (142, 143)] (by rfl) HP.out (by decide) ?_; intro v' w1 hP hgrow hat)
  go_ret
  exact ret_grown HB5.out (fun b hb => by simp [Value.ownBlock] at hb ; omega) hP hgrow hat
theorem does_5_7 (n : ByteArray) (w : World) : Calls Tryz.prog 97 #[.agg #[.string n, .int .i64 7, .int .i64 5]] w (PlanRet w (flowsL n.toList 7)) := by
  have HB : Hid (Below w.heap.size w (((w.alloc (.cells #[.string n, .int .i64 7, .int .i64 5] 93)).alloc (.cells #[.func (.func 55) #[] #[], .func (.func 56) #[] #[]] 103)).alloc (.cells #[.func (.func 129) #[] #[], .func (.func 56) #[] #[]] 103))) := Lib.hid (Below.alloc (Below.alloc ((Below.refl _ w).alloc (Nat.le_refl _) _) (by simp) _) (by simp; omega) _)
  have HF := Lib.hid (flows_any n 7 5 (((w.alloc (.cells #[.string n, .int .i64 7, .int .i64 5] 93)).alloc (.cells #[.func (.func 55) #[] #[], .func (.func 56) #[] #[]] 103)).alloc (.cells #[.func (.func 129) #[] #[], .func (.func 56) #[] #[]] 103)))
  go_enter Tryz.func97, Tryz.ntmps97
  go_wp2_with (go_at_call 144; refine HF.out.mono ?_; rintro e w3 ⟨v, rfl, hP, hb, hv⟩; have GP := Lib.hid hP; have GB := Lib.hid hb; have GV := Lib.hid hv; clear hP hb hv)
  go_ret
  exact ⟨_, rfl, GP.out, HB.out.trans (GB.out.mono HB.out.size), fun b h => Nat.le_trans HB.out.size (GV.out b h)⟩
theorem does_0_9 (n : ByteArray) (w : World) : Calls Tryz.prog 97 #[.agg #[.string n, .int .i64 9, .int .i64 0]] w (PlanRet w [(55, 130)]) := by
  have HB : Hid (Below w.heap.size w (((w.alloc (.cells #[.string n, .int .i64 9, .int .i64 0] 93)).alloc (.cells #[.func (.func 55) #[] #[], .func (.func 56) #[] #[]] 103)).alloc (.cells #[.func (.func 129) #[] #[], .func (.func 56) #[] #[]] 103))) := Lib.hid (Below.alloc (Below.alloc ((Below.refl _ w).alloc (Nat.le_refl _) _) (by simp) _) (by simp; omega) _)
  go_enter Tryz.func97, Tryz.ntmps97
  go_wp2
  go_ret
  exact ret_lit #[.func (.func 55) #[] #[], .func (.func 130) #[] #[]] [(55, 130)] _ (by simp) HB.out rfl (by decide) 1 rfl
theorem does_6_9 (n : ByteArray) (w : World) : Calls Tryz.prog 97 #[.agg #[.string n, .int .i64 9, .int .i64 6]] w (PlanRet w [(55, 56), (131, 54)]) := by
  have HB : Hid (Below w.heap.size w (((w.alloc (.cells #[.string n, .int .i64 9, .int .i64 6] 93)).alloc (.cells #[.func (.func 55) #[] #[], .func (.func 56) #[] #[]] 103)).alloc (.cells #[.func (.func 129) #[] #[], .func (.func 56) #[] #[]] 103))) := Lib.hid (Below.alloc (Below.alloc ((Below.refl _ w).alloc (Nat.le_refl _) _) (by simp) _) (by simp; omega) _)
  go_enter Tryz.func97, Tryz.ntmps97
  go_wp2
  go_ret
  exact ret_lit #[.func (.func 55) #[] #[], .func (.func 56) #[] #[], .func (.func 131) #[] #[], .func (.func 54) #[] #[]] [(55, 56), (131, 54)] _ (by simp) HB.out rfl (by decide) 2 rfl
theorem does_7_9 (n : ByteArray) (w : World) : Calls Tryz.prog 97 #[.agg #[.string n, .int .i64 9, .int .i64 7]] w (PlanRet w [(55, 56), (53, 132), (53, 133)]) := by
  have HB : Hid (Below w.heap.size w (((w.alloc (.cells #[.string n, .int .i64 9, .int .i64 7] 93)).alloc (.cells #[.func (.func 55) #[] #[], .func (.func 56) #[] #[]] 103)).alloc (.cells #[.func (.func 129) #[] #[], .func (.func 56) #[] #[]] 103))) := Lib.hid (Below.alloc (Below.alloc ((Below.refl _ w).alloc (Nat.le_refl _) _) (by simp) _) (by simp; omega) _)
  go_enter Tryz.func97, Tryz.ntmps97
  go_wp2
  go_ret
  exact ret_lit #[.func (.func 55) #[] #[], .func (.func 56) #[] #[], .func (.func 53) #[] #[], .func (.func 132) #[] #[], .func (.func 53) #[] #[], .func (.func 133) #[] #[]] [(55, 56), (53, 132), (53, 133)] _ (by simp) HB.out rfl (by decide) 3 rfl
theorem does_4_9 (n : ByteArray) (w : World) : Calls Tryz.prog 97 #[.agg #[.string n, .int .i64 9, .int .i64 4]] w (PlanRet w [(55, 134)]) := by
  have HB : Hid (Below w.heap.size w (((w.alloc (.cells #[.string n, .int .i64 9, .int .i64 4] 93)).alloc (.cells #[.func (.func 55) #[] #[], .func (.func 56) #[] #[]] 103)).alloc (.cells #[.func (.func 129) #[] #[], .func (.func 56) #[] #[]] 103))) := Lib.hid (Below.alloc (Below.alloc ((Below.refl _ w).alloc (Nat.le_refl _) _) (by simp) _) (by simp; omega) _)
  go_enter Tryz.func97, Tryz.ntmps97
  go_wp2
  go_ret
  exact ret_lit #[.func (.func 55) #[] #[], .func (.func 134) #[] #[]] [(55, 134)] _ (by simp) HB.out rfl (by decide) 1 rfl
theorem does_8_9 (n : ByteArray) (w : World) : Calls Tryz.prog 97 #[.agg #[.string n, .int .i64 9, .int .i64 8]] w (PlanRet w [(55, 135), (136, 137)]) := by
  have HB : Hid (Below w.heap.size w (((w.alloc (.cells #[.string n, .int .i64 9, .int .i64 8] 93)).alloc (.cells #[.func (.func 55) #[] #[], .func (.func 56) #[] #[]] 103)).alloc (.cells #[.func (.func 129) #[] #[], .func (.func 56) #[] #[]] 103))) := Lib.hid (Below.alloc (Below.alloc ((Below.refl _ w).alloc (Nat.le_refl _) _) (by simp) _) (by simp; omega) _)
  go_enter Tryz.func97, Tryz.ntmps97
  go_wp2
  go_ret
  exact ret_lit #[.func (.func 55) #[] #[], .func (.func 135) #[] #[], .func (.func 136) #[] #[], .func (.func 137) #[] #[]] [(55, 135), (136, 137)] _ (by simp) HB.out rfl (by decide) 2 rfl
theorem does_2_9 (n : ByteArray) (w : World) : Calls Tryz.prog 97 #[.agg #[.string n, .int .i64 9, .int .i64 2]] w (PlanRet w [(129, 56), (138, 139)]) := by
  have HB : Hid (Below w.heap.size w (((w.alloc (.cells #[.string n, .int .i64 9, .int .i64 2] 93)).alloc (.cells #[.func (.func 55) #[] #[], .func (.func 56) #[] #[]] 103)).alloc (.cells #[.func (.func 129) #[] #[], .func (.func 56) #[] #[]] 103))) := Lib.hid (Below.alloc (Below.alloc ((Below.refl _ w).alloc (Nat.le_refl _) _) (by simp) _) (by simp; omega) _)
  have HO : Hid (PlanAt ((((w.alloc (.cells #[.string n, .int .i64 9, .int .i64 2] 93)).alloc (.cells #[.func (.func 55) #[] #[], .func (.func 56) #[] #[]] 103)).alloc (.cells #[.func (.func 129) #[] #[], .func (.func 56) #[] #[]] 103)).alloc (.cells #[.func (.func 138) #[] #[], .func (.func 139) #[] #[]] 103)) (.slice (some ⟨w.heap.size + 1 + 1, 0, none⟩) 1 1) [(129, 56)]) := Lib.hid (by
    have h := (PlanAt.lit (w := ((w.alloc (.cells #[.string n, .int .i64 9, .int .i64 2] 93)).alloc (.cells #[.func (.func 55) #[] #[], .func (.func 56) #[] #[]] 103))) #[.func (.func 129) #[] #[], .func (.func 56) #[] #[]] [(129, 56)] rfl (by decide)).alloc (.cells #[.func (.func 138) #[] #[], .func (.func 139) #[] #[]] 103)
    simp only [World.size_alloc] at h
    exact h)
  have HP : Hid (PlanAt ((((w.alloc (.cells #[.string n, .int .i64 9, .int .i64 2] 93)).alloc (.cells #[.func (.func 55) #[] #[], .func (.func 56) #[] #[]] 103)).alloc (.cells #[.func (.func 129) #[] #[], .func (.func 56) #[] #[]] 103)).alloc (.cells #[.func (.func 138) #[] #[], .func (.func 139) #[] #[]] 103)) (.slice (some ⟨w.heap.size + 1 + 1 + 1, 0, none⟩) 1 1) [(138, 139)]) := Lib.hid (by
    have h := (PlanAt.lit (w := (((w.alloc (.cells #[.string n, .int .i64 9, .int .i64 2] 93)).alloc (.cells #[.func (.func 55) #[] #[], .func (.func 56) #[] #[]] 103)).alloc (.cells #[.func (.func 129) #[] #[], .func (.func 56) #[] #[]] 103))) #[.func (.func 138) #[] #[], .func (.func 139) #[] #[]] [(138, 139)] rfl (by decide))
    simp only [World.size_alloc] at h
    exact h)
  have HB5 : Hid (Below w.heap.size w ((((w.alloc (.cells #[.string n, .int .i64 9, .int .i64 2] 93)).alloc (.cells #[.func (.func 55) #[] #[], .func (.func 56) #[] #[]] 103)).alloc (.cells #[.func (.func 129) #[] #[], .func (.func 56) #[] #[]] 103)).alloc (.cells #[.func (.func 138) #[] #[], .func (.func 139) #[] #[]] 103))) := Lib.hid (Below.alloc HB.out (by simp; omega) _)
  go_enter Tryz.func97, Tryz.ntmps97
  go_wp2_with (at_builtin; refine wpList_append_plan rfl (.tmp 49) (.tmp 51) (by rfl) _ [(129, 56)] (by rfl) HO.out _ [(138, 139)] (by rfl) HP.out (by decide) ?_; intro v' w1 hP hgrow hat)
  go_ret
  exact ret_grown HB5.out (fun b hb => by simp [Value.ownBlock] at hb ; omega) hP hgrow hat
theorem does_3_9 (n : ByteArray) (w : World) : Calls Tryz.prog 97 #[.agg #[.string n, .int .i64 9, .int .i64 3]] w (PlanRet w [(129, 56), (117, 140), (141, 56), (142, 143)]) := by
  have HB : Hid (Below w.heap.size w (((w.alloc (.cells #[.string n, .int .i64 9, .int .i64 3] 93)).alloc (.cells #[.func (.func 55) #[] #[], .func (.func 56) #[] #[]] 103)).alloc (.cells #[.func (.func 129) #[] #[], .func (.func 56) #[] #[]] 103))) := Lib.hid (Below.alloc (Below.alloc ((Below.refl _ w).alloc (Nat.le_refl _) _) (by simp) _) (by simp; omega) _)
  have HO : Hid (PlanAt ((((w.alloc (.cells #[.string n, .int .i64 9, .int .i64 3] 93)).alloc (.cells #[.func (.func 55) #[] #[], .func (.func 56) #[] #[]] 103)).alloc (.cells #[.func (.func 129) #[] #[], .func (.func 56) #[] #[]] 103)).alloc (.cells #[.func (.func 117) #[] #[], .func (.func 140) #[] #[], .func (.func 141) #[] #[], .func (.func 56) #[] #[], .func (.func 142) #[] #[], .func (.func 143) #[] #[]] 103)) (.slice (some ⟨w.heap.size + 1 + 1, 0, none⟩) 1 1) [(129, 56)]) := Lib.hid (by
    have h := (PlanAt.lit (w := ((w.alloc (.cells #[.string n, .int .i64 9, .int .i64 3] 93)).alloc (.cells #[.func (.func 55) #[] #[], .func (.func 56) #[] #[]] 103))) #[.func (.func 129) #[] #[], .func (.func 56) #[] #[]] [(129, 56)] rfl (by decide)).alloc (.cells #[.func (.func 117) #[] #[], .func (.func 140) #[] #[], .func (.func 141) #[] #[], .func (.func 56) #[] #[], .func (.func 142) #[] #[], .func (.func 143) #[] #[]] 103)
    simp only [World.size_alloc] at h
    exact h)
  have HP : Hid (PlanAt ((((w.alloc (.cells #[.string n, .int .i64 9, .int .i64 3] 93)).alloc (.cells #[.func (.func 55) #[] #[], .func (.func 56) #[] #[]] 103)).alloc (.cells #[.func (.func 129) #[] #[], .func (.func 56) #[] #[]] 103)).alloc (.cells #[.func (.func 117) #[] #[], .func (.func 140) #[] #[], .func (.func 141) #[] #[], .func (.func 56) #[] #[], .func (.func 142) #[] #[], .func (.func 143) #[] #[]] 103)) (.slice (some ⟨w.heap.size + 1 + 1 + 1, 0, none⟩) 3 3) [(117, 140), (141, 56), (142, 143)]) := Lib.hid (by
    have h := (PlanAt.lit (w := (((w.alloc (.cells #[.string n, .int .i64 9, .int .i64 3] 93)).alloc (.cells #[.func (.func 55) #[] #[], .func (.func 56) #[] #[]] 103)).alloc (.cells #[.func (.func 129) #[] #[], .func (.func 56) #[] #[]] 103))) #[.func (.func 117) #[] #[], .func (.func 140) #[] #[], .func (.func 141) #[] #[], .func (.func 56) #[] #[], .func (.func 142) #[] #[], .func (.func 143) #[] #[]] [(117, 140), (141, 56), (142, 143)] rfl (by decide))
    simp only [World.size_alloc] at h
    exact h)
  have HB5 : Hid (Below w.heap.size w ((((w.alloc (.cells #[.string n, .int .i64 9, .int .i64 3] 93)).alloc (.cells #[.func (.func 55) #[] #[], .func (.func 56) #[] #[]] 103)).alloc (.cells #[.func (.func 129) #[] #[], .func (.func 56) #[] #[]] 103)).alloc (.cells #[.func (.func 117) #[] #[], .func (.func 140) #[] #[], .func (.func 141) #[] #[], .func (.func 56) #[] #[], .func (.func 142) #[] #[], .func (.func 143) #[] #[]] 103))) := Lib.hid (Below.alloc HB.out (by simp; omega) _)
  go_enter Tryz.func97, Tryz.ntmps97
  go_wp2_with (at_builtin; refine wpList_append_plan rfl (.tmp 55) (.tmp 59) (by rfl) _ [(129, 56)] (by rfl) HO.out _ [(117, 140), (141, 56), (142, 143)] (by rfl) HP.out (by decide) ?_; intro v' w1 hP hgrow hat)
  go_ret
  exact ret_grown HB5.out (fun b hb => by simp [Value.ownBlock] at hb ; omega) hP hgrow hat
theorem does_5_9 (n : ByteArray) (w : World) : Calls Tryz.prog 97 #[.agg #[.string n, .int .i64 9, .int .i64 5]] w (PlanRet w (flowsL n.toList 9)) := by
  have HB : Hid (Below w.heap.size w (((w.alloc (.cells #[.string n, .int .i64 9, .int .i64 5] 93)).alloc (.cells #[.func (.func 55) #[] #[], .func (.func 56) #[] #[]] 103)).alloc (.cells #[.func (.func 129) #[] #[], .func (.func 56) #[] #[]] 103))) := Lib.hid (Below.alloc (Below.alloc ((Below.refl _ w).alloc (Nat.le_refl _) _) (by simp) _) (by simp; omega) _)
  have HF := Lib.hid (flows_any n 9 5 (((w.alloc (.cells #[.string n, .int .i64 9, .int .i64 5] 93)).alloc (.cells #[.func (.func 55) #[] #[], .func (.func 56) #[] #[]] 103)).alloc (.cells #[.func (.func 129) #[] #[], .func (.func 56) #[] #[]] 103)))
  go_enter Tryz.func97, Tryz.ntmps97
  go_wp2_with (go_at_call 144; refine HF.out.mono ?_; rintro e w3 ⟨v, rfl, hP, hb, hv⟩; have GP := Lib.hid hP; have GB := Lib.hid hb; have GV := Lib.hid hv; clear hP hb hv)
  go_ret
  exact ⟨_, rfl, GP.out, HB.out.trans (GB.out.mono HB.out.size), fun b h => Nat.le_trans HB.out.size (GV.out b h)⟩
theorem does_0_n (mode : Int) (m6 : (mode == 6) = false) (m7 : (mode == 7) = false) (m9 : (mode == 9) = false) (n : ByteArray) (w : World) : Calls Tryz.prog 97 #[.agg #[.string n, .int .i64 mode, .int .i64 0]] w (PlanRet w [(55, 130)]) := by
  have HB : Hid (Below w.heap.size w ((w.alloc (.cells #[.string n, .int .i64 mode, .int .i64 0] 93)).alloc (.cells #[.func (.func 55) #[] #[], .func (.func 56) #[] #[]] 103))) := Lib.hid (Below.alloc ((Below.refl _ w).alloc (Nat.le_refl _) _) (by simp) _)
  go_enter Tryz.func97, Tryz.ntmps97
  go_wp2
  go_ret
  exact ret_lit #[.func (.func 55) #[] #[], .func (.func 130) #[] #[]] [(55, 130)] _ (by simp) HB.out rfl (by decide) 1 rfl
theorem does_6_n (mode : Int) (m6 : (mode == 6) = false) (m7 : (mode == 7) = false) (m9 : (mode == 9) = false) (n : ByteArray) (w : World) : Calls Tryz.prog 97 #[.agg #[.string n, .int .i64 mode, .int .i64 6]] w (PlanRet w [(55, 56), (131, 54)]) := by
  have HB : Hid (Below w.heap.size w ((w.alloc (.cells #[.string n, .int .i64 mode, .int .i64 6] 93)).alloc (.cells #[.func (.func 55) #[] #[], .func (.func 56) #[] #[]] 103))) := Lib.hid (Below.alloc ((Below.refl _ w).alloc (Nat.le_refl _) _) (by simp) _)
  go_enter Tryz.func97, Tryz.ntmps97
  go_wp2
  go_ret
  exact ret_lit #[.func (.func 55) #[] #[], .func (.func 56) #[] #[], .func (.func 131) #[] #[], .func (.func 54) #[] #[]] [(55, 56), (131, 54)] _ (by simp) HB.out rfl (by decide) 2 rfl
theorem does_7_n (mode : Int) (m6 : (mode == 6) = false) (m7 : (mode == 7) = false) (m9 : (mode == 9) = false) (n : ByteArray) (w : World) : Calls Tryz.prog 97 #[.agg #[.string n, .int .i64 mode, .int .i64 7]] w (PlanRet w [(55, 56), (53, 132), (53, 133)]) := by
  have HB : Hid (Below w.heap.size w ((w.alloc (.cells #[.string n, .int .i64 mode, .int .i64 7] 93)).alloc (.cells #[.func (.func 55) #[] #[], .func (.func 56) #[] #[]] 103))) := Lib.hid (Below.alloc ((Below.refl _ w).alloc (Nat.le_refl _) _) (by simp) _)
  go_enter Tryz.func97, Tryz.ntmps97
  go_wp2
  go_ret
  exact ret_lit #[.func (.func 55) #[] #[], .func (.func 56) #[] #[], .func (.func 53) #[] #[], .func (.func 132) #[] #[], .func (.func 53) #[] #[], .func (.func 133) #[] #[]] [(55, 56), (53, 132), (53, 133)] _ (by simp) HB.out rfl (by decide) 3 rfl
theorem does_4_n (mode : Int) (m6 : (mode == 6) = false) (m7 : (mode == 7) = false) (m9 : (mode == 9) = false) (n : ByteArray) (w : World) : Calls Tryz.prog 97 #[.agg #[.string n, .int .i64 mode, .int .i64 4]] w (PlanRet w [(55, 134)]) := by
  have HB : Hid (Below w.heap.size w ((w.alloc (.cells #[.string n, .int .i64 mode, .int .i64 4] 93)).alloc (.cells #[.func (.func 55) #[] #[], .func (.func 56) #[] #[]] 103))) := Lib.hid (Below.alloc ((Below.refl _ w).alloc (Nat.le_refl _) _) (by simp) _)
  go_enter Tryz.func97, Tryz.ntmps97
  go_wp2
  go_ret
  exact ret_lit #[.func (.func 55) #[] #[], .func (.func 134) #[] #[]] [(55, 134)] _ (by simp) HB.out rfl (by decide) 1 rfl
theorem does_8_n (mode : Int) (m6 : (mode == 6) = false) (m7 : (mode == 7) = false) (m9 : (mode == 9) = false) (n : ByteArray) (w : World) : Calls Tryz.prog 97 #[.agg #[.string n, .int .i64 mode, .int .i64 8]] w (PlanRet w [(55, 135), (136, 137)]) := by
  have HB : Hid (Below w.heap.size w ((w.alloc (.cells #[.string n, .int .i64 mode, .int .i64 8] 93)).alloc (.cells #[.func (.func 55) #[] #[], .func (.func 56) #[] #[]] 103))) := Lib.hid (Below.alloc ((Below.refl _ w).alloc (Nat.le_refl _) _) (by simp) _)
  go_enter Tryz.func97, Tryz.ntmps97
  go_wp2
  go_ret
  exact ret_lit #[.func (.func 55) #[] #[], .func (.func 135) #[] #[], .func (.func 136) #[] #[], .func (.func 137) #[] #[]] [(55, 135), (136, 137)] _ (by simp) HB.out rfl (by decide) 2 rfl
theorem does_2_n (mode : Int) (m6 : (mode == 6) = false) (m7 : (mode == 7) = false) (m9 : (mode == 9) = false) (n : ByteArray) (w : World) : Calls Tryz.prog 97 #[.agg #[.string n, .int .i64 mode, .int .i64 2]] w (PlanRet w [(138, 139)]) := by
  have HB : Hid (Below w.heap.size w ((w.alloc (.cells #[.string n, .int .i64 mode, .int .i64 2] 93)).alloc (.cells #[.func (.func 55) #[] #[], .func (.func 56) #[] #[]] 103))) := Lib.hid (Below.alloc ((Below.refl _ w).alloc (Nat.le_refl _) _) (by simp) _)
  have HO : Hid (PlanAt (((w.alloc (.cells #[.string n, .int .i64 mode, .int .i64 2] 93)).alloc (.cells #[.func (.func 55) #[] #[], .func (.func 56) #[] #[]] 103)).alloc (.cells #[.func (.func 138) #[] #[], .func (.func 139) #[] #[]] 103)) (.slice none 0 0) []) := Lib.hid PlanAt.nil
  have HP : Hid (PlanAt (((w.alloc (.cells #[.string n, .int .i64 mode, .int .i64 2] 93)).alloc (.cells #[.func (.func 55) #[] #[], .func (.func 56) #[] #[]] 103)).alloc (.cells #[.func (.func 138) #[] #[], .func (.func 139) #[] #[]] 103)) (.slice (some ⟨w.heap.size + 1 + 1, 0, none⟩) 1 1) [(138, 139)]) := Lib.hid (by
    have h := (PlanAt.lit (w := ((w.alloc (.cells #[.string n, .int .i64 mode, .int .i64 2] 93)).alloc (.cells #[.func (.func 55) #[] #[], .func (.func 56) #[] #[]] 103))) #[.func (.func 138) #[] #[], .func (.func 139) #[] #[]] [(138, 139)] rfl (by decide))
    simp only [World.size_alloc] at h
    exact h)
  have HB5 : Hid (Below w.heap.size w (((w.alloc (.cells #[.string n, .int .i64 mode, .int .i64 2] 93)).alloc (.cells #[.func (.func 55) #[] #[], .func (.func 56) #[] #[]] 103)).alloc (.cells #[.func (.func 138) #[] #[], .func (.func 139) #[] #[]] 103))) := Lib.hid (Below.alloc HB.out (by simp; omega) _)
  go_enter Tryz.func97, Tryz.ntmps97
  go_wp2_with (at_builtin; refine wpList_append_plan rfl (.tmp 49) (.tmp 51) (by rfl) _ [] (by rfl) HO.out _ [(138, 139)] (by rfl) HP.out (by decide) ?_; intro v' w1 hP hgrow hat)
  go_ret
  exact ret_grown HB5.out (fun b hb => by simp [Value.ownBlock] at hb) hP hgrow hat
theorem does_3_n (mode : Int) (m6 : (mode == 6) = false) (m7 : (mode == 7) = false) (m9 : (mode == 9) = false) (n : ByteArray) (w : World) : Calls Tryz.prog 97 #[.agg #[.string n, .int .i64 mode, .int .i64 3]] w (PlanRet w [(117, 140), (141, 56), (142, 143)]) := by
  have HB : Hid (Below w.heap.size w ((w.alloc (.cells #[.string n, .int .i64 mode, .int .i64 3] 93)).alloc (.cells #[.func (.func 55) #[] #[], .func (.func 56) #[] #[]] 103))) := Lib.hid (Below.alloc ((Below.refl _ w).alloc (Nat.le_refl _) _) (by simp) _)
  have HO : Hid (PlanAt (((w.alloc (.cells #[.string n, .int .i64 mode, .int .i64 3] 93)).alloc (.cells #[.func (.func 55) #[] #[], .func (.func 56) #[] #[]] 103)).alloc (.cells #[.func (.func 117) #[] #[], .func (.func 140) #[] #[], .func (.func 141) #[] #[], .func (.func 56) #[] #[], .func (.func 142) #[] #[], .func (.func 143) #[] #[]] 103)) (.slice none 0 0) []) := Lib.hid PlanAt.nil
  have HP : Hid (PlanAt (((w.alloc (.cells #[.string n, .int .i64 mode, .int .i64 3] 93)).alloc (.cells #[.func (.func 55) #[] #[], .func (.func 56) #[] #[]] 103)).alloc (.cells #[.func (.func 117) #[] #[], .func (.func 140) #[] #[], .func (.func 141) #[] #[], .func (.func 56) #[] #[], .func (.func 142) #[] #[], .func (.func 143) #[] #[]] 103)) (.slice (some ⟨w.heap.size + 1 + 1, 0, none⟩) 3 3) [(117, 140), (141, 56), (142, 143)]) := Lib.hid (by
    have h := (PlanAt.lit (w := ((w.alloc (.cells #[.string n, .int .i64 mode, .int .i64 3] 93)).alloc (.cells #[.func (.func 55) #[] #[], .func (.func 56) #[] #[]] 103))) #[.func (.func 117) #[] #[], .func (.func 140) #[] #[], .func (.func 141) #[] #[], .func (.func 56) #[] #[], .func (.func 142) #[] #[], .func (.func 143) #[] #[]] [(117, 140), (141, 56), (142, 143)] rfl (by decide))
    simp only [World.size_alloc] at h
    exact h)
  have HB5 : Hid (Below w.heap.size w (((w.alloc (.cells #[.string n, .int .i64 mode, .int .i64 3] 93)).alloc (.cells #[.func (.func 55) #[] #[], .func (.func 56) #[] #[]] 103)).alloc (.cells #[.func (.func 117) #[] #[], .func (.func 140) #[] #[], .func (.func 141) #[] #[], .func (.func 56) #[] #[], .func (.func 142) #[] #[], .func (.func 143) #[] #[]] 103))) := Lib.hid (Below.alloc HB.out (by simp; omega) _)
  go_enter Tryz.func97, Tryz.ntmps97
  go_wp2_with (at_builtin; refine wpList_append_plan rfl (.tmp 55) (.tmp 59) (by rfl) _ [] (by rfl) HO.out _ [(117, 140), (141, 56), (142, 143)] (by rfl) HP.out (by decide) ?_; intro v' w1 hP hgrow hat)
  go_ret
  exact ret_grown HB5.out (fun b hb => by simp [Value.ownBlock] at hb) hP hgrow hat
theorem does_5_n (mode : Int) (m6 : (mode == 6) = false) (m7 : (mode == 7) = false) (m9 : (mode == 9) = false) (n : ByteArray) (w : World) : Calls Tryz.prog 97 #[.agg #[.string n, .int .i64 mode, .int .i64 5]] w (PlanRet w (flowsL n.toList mode)) := by
  have HB : Hid (Below w.heap.size w ((w.alloc (.cells #[.string n, .int .i64 mode, .int .i64 5] 93)).alloc (.cells #[.func (.func 55) #[] #[], .func (.func 56) #[] #[]] 103))) := Lib.hid (Below.alloc ((Below.refl _ w).alloc (Nat.le_refl _) _) (by simp) _)
  have HF := Lib.hid (flows_any n mode 5 ((w.alloc (.cells #[.string n, .int .i64 mode, .int .i64 5] 93)).alloc (.cells #[.func (.func 55) #[] #[], .func (.func 56) #[] #[]] 103)))
  go_enter Tryz.func97, Tryz.ntmps97
  go_wp2_with (go_at_call 144; refine HF.out.mono ?_; rintro e w3 ⟨v, rfl, hP, hb, hv⟩; have GP := Lib.hid hP; have GB := Lib.hid hb; have GV := Lib.hid hv; clear hP hb hv)
  go_ret
  exact ⟨_, rfl, GP.out, HB.out.trans (GB.out.mono HB.out.size), fun b h => Nat.le_trans HB.out.size (GV.out b h)⟩
theorem does_o_6 (kind : Int) (k0 : (kind == 0) = false) (k6 : (kind == 6) = false) (k7 : (kind == 7) = false) (k4 : (kind == 4) = false) (k8 : (kind == 8) = false) (k2 : (kind == 2) = false) (k3 : (kind == 3) = false) (k5 : (kind == 5) = false) (n : ByteArray) (w : World) : Calls Tryz.prog 97 #[.agg #[.string n, .int .i64 6, .int .i64 kind]] w (PlanRet w [(129, 146)]) := by
  have HB : Hid (Below w.heap.size w (((w.alloc (.cells #[.string n, .int .i64 6, .int .i64 kind] 93)).alloc (.cells #[.func (.func 55) #[] #[], .func (.func 56) #[] #[]] 103)).alloc (.cells #[.func (.func 129) #[] #[], .func (.func 56) #[] #[]] 103))) := Lib.hid (Below.alloc (Below.alloc ((Below.refl _ w).alloc (Nat.le_refl _) _) (by simp) _) (by simp; omega) _)
  go_enter Tryz.func97, Tryz.ntmps97
  go_wp2
  go_ret
  exact ret_lit #[.func (.func 129) #[] #[], .func (.func 146) #[] #[]] [(129, 146)] _ (by simp) HB.out rfl (by decide) 1 rfl
theorem does_o_7 (kind : Int) (k0 : (kind == 0) = false) (k6 : (kind == 6) = false) (k7 : (kind == 7) = false) (k4 : (kind == 4) = false) (k8 : (kind == 8) = false) (k2 : (kind == 2) = false) (k3 : (kind == 3) = false) (k5 : (kind == 5) = false) (n : ByteArray) (w : World) : Calls Tryz.prog 97 #[.agg #[.string n, .int .i64 7, .int .i64 kind]] w (PlanRet w [(129, 146)]) := by
  have HB : Hid (Below w.heap.size w (((w.alloc (.cells #[.string n, .int .i64 7, .int .i64 kind] 93)).alloc (.cells #[.func (.func 55) #[] #[], .func (.func 56) #[] #[]] 103)).alloc (.cells #[.func (.func 129) #[] #[], .func (.func 56) #[] #[]] 103))) := Lib.hid (Below.alloc (Below.alloc ((Below.refl _ w).alloc (Nat.le_refl _) _) (by simp) _) (by simp; omega) _)
  go_enter Tryz.func97, Tryz.ntmps97
  go_wp2
  go_ret
  exact ret_lit #[.func (.func 129) #[] #[], .func (.func 146) #[] #[]] [(129, 146)] _ (by simp) HB.out rfl (by decide) 1 rfl
theorem does_o_9 (kind : Int) (k0 : (kind == 0) = false) (k6 : (kind == 6) = false) (k7 : (kind == 7) = false) (k4 : (kind == 4) = false) (k8 : (kind == 8) = false) (k2 : (kind == 2) = false) (k3 : (kind == 3) = false) (k5 : (kind == 5) = false) (n : ByteArray) (w : World) : Calls Tryz.prog 97 #[.agg #[.string n, .int .i64 9, .int .i64 kind]] w (PlanRet w [(129, 146)]) := by
  have HB : Hid (Below w.heap.size w (((w.alloc (.cells #[.string n, .int .i64 9, .int .i64 kind] 93)).alloc (.cells #[.func (.func 55) #[] #[], .func (.func 56) #[] #[]] 103)).alloc (.cells #[.func (.func 129) #[] #[], .func (.func 56) #[] #[]] 103))) := Lib.hid (Below.alloc (Below.alloc ((Below.refl _ w).alloc (Nat.le_refl _) _) (by simp) _) (by simp; omega) _)
  go_enter Tryz.func97, Tryz.ntmps97
  go_wp2
  go_ret
  exact ret_lit #[.func (.func 129) #[] #[], .func (.func 146) #[] #[]] [(129, 146)] _ (by simp) HB.out rfl (by decide) 1 rfl
theorem does_o_1 (kind : Int) (k0 : (kind == 0) = false) (k6 : (kind == 6) = false) (k7 : (kind == 7) = false) (k4 : (kind == 4) = false) (k8 : (kind == 8) = false) (k2 : (kind == 2) = false) (k3 : (kind == 3) = false) (k5 : (kind == 5) = false) (n : ByteArray) (w : World) : Calls Tryz.prog 97 #[.agg #[.string n, .int .i64 1, .int .i64 kind]] w (PlanRet w [(55, 145)]) := by
  have HB : Hid (Below w.heap.size w ((w.alloc (.cells #[.string n, .int .i64 1, .int .i64 kind] 93)).alloc (.cells #[.func (.func 55) #[] #[], .func (.func 56) #[] #[]] 103))) := Lib.hid (Below.alloc ((Below.refl _ w).alloc (Nat.le_refl _) _) (by simp) _)
  go_enter Tryz.func97, Tryz.ntmps97
  go_wp2
  go_ret
  exact ret_lit #[.func (.func 55) #[] #[], .func (.func 145) #[] #[]] [(55, 145)] _ (by simp) HB.out rfl (by decide) 1 rfl
theorem does_o_n (mode kind : Int) (m6 : (mode == 6) = false) (m7 : (mode == 7) = false) (m9 : (mode == 9) = false) (m1 : (mode == 1) = false) (k0 : (kind == 0) = false) (k6 : (kind == 6) = false) (k7 : (kind == 7) = false) (k4 : (kind == 4) = false) (k8 : (kind == 8) = false) (k2 : (kind == 2) = false) (k3 : (kind == 3) = false) (k5 : (kind == 5) = false) (n : ByteArray) (w : World) : Calls Tryz.prog 97 #[.agg #[.string n, .int .i64 mode, .int .i64 kind]] w (PlanRet w [(117, 147)]) := by
  have HB : Hid (Below w.heap.size w ((w.alloc (.cells #[.string n, .int .i64 mode, .int .i64 kind] 93)).alloc (.cells #[.func (.func 55) #[] #[], .func (.func 56) #[] #[]] 103))) := Lib.hid (Below.alloc ((Below.refl _ w).alloc (Nat.le_refl _) _) (by simp) _)
  go_enter Tryz.func97, Tryz.ntmps97
  go_wp2
  go_ret
  exact ret_lit #[.func (.func 117) #[] #[], .func (.func 147) #[] #[]] [(117, 147)] _ (by simp) HB.out rfl (by decide) 1 rfl
theorem does_any (n : ByteArray) (mode kind : Int) (w : World) : Calls Tryz.prog 97 #[.agg #[.string n, .int .i64 mode, .int .i64 kind]] w (PlanRet w (doesL n.toList mode kind)) := by
  by_cases k0 : kind = 0
  · subst k0
    by_cases m6 : mode = 6
    · subst m6; exact does_0_6 n w
    by_cases m7 : mode = 7
    · subst m7; exact does_0_7 n w
    by_cases m9 : mode = 9
    · subst m9; exact does_0_9 n w
    have e : doesL n.toList mode 0 = [(55, 130)] := by simp [doesL]
    rw [e]
    exact does_0_n mode (by simp [m6]) (by simp [m7]) (by simp [m9]) n w
  by_cases k6 : kind = 6
  · subst k6
    by_cases m6 : mode = 6
    · subst m6; exact does_6_6 n w
    by_cases m7 : mode = 7
    · subst m7; exact does_6_7 n w
    by_cases m9 : mode = 9
    · subst m9; exact does_6_9 n w
    have e : doesL n.toList mode 6 = [(55, 56), (131, 54)] := by simp [doesL]
    rw [e]
    exact does_6_n mode (by simp [m6]) (by simp [m7]) (by simp [m9]) n w
  by_cases k7 : kind = 7
  · subst k7
    by_cases m6 : mode = 6
    · subst m6; exact does_7_6 n w
    by_cases m7 : mode = 7
    · subst m7; exact does_7_7 n w
    by_cases m9 : mode = 9
    · subst m9; exact does_7_9 n w
    have e : doesL n.toList mode 7 = [(55, 56), (53, 132), (53, 133)] := by simp [doesL]
    rw [e]
    exact does_7_n mode (by simp [m6]) (by simp [m7]) (by simp [m9]) n w
  by_cases k4 : kind = 4
  · subst k4
    by_cases m6 : mode = 6
    · subst m6; exact does_4_6 n w
    by_cases m7 : mode = 7
    · subst m7; exact does_4_7 n w
    by_cases m9 : mode = 9
    · subst m9; exact does_4_9 n w
    have e : doesL n.toList mode 4 = [(55, 134)] := by simp [doesL]
    rw [e]
    exact does_4_n mode (by simp [m6]) (by simp [m7]) (by simp [m9]) n w
  by_cases k8 : kind = 8
  · subst k8
    by_cases m6 : mode = 6
    · subst m6; exact does_8_6 n w
    by_cases m7 : mode = 7
    · subst m7; exact does_8_7 n w
    by_cases m9 : mode = 9
    · subst m9; exact does_8_9 n w
    have e : doesL n.toList mode 8 = [(55, 135), (136, 137)] := by simp [doesL]
    rw [e]
    exact does_8_n mode (by simp [m6]) (by simp [m7]) (by simp [m9]) n w
  by_cases k2 : kind = 2
  · subst k2
    by_cases m6 : mode = 6
    · subst m6; exact does_2_6 n w
    by_cases m7 : mode = 7
    · subst m7; exact does_2_7 n w
    by_cases m9 : mode = 9
    · subst m9; exact does_2_9 n w
    have e : doesL n.toList mode 2 = [(138, 139)] := by simp [doesL, roughL, m6, m7, m9]
    rw [e]
    exact does_2_n mode (by simp [m6]) (by simp [m7]) (by simp [m9]) n w
  by_cases k3 : kind = 3
  · subst k3
    by_cases m6 : mode = 6
    · subst m6; exact does_3_6 n w
    by_cases m7 : mode = 7
    · subst m7; exact does_3_7 n w
    by_cases m9 : mode = 9
    · subst m9; exact does_3_9 n w
    have e : doesL n.toList mode 3 = [(117, 140), (141, 56), (142, 143)] := by simp [doesL, roughL, m6, m7, m9]
    rw [e]
    exact does_3_n mode (by simp [m6]) (by simp [m7]) (by simp [m9]) n w
  by_cases k5 : kind = 5
  · subst k5
    by_cases m6 : mode = 6
    · subst m6; exact does_5_6 n w
    by_cases m7 : mode = 7
    · subst m7; exact does_5_7 n w
    by_cases m9 : mode = 9
    · subst m9; exact does_5_9 n w
    have e : doesL n.toList mode 5 = flowsL n.toList mode := by simp [doesL]
    rw [e]
    exact does_5_n mode (by simp [m6]) (by simp [m7]) (by simp [m9]) n w
  by_cases m6 : mode = 6
  · subst m6
    have e : doesL n.toList 6 kind = [(129, 146)] := by simp [doesL, k0, k6, k7, k4, k8, k2, k3, k5]
    rw [e]
    exact does_o_6 kind (by simp [k0]) (by simp [k6]) (by simp [k7]) (by simp [k4]) (by simp [k8]) (by simp [k2]) (by simp [k3]) (by simp [k5]) n w
  by_cases m7 : mode = 7
  · subst m7
    have e : doesL n.toList 7 kind = [(129, 146)] := by simp [doesL, k0, k6, k7, k4, k8, k2, k3, k5]
    rw [e]
    exact does_o_7 kind (by simp [k0]) (by simp [k6]) (by simp [k7]) (by simp [k4]) (by simp [k8]) (by simp [k2]) (by simp [k3]) (by simp [k5]) n w
  by_cases m9 : mode = 9
  · subst m9
    have e : doesL n.toList 9 kind = [(129, 146)] := by simp [doesL, k0, k6, k7, k4, k8, k2, k3, k5]
    rw [e]
    exact does_o_9 kind (by simp [k0]) (by simp [k6]) (by simp [k7]) (by simp [k4]) (by simp [k8]) (by simp [k2]) (by simp [k3]) (by simp [k5]) n w
  by_cases m1 : mode = 1
  · subst m1
    have e : doesL n.toList 1 kind = [(55, 145)] := by simp [doesL, k0, k6, k7, k4, k8, k2, k3, k5]
    rw [e]
    exact does_o_1 kind (by simp [k0]) (by simp [k6]) (by simp [k7]) (by simp [k4]) (by simp [k8]) (by simp [k2]) (by simp [k3]) (by simp [k5]) n w
  have e : doesL n.toList mode kind = [(117, 147)] := by simp [doesL, k0, k6, k7, k4, k8, k2, k3, k5, m1, m6, m7, m9]
  rw [e]
  exact does_o_n mode kind (by simp [m6]) (by simp [m7]) (by simp [m9]) (by simp [m1]) (by simp [k0]) (by simp [k6]) (by simp [k7]) (by simp [k4]) (by simp [k8]) (by simp [k2]) (by simp [k3]) (by simp [k5]) n w
end Go.Proofs.YtifajfjiloajfaaGreatDoor.OwnCpu

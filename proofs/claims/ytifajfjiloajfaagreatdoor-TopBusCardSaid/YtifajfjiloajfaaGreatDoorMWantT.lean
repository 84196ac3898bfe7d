/- All that the processor's cycles ask for, in one table; what is taken leaves what the processor holds in range. Conditions: the processor is a block of its cells, what it holds is in range. · The processor anew; what it tells; its next access. Conditions: the processor is a block of its cells, its plan a row of its own, what it holds is in range. · The processor's next access. Conditions: the processor is a block of its cells, its plan a row of its own, what it holds is in range. -/
import Derived.Test.YtifajfjiloajfaaGreatDoorMTakes
import Derived.BigQuiet
import Derived.Deep.QuietTactic
namespace Go.Proofs.YtifajfjiloajfaaGreatDoor.OwnCpu
open Go.RowKit Go.Proofs.YtifajfjiloajfaaGreatDoor.Own Go.Proofs.YtifajfjiloajfaaGreatDoor.OwnEff Go.Proofs.YtifajfjiloajfaaGreatDoor.OwnAddr

/-- What a cycle asks for: an address, a byte, whether it is written. -/
def wantS (k : Nat) (c : C) : Int × Int × Bool :=
  match k with
  | 53 => (256 + c.r.s, 0, false)
  | 55 => (c.r.pc, 0, false)
  | 58 => (c.vector, 0, false)
  | 60 => (IntKind.u16.wrap (c.vector + 1), 0, false)
  | 107 => (256 + c.r.s, c.r.pc / 256, true)
  | 108 => (256 + c.r.s, IntKind.u8.wrap c.r.pc, true)
  | 109 => (256 + c.r.s, flagsV c, true)
  | 117 => (c.place, 0, false)
  | 123 => (c.low, 0, false)
  | 126 => ((IntKind.u8.wrap c.base + 1) % 256, 0, false)
  | 129 => (c.rough, 0, false)
  | 131 => (256 + c.r.s, pushesV c.name.toList c.r, true)
  | 136 => (65535, 0, false)
  | 138 => (storedA c (writesV c.name.toList c.r (c.base / 256)), writesV c.name.toList c.r (c.base / 256), true)
  | 141 => (c.place, c.m, true)
  | 142 => (c.place, (modR c.name.toList c.r c.m).2, true)
  | _ => (roughV c.place 1, 0, false)
theorem want_any (k : Nat) (hk : k ∈ wantIds) (g : Nat) (c : C) (v : Value) (w : World) (h : CAt w g c v) (ho : c.ok) :
    Calls Tryz.prog k #[.pointer (some ⟨g, 0, none⟩)] w fun e w' => e = .returned (.agg #[.int .u16 (wantS k c).1, .int .u8 (wantS k c).2.1, .bool (wantS k c).2.2]) ∧ Below w.heap.size w w' := by
  simp only [wantIds, List.mem_cons, List.mem_nil_iff, or_false] at hk
  have hs := ho.r.2.2.2.1
  have hpc := ho.r.2.2.2.2.2
  rcases hk with rfl | rfl | rfl | rfl | rfl | rfl | rfl | rfl | rfl | rfl | rfl | rfl | rfl | rfl | rfl | rfl | rfl
  · exact stackW_any g c v w h hs
  · exact pc_any g c v w h
  · exact vectorLow_any g c v w h
  · exact vectorHigh_any g c v w h
  · exact pushHigh_any g c v w h hs hpc.1 hpc.2
  · exact pushLow_any g c v w h hs
  · exact pushFlags_any g c v w h hs
  · exact there_any g c v w h
  · exact pointer_any g c v w h ho.low
  · exact pointed_any g c v w h
  · exact roughly_any g c v w h
  · exact pushReg_any g c v w h hs
  · exact last_any g w
  · exact stored_any g c v w h ho.r ho.base.1 ho.base.2
  · exact old_any g c v w h
  · exact changed_any g c v w h ho.r ho.m
  · exact behind_any g c v w h ho.place.1 ho.place.2
theorem pc_wrap (n : Int) : 0 ≤ IntKind.u16.wrap n ∧ IntKind.u16.wrap n < 65536 := by rw [w16]; omega
theorem word_16 {h l : Int} (hh : By h) (hl : By l) : W16 (h * 256 + l) := by
  unfold By W16 at *
  omega
theorem by_16 {n : Int} (h : By n) : W16 n := by
  unfold By W16 at *
  omega
theorem R.ok_pc {r : R} (h : r.ok) (n : Int) (hn : 0 ≤ n ∧ n < 65536) : R.ok { r with pc := n } := ⟨h.1, h.2.1, h.2.2.1, h.2.2.2.1, h.2.2.2.2.1, hn.1, hn.2⟩
theorem R.ok_s {r : R} (h : r.ok) (n : Int) (hn : By n) : R.ok { r with s := n } := ⟨h.1, h.2.1, h.2.2.1, hn, h.2.2.2.2.1, h.2.2.2.2.2⟩
theorem R.ok_sp {r : R} (h : r.ok) (n p : Int) (hn : By n) (hp : By p) : R.ok { r with s := n, p := p } := ⟨h.1, h.2.1, h.2.2.1, hn, hp, h.2.2.2.2.2⟩
theorem m256 (n : Int) : By (n % 256) := mod_by n
theorem take_ok (k : Nat) (hk : k ∈ takeIds) (c : C) (pl : List (Nat × Nat)) (d : Int) (ho : c.ok) (hd : By d) : (takeS k c pl d).1.ok := by
  obtain ⟨hr, hl, hm, hb, hro, hpl, hv⟩ := ho
  simp only [takeIds, List.mem_cons, List.mem_nil_iff, or_false] at hk
  have hpc := pc_wrap (c.r.pc + 1)
  have hR1 := R.ok_pc hr _ hpc
  rcases hk with rfl | rfl | rfl | rfl | rfl | rfl | rfl | rfl | rfl | rfl | rfl | rfl | rfl | rfl | rfl | rfl | rfl | rfl | rfl | rfl | rfl | rfl | rfl | rfl | rfl | rfl | rfl | rfl | rfl | rfl | rfl | rfl | rfl | rfl
  · exact ⟨R.ok_s hr _ (m256 _), hl, hm, hb, hro, hpl, hv⟩
  · exact ⟨hr, hl, hm, hb, hro, hpl, hv⟩
  · exact ⟨R.ok_sp hr _ _ (m256 _) (bits_by _ _ _), hl, hm, hb, hro, hpl, (show W16 65532 from ⟨by decide, by decide⟩)⟩
  · exact ⟨hr, hd, hm, hb, hro, hpl, hv⟩
  · exact ⟨R.ok_pc hr _ (word_16 hd hl), hl, hm, hb, hro, hpl, hv⟩
  · refine ⟨R.ok_sp hr _ _ (m256 _) (bits_by _ _ _), hl, hm, hb, hro, hpl, ?_⟩
    show W16 (if c.latch = true then 65530 else 65534)
    split <;> exact ⟨by decide, by decide⟩
  · exact ⟨hR1, hd, hm, hb, hro, hpl, hv⟩
  · exact ⟨hR1, hl, hm, hb, hro, by_16 hd, hv⟩
  · exact ⟨hr, hl, hm, hb, hro, by_16 (m256 _), hv⟩
  · exact ⟨hr, hl, hm, hb, hro, by_16 (m256 _), hv⟩
  · exact ⟨hR1, hl, hm, hb, hro, word_16 hd hl, hv⟩
  · have hw := word_16 hd hl
    exact ⟨hR1, hl, hm, hw, rough_range _ _ hw.1 hw.2, right_range _ _, hv⟩
  · have hw := word_16 hd hl
    exact ⟨hR1, hl, hm, hw, rough_range _ _ hw.1 hw.2, right_range _ _, hv⟩
  · exact ⟨hr, m256 _, hm, hb, hro, hpl, hv⟩
  · exact ⟨hr, hd, hm, by_16 hl, hro, hpl, hv⟩
  · exact ⟨hr, hl, hm, hb, hro, word_16 hd hl, hv⟩
  · have hw := word_16 hd hl
    exact ⟨hr, hl, hm, hw, rough_range _ _ hw.1 hw.2, right_range _ _, hv⟩
  · exact ⟨innerR_ok hr, hl, hm, hb, hro, hpl, hv⟩
  · exact ⟨R.ok_s hr _ (m256 _), hl, hm, hb, hro, hpl, hv⟩
  · exact ⟨pullsR_ok hr hd, hl, hm, hb, hro, hpl, hv⟩
  · exact ⟨hr, hl, hm, hb, hro, hpl, hv⟩
  · exact ⟨writesR_ok hr, hl, hm, hb, hro, hpl, hv⟩
  · exact ⟨hr, hl, hd, hb, hro, hpl, hv⟩
  · exact ⟨(modR_ok hr hm).1, hl, (modR_ok hr hm).2, hb, hro, hpl, hv⟩
  · exact ⟨readsR_ok hR1 hd, hl, hm, hb, hro, hpl, hv⟩
  · exact ⟨readsR_ok hr hd, hl, hm, hb, hro, hpl, hv⟩
  · exact ⟨R.ok_s hr _ (m256 _), hd, hm, hb, hro, hpl, hv⟩
  · exact ⟨hR1, hl, hm, hb, hro, hpl, hv⟩
  · exact ⟨pullsR_ok (R.ok_s hr _ (m256 _)) hd, hl, hm, hb, hro, hpl, hv⟩
  · show C.ok (if (c.rough == c.place) = true then ({ c with r := readsR c.name.toList c.r d }, pl) else (c, pl ++ [(117, 147)])).1
    split
    · exact ⟨readsR_ok hr hd, hl, hm, hb, hro, hpl, hv⟩
    · exact ⟨hr, hl, hm, hb, hro, hpl, hv⟩
  · show C.ok (if (c.rough != c.place) = true then ({ c with r := { c.r with pc := c.place }, quiet := false }, pl ++ [(129, 56)]) else ({ c with r := { c.r with pc := c.place } }, pl)).1
    split
    · exact ⟨R.ok_pc hr _ hpl, hl, hm, hb, hro, hpl, hv⟩
    · exact ⟨R.ok_pc hr _ hpl, hl, hm, hb, hro, hpl, hv⟩
  · show C.ok (branchC c d)
    unfold branchC
    split
    · exact ⟨hR1, hl, hm, hb, rough_range _ _ hpc.1 hpc.2, right_range _ _, hv⟩
    · exact ⟨hR1, hl, hm, hb, hro, hpl, hv⟩
  · exact ⟨hr, hl, hm, hb, hro, hpl, hv⟩
  · exact ⟨hR1, hl, hm, hb, hro, hpl, hv⟩
/-- What a take leaves alone: nothing is due, no edge waits; it lengthens the plan by one cycle at most, unless it takes an opcode. -/
theorem take_calm (k : Nat) (hk : k ∈ takeIds) (c : C) (pl : List (Nat × Nat)) (d : Int) (hdue : c.due = false) (hla : c.latch = false) (hwas : c.was = false) :
    (takeS k c pl d).1.due = false ∧ (takeS k c pl d).1.latch = false ∧ (takeS k c pl d).1.was = false := by
  simp only [takeIds, List.mem_cons, List.mem_nil_iff, or_false] at hk
  rcases hk with rfl | rfl | rfl | rfl | rfl | rfl | rfl | rfl | rfl | rfl | rfl | rfl | rfl | rfl | rfl | rfl | rfl | rfl | rfl | rfl | rfl | rfl | rfl | rfl | rfl | rfl | rfl | rfl | rfl | rfl | rfl | rfl | rfl | rfl
  all_goals first
    | exact ⟨hdue, hla, hwas⟩
    | exact ⟨hdue, rfl, hwas⟩
    | exact ⟨rfl, hla, hwas⟩
    | (simp only [takeS, branchC]; split <;> exact ⟨hdue, hla, hwas⟩)
theorem take_plan (k : Nat) (hk : k ∈ takeIds) (h70 : k ≠ 70) (c : C) (pl : List (Nat × Nat)) (d : Int) (hp : pl.all okPair = true) :
    (takeS k c pl d).2.all okPair = true ∧ pl.length ≤ (takeS k c pl d).2.length ∧ (takeS k c pl d).2.length ≤ pl.length + 1 ∧ ((takeS k c pl d).1.at_ = c.at_ ∨ (k = 137 ∧ (takeS k c pl d).1.at_ = c.at_ - 1)) := by
  simp only [takeIds, List.mem_cons, List.mem_nil_iff, or_false] at hk
  rcases hk with rfl | rfl | rfl | rfl | rfl | rfl | rfl | rfl | rfl | rfl | rfl | rfl | rfl | rfl | rfl | rfl | rfl | rfl | rfl | rfl | rfl | rfl | rfl | rfl | rfl | rfl | rfl | rfl | rfl | rfl | rfl | rfl | rfl | rfl
  all_goals first
    | exact ⟨hp, Nat.le_refl _, Nat.le_succ _, .inl rfl⟩
    | exact ⟨hp, Nat.le_refl _, Nat.le_succ _, .inr ⟨rfl, rfl⟩⟩
    | exact absurd rfl h70
    | (simp only [takeS, branchC]; split <;> first | exact ⟨hp, Nat.le_refl _, Nat.le_succ _, .inl rfl⟩ | (refine ⟨?_, by simp, by simp, .inl rfl⟩; rw [List.all_append, hp]; decide))
theorem first_plan (c : C) (d : Int) : ([(55, 70)] ++ firstL d.toNat).length ≤ 21 ∧ (firstL d.toNat).all okPair = true := by
  have h1 := placesL_len (modeI d.toNat) (kindI d.toNat)
  have h2 := doesL_len (nameN d.toNat).toList (modeI d.toNat) (kindI d.toNat)
  have _ := c
  unfold firstL
  refine ⟨by simp only [List.length_append, List.length_cons, List.length_nil]; omega, ?_⟩
  rw [List.all_append, placesL_ok, doesL_ok]
  rfl
end Go.Proofs.YtifajfjiloajfaaGreatDoor.OwnCpu
namespace Go.Proofs.YtifajfjiloajfaaGreatDoor.OwnCpu
open Go.RowKit Go.Proofs.YtifajfjiloajfaaGreatDoor.Own Go.Proofs.YtifajfjiloajfaaGreatDoor.OwnEff Go.Proofs.YtifajfjiloajfaaGreatDoor.OwnAddr

theorem regs_any (g : Nat) (c : C) (v : Value) (w : World) (h : CAt w g c v) : Calls Tryz.prog 16 #[.pointer (some ⟨g, 0, none⟩)] w fun e w' => e = .returned c.r.val ∧ Below w.heap.size w w' := by
  have h0 : w.cell? ⟨g, 0, none⟩ = some (.int .u8 c.r.a) := (Blk.cell h 0).trans rfl
  have h1 : w.cell? ⟨g, 1, none⟩ = some (.int .u8 c.r.x) := (Blk.cell h 1).trans rfl
  have h2 : w.cell? ⟨g, 2, none⟩ = some (.int .u8 c.r.y) := (Blk.cell h 2).trans rfl
  have h3 : w.cell? ⟨g, 3, none⟩ = some (.int .u8 c.r.s) := (Blk.cell h 3).trans rfl
  have h4 : w.cell? ⟨g, 4, none⟩ = some (.int .u8 c.r.p) := (Blk.cell h 4).trans rfl
  have h5 : w.cell? ⟨g, 5, none⟩ = some (.int .u16 c.r.pc) := (Blk.cell h 5).trans rfl
  have hlt := Blk.lt h
  clear h
  go_enter Tryz.func16, Tryz.ntmps16
  go_wp2
  refine bodyPost_ret (v := .agg #[.int .u8 c.r.a, .int .u8 c.r.x, .int .u8 c.r.y, .int .u8 c.r.s, .int .u8 c.r.p, .int .u16 c.r.pc]) ?_ rfl ⟨rfl, (Below.refl _ _).alloc (Nat.le_refl _) _⟩
  simp [results, Tryz.results16, go_sem]
theorem jammed_any (g : Nat) (c : C) (v : Value) (w : World) (h : CAt w g c v) : Calls Tryz.prog 20 #[.pointer (some ⟨g, 0, none⟩)] w fun e w' => e = .returned (.bool c.jammed) ∧ w = w' := by
  have h22 : w.cell? ⟨g, 22, none⟩ = some (.bool c.jammed) := (Blk.cell h 22).trans rfl
  go_enter Tryz.func20, Tryz.ntmps20
  go_wp2
  go_ret
  exact ⟨rfl, rfl⟩
def idleB (c : C) (pl : List (Nat × Nat)) : Bool := c.at_ == 0 && pl.length == 1
theorem idle_any (g : Nat) (c : C) (v : Value) (pl : List (Nat × Nat)) (w : World) (h : CAt w g c v) (hp : PlanAt w v pl) : Calls Tryz.prog 18 #[.pointer (some ⟨g, 0, none⟩)] w fun e w' => e = .returned (.bool (idleB c pl)) ∧ w = w' := by
  obtain ⟨A, cap, hv⟩ := hp.form
  have h9 : w.cell? ⟨g, 9, none⟩ = some (.slice A pl.length cap) := by rw [← hv]; exact (Blk.cell h 9).trans rfl
  have h10 : w.cell? ⟨g, 10, none⟩ = some (.int .i64 (c.at_ : Int)) := (Blk.cell h 10).trans rfl
  clear h hp hv
  obtain ⟨n, hn⟩ : ∃ n, n = pl.length := ⟨_, rfl⟩
  obtain ⟨a, ha⟩ : ∃ a, a = c.at_ := ⟨_, rfl⟩
  unfold idleB
  rw [← hn] at h9 ⊢
  rw [← ha] at h10 ⊢
  clear hn ha
  by_cases h0 : a = 0
  · subst h0
    by_cases h1 : n = 1
    · subst h1
      go_enter Tryz.func18, Tryz.ntmps18
      go_wp2
      go_ret
      exact ⟨rfl, rfl⟩
    · have h1' : ((n : Int) == 1) = false := by simp; omega
      have h1n : (n == 1) = false := by simpa using h1
      go_enter Tryz.func18, Tryz.ntmps18
      go_wp2
      go_ret
      exact ⟨by simp [h1n], rfl⟩
  · have h0' : ((a : Int) == 0) = false := by simp; omega
    have h0n : (a == 0) = false := by simpa using h0
    go_enter Tryz.func18, Tryz.ntmps18
    go_wp2
    go_ret
    exact ⟨by simp [h0n], rfl⟩
def newC : C := { r := { a := 0, x := 0, y := 0, s := 0, p := 36, pc := 0 }, name := ⟨#[]⟩, mode := 0, kind := 0, at_ := 0, low := 0, m := 0, base := 0, rough := 0, place := 0, vector := 0, quiet := true, soft := false, was := false, latch := false, due := false, jammed := false }
theorem new_any (w : World) : Calls Tryz.prog 10 #[] w fun e w' => e = .returned (.pointer (some ⟨w.heap.size, 0, none⟩)) ∧ Below w.heap.size w w' ∧ ∃ v, CAt w' w.heap.size newC v ∧ PlanAt w' v resetL ∧ v.ownBlock ≠ some w.heap.size ∧ (∀ b, v.ownBlock = some b → w.heap.size ≤ b) := by
  have h : CAt (w.alloc (.cells (({ newC with quiet := false } : C).cells (.slice none 0 0)) 96)) w.heap.size { newC with quiet := false } (.slice none 0 0) := Blk.new w 96 _
  have HR := Lib.hid ((reset_any w.heap.size { newC with quiet := false } (.slice none 0 0) _ h).mono (R' := fun e w' => e = .returned (.tuple #[]) ∧ Below w.heap.size w w' ∧ ∃ v, CAt w' w.heap.size newC v ∧ PlanAt w' v resetL ∧ v.ownBlock ≠ some w.heap.size ∧ (∀ b, v.ownBlock = some b → w.heap.size ≤ b)) (fun e w' ⟨q1, v', q2, q3, q4, q5, q6⟩ => ⟨q1, ⟨q6.os, q6.tape, q6.output, by have := q6.size; simp at this; omega, fun k hk => (q6.block k (by simp; omega) (by simp [Value.ownBlock]; omega)).trans (Below.heap_alloc w _ k hk)⟩, v', q2, q3, q4, fun b hb => by
    rcases q5 b hb with hh | hh
    · simp [Value.ownBlock] at hh
    · simp at hh; omega⟩))
  clear h
  go_enter Tryz.func10, Tryz.ntmps10
  go_wp2_with (go_at_call 36; refine HR.out.mono ?_; rintro e w3 ⟨rfl, hb, hv⟩; have GB := Lib.hid hb; have GV := Lib.hid hv; clear hb hv)
  go_ret
  exact ⟨rfl, GB.out, GV.out⟩
end Go.Proofs.YtifajfjiloajfaaGreatDoor.OwnCpu
namespace Go.Proofs.YtifajfjiloajfaaGreatDoor.OwnCpu
open Go.RowKit Go.Proofs.YtifajfjiloajfaaGreatDoor.Own Go.Proofs.YtifajfjiloajfaaGreatDoor.OwnEff Go.Proofs.YtifajfjiloajfaaGreatDoor.OwnAddr

theorem PlanAt.spot2 {w : World} {v : Value} {pl : List (Nat × Nat)} (h : PlanAt w v pl) (k : Nat) (hk : k < pl.length) : ∃ b cap, v = .slice (some ⟨b, 0, none⟩) pl.length cap ∧ b < w.heap.size ∧ w.cell? ⟨b, k * 2, none⟩ = some (.func (.func pl[k].1) #[] #[]) ∧ w.cell? ⟨b, k * 2 + 1, none⟩ = some (.func (.func pl[k].2) #[] #[]) := by
  obtain ⟨b, cap, h1, h2, h3⟩ := h.spot (by omega)
  have := h3 k hk
  rw [Nat.mul_comm] at this
  exact ⟨b, cap, h1, h2, this⟩
theorem enter_want (k : Nat) (hk : k ∈ wantIds) (args : Array Value) (w : World) : (callFunc k args).run Tryz.prog w = .ok (.enter k args) w := by
  simp only [wantIds, List.mem_cons, List.mem_nil_iff, or_false] at hk
  rcases hk with rfl | rfl | rfl | rfl | rfl | rfl | rfl | rfl | rfl | rfl | rfl | rfl | rfl | rfl | rfl | rfl | rfl
  all_goals kernel_rfl
theorem enter_take (k : Nat) (hk : k ∈ takeIds) (args : Array Value) (w : World) : (callFunc k args).run Tryz.prog w = .ok (.enter k args) w := by
  simp only [takeIds, List.mem_cons, List.mem_nil_iff, or_false] at hk
  rcases hk with rfl | rfl | rfl | rfl | rfl | rfl | rfl | rfl | rfl | rfl | rfl | rfl | rfl | rfl | rfl | rfl | rfl | rfl | rfl | rfl | rfl | rfl | rfl | rfl | rfl | rfl | rfl | rfl | rfl | rfl | rfl | rfl | rfl | rfl
  all_goals kernel_rfl
set_option maxHeartbeats 6400000 in
set_option maxRecDepth 100000 in
theorem cnext_any (g : Nat) (c : C) (v : Value) (pl : List (Nat × Nat)) (w : World) (h : CAt w g c v) (hp : PlanAt w v pl) (ho : c.ok) (hk : c.at_ < pl.length) (hw : pl[c.at_].1 ∈ wantIds) :
    Calls Tryz.prog 12 #[.pointer (some ⟨g, 0, none⟩)] w fun e w' => e = .returned (.agg #[.int .u16 (wantS pl[c.at_].1 c).1, .int .u8 (wantS pl[c.at_].1 c).2.1, .bool (wantS pl[c.at_].1 c).2.2]) ∧ Below w.heap.size w w' := by
  obtain ⟨b, cap, hv, hb, hc1, hc2⟩ := hp.spot2 c.at_ hk
  clear hc2
  have h9 : w.cell? ⟨g, 9, none⟩ = some (.slice (some ⟨b, 0, none⟩) pl.length cap) := by rw [← hv]; exact (Blk.cell h 9).trans rfl
  have h10 : w.cell? ⟨g, 10, none⟩ = some (.int .i64 (c.at_ : Int)) := (Blk.cell h 10).trans rfl
  have hlt := Blk.lt h
  obtain ⟨k1, hk1⟩ : ∃ k, k = pl[c.at_].1 := ⟨_, rfl⟩
  rw [← hk1] at hw hc1 ⊢
  obtain ⟨A, hA⟩ : ∃ x, x = (wantS k1 c).1 := ⟨_, rfl⟩
  obtain ⟨D, hD⟩ : ∃ x, x = (wantS k1 c).2.1 := ⟨_, rfl⟩
  obtain ⟨B, hB⟩ : ∃ x, x = (wantS k1 c).2.2 := ⟨_, rfl⟩
  have HM : Hid (∀ W, Gd w W → Calls Tryz.prog k1 #[.pointer (some ⟨g, 0, none⟩)] W fun e w' => e = .returned (.agg #[.int .u16 A, .int .u8 D, .bool B]) ∧ Gd w w') := Lib.hid (fun W hg => by
    have q := (want_any k1 hw g c v W (Blk.below h (Gd.below hg) hlt) ho).mono (R' := fun e w' => e = .returned (.agg #[.int .u16 (wantS k1 c).1, .int .u8 (wantS k1 c).2.1, .bool (wantS k1 c).2.2]) ∧ Gd w w') (fun _ _ k => ⟨k.1, hg.next k.2⟩)
    rw [← hA, ← hD, ← hB] at q
    exact q)
  rw [← hA, ← hD, ← hB]
  have hcf := enter_want k1 hw
  clear hA hD hB hw ho
  obtain ⟨n, hn⟩ : ∃ n, n = pl.length := ⟨_, rfl⟩
  obtain ⟨a, ha⟩ : ∃ a, a = c.at_ := ⟨_, rfl⟩
  rw [← hn] at h9
  rw [← ha] at h10 hc1
  have i0 : (0 : Int) ≤ (a : Int) := Int.natCast_nonneg a
  have i1 : (a : Int) < (n : Int) := by omega
  have HC : Hid (∀ w', Gd w w' → (w'.cell? ⟨g, 9, none⟩ = some (.slice (some ⟨b, 0, none⟩) n cap) ∧ w'.cell? ⟨g, 10, none⟩ = some (.int .i64 (a : Int)) ∧ w'.cell? ⟨b, a * 2, none⟩ = some (.func (.func k1) #[] #[]))) := Lib.hid (fun w' hg => ⟨((Gd.below hg).cell hlt).trans h9, ((Gd.below hg).cell hlt).trans h10, ((Gd.below hg).cell hb).trans hc1⟩)
  clear hn ha hk hp hv hk1
  have HK3 : Hid (∀ (w' : World) (v0 v1 v2 : Value), (w'.cell? ⟨g, 9, none⟩ = some (.slice (some ⟨b, 0, none⟩) n cap) ∧ w'.cell? ⟨g, 10, none⟩ = some (.int .i64 (a : Int)) ∧ w'.cell? ⟨b, a * 2, none⟩ = some (.func (.func k1) #[] #[])) → ((((w'.setCell ⟨w.heap.size, 0, none⟩ v0).setCell ⟨w.heap.size, 1, none⟩ v1).setCell ⟨w.heap.size, 2, none⟩ v2).cell? ⟨g, 9, none⟩ = some (.slice (some ⟨b, 0, none⟩) n cap) ∧ (((w'.setCell ⟨w.heap.size, 0, none⟩ v0).setCell ⟨w.heap.size, 1, none⟩ v1).setCell ⟨w.heap.size, 2, none⟩ v2).cell? ⟨g, 10, none⟩ = some (.int .i64 (a : Int)) ∧ (((w'.setCell ⟨w.heap.size, 0, none⟩ v0).setCell ⟨w.heap.size, 1, none⟩ v1).setCell ⟨w.heap.size, 2, none⟩ v2).cell? ⟨b, a * 2, none⟩ = some (.func (.func k1) #[] #[]))) := Lib.hid (fun w' v0 v1 v2 hs => by
    have e : ∀ x i, x < w.heap.size → (((w'.setCell ⟨w.heap.size, 0, none⟩ v0).setCell ⟨w.heap.size, 1, none⟩ v1).setCell ⟨w.heap.size, 2, none⟩ v2).cell? ⟨x, i, none⟩ = w'.cell? ⟨x, i, none⟩ := fun x i hx => by
      have hne : ∀ j, (⟨w.heap.size, j, none⟩ : Addr) ≠ ⟨x, i, none⟩ := fun j e => by have := congrArg Addr.block e; simp at this; omega
      rw [World.cell?_setCell_other _ _ _ _ (hne _), World.cell?_setCell_other _ _ _ _ (hne _), World.cell?_setCell_other _ _ _ _ (hne _)]
    rw [e g 9 hlt, e g 10 hlt, e b _ hb]
    exact hs)
  have g0 := (Gd.start w).drew
  have hs0 := HC.out _ g0
  clear h
  go_enter Tryz.func12, Tryz.ntmps12
  go_wp2_with fail
  go_region_held3 (fun w' => w'.cell? ⟨g, 9, none⟩ = some (.slice (some ⟨b, 0, none⟩) n cap) ∧ w'.cell? ⟨g, 10, none⟩ = some (.int .i64 (a : Int)) ∧ w'.cell? ⟨b, a * 2, none⟩ = some (.func (.func k1) #[] #[])) (first | (with_reducible exact hs3) | (with_reducible exact hs0) | (with_reducible exact HK3.out _ _ _ _ hs3) | go_keep)
    ((refine (HM.out _ ?_).mono ?_; (focus assumption); rintro e w3 ⟨rfl, g3⟩; obtain ⟨⟨R0, R1, R2⟩, Q0, Q1, Q2⟩ := Gd.res g3; have hs3 := HC.out w3 g3; have gg := Lib.hid g3))
  all_goals
    go_wp2
    refine bodyPost_ret (v := .agg #[.int .u16 A, .int .u8 D, .bool B]) ?_ rfl ⟨rfl, (((Gd.below gg.out).setCell (Nat.le_refl _) _).setCell (Nat.le_refl _) _).setCell (Nat.le_refl _) _⟩
    simp [results, Tryz.results12, go_sem, *]
end Go.Proofs.YtifajfjiloajfaaGreatDoor.OwnCpu

/- The processor among its own blocks: its state goes on alike wherever it lies. Conditions: no interrupt comes; bytes are bytes. -/
import Derived.Test.YtifajfjiloajfaaGreatDoorCStep
namespace Go.Proofs.YtifajfjiloajfaaGreatDoor.OwnCpu
open Go.RowKit Go.Proofs.YtifajfjiloajfaaGreatDoor.Own Go.Proofs.YtifajfjiloajfaaGreatDoor.OwnEff Go.Proofs.YtifajfjiloajfaaGreatDoor.OwnAddr

theorem take_ext (k : Nat) (hk : k ∈ takeIds) (h70 : k ≠ 70) (c : C) (pl : List (Nat × Nat)) (d : Int) :
    ∃ ext, (takeS k c pl d).2 = pl ++ ext ∧ ext.all okPair = true ∧ ext.length ≤ 1 ∧ ((takeS k c pl d).1.at_ = c.at_ ∨ (k = 137 ∧ (takeS k c pl d).1.at_ = c.at_ - 1)) := by
  simp only [takeIds, List.mem_cons, List.mem_nil_iff, or_false] at hk
  rcases hk with rfl | rfl | rfl | rfl | rfl | rfl | rfl | rfl | rfl | rfl | rfl | rfl | rfl | rfl | rfl | rfl | rfl | rfl | rfl | rfl | rfl | rfl | rfl | rfl | rfl | rfl | rfl | rfl | rfl | rfl | rfl | rfl | rfl | rfl
  all_goals first
    | exact ⟨[], (List.append_nil _).symm, rfl, Nat.zero_le _, .inl rfl⟩
    | exact ⟨[], (List.append_nil _).symm, rfl, Nat.zero_le _, .inr ⟨rfl, rfl⟩⟩
    | exact absurd rfl h70
    | skip
  · simp only [takeS]
    split
    · exact ⟨[], (List.append_nil _).symm, rfl, Nat.zero_le _, .inl rfl⟩
    · exact ⟨_, rfl, by decide, by decide, .inl rfl⟩
  · simp only [takeS]
    split
    · exact ⟨_, rfl, by decide, by decide, .inl rfl⟩
    · exact ⟨[], (List.append_nil _).symm, rfl, Nat.zero_le _, .inl rfl⟩
  · simp only [takeS, branchC]
    split
    · exact ⟨_, rfl, by decide, by decide, .inl rfl⟩
    · exact ⟨[], (List.append_nil _).symm, rfl, Nat.zero_le _, .inl rfl⟩
/-- What holds of a processor i cycles behind a reset. -/
structure Cs (i : Nat) (c : C) (pl : List (Nat × Nat)) : Prop where
  ok : c.ok
  due : c.due = false
  latch : c.latch = false
  was : c.was = false
  lt : c.at_ < pl.length
  plan : (pl = [(55, 70)] ∧ c.at_ = 0) ∨ (pl.drop c.at_).all okPair = true
  len : pl.length ≤ 21 + i
theorem drop_get {pl : List (Nat × Nat)} {a : Nat} (h : (pl.drop a).all okPair = true) (ha : a < pl.length) : okPair pl[a] = true := by
  rw [List.drop_eq_getElem_cons ha, List.all_cons, Bool.and_eq_true] at h
  exact h.1
theorem okPair_ids {m : Nat × Nat} (h : okPair m = true) : m.1 ∈ wantIds ∧ m.2 ∈ takeIds ∧ m.2 ≠ 70 := by
  simp only [okPair, Bool.and_eq_true, bne_iff_ne] at h
  exact ⟨by simpa using h.1.1, by simpa using h.1.2, h.2⟩
theorem Cs.ids {i : Nat} {c : C} {pl : List (Nat × Nat)} (h : Cs i c pl) : (pl[c.at_]'h.lt).1 ∈ wantIds ∧ (pl[c.at_]'h.lt).2 ∈ takeIds := by
  rcases h.plan with ⟨rfl, h0⟩ | hp
  · have : ([(55, 70)] : List (Nat × Nat))[c.at_]'h.lt = (55, 70) := by simp [h0]
    rw [this]
    decide
  · have := okPair_ids (drop_get hp h.lt)
    exact ⟨this.1, this.2.1⟩
theorem Cs.take {i : Nat} {c : C} {pl : List (Nat × Nat)} (h : Cs i c pl) (d : Int) :
    (takeS (pl[c.at_]'h.lt).2 { c with at_ := c.at_ + 1 } pl d).1.at_ ≤ (takeS (pl[c.at_]'h.lt).2 { c with at_ := c.at_ + 1 } pl d).2.length ∧ (takeS (pl[c.at_]'h.lt).2 { c with at_ := c.at_ + 1 } pl d).2.length ≤ 21 + (i + 1) ∧
    ((takeS (pl[c.at_]'h.lt).2 { c with at_ := c.at_ + 1 } pl d).2.drop (takeS (pl[c.at_]'h.lt).2 { c with at_ := c.at_ + 1 } pl d).1.at_).all okPair = true := by
  rcases h.plan with ⟨hpl, h0⟩ | hp
  · subst hpl
    have e : ([(55, 70)] : List (Nat × Nat))[c.at_]'h.lt = (55, 70) := by simp [h0]
    rw [e]
    have q := first_plan c d
    have e2 : takeS 70 { c with at_ := c.at_ + 1 } [(55, 70)] d = (firstC { c with at_ := c.at_ + 1 } d.toNat, [(55, 70)] ++ firstL d.toNat) := rfl
    rw [e2]
    have e3 : (firstC { c with at_ := c.at_ + 1 } d.toNat).at_ = 1 := by simp [firstC, h0]
    rw [e3]
    refine ⟨by simp, by have := q.1; show ([(55, 70)] ++ firstL d.toNat).length ≤ _; omega, ?_⟩
    exact q.2
  · have hi := okPair_ids (drop_get hp h.lt)
    obtain ⟨ext, h1, h2, h3, h4⟩ := take_ext (pl[c.at_]'h.lt).2 hi.2.1 hi.2.2 { c with at_ := c.at_ + 1 } pl d
    have hlt := h.lt
    have hlen := h.len
    rw [h1]
    have hall : ∀ j, c.at_ ≤ j → j ≤ pl.length → ((pl ++ ext).drop j).all okPair = true := fun j hj hj2 => by
      rw [List.drop_append_of_le_length hj2, List.all_append, h2, Bool.and_true]
      obtain ⟨m, rfl⟩ : ∃ m, j = c.at_ + m := ⟨j - c.at_, by omega⟩
      rw [List.all_eq_true] at hp ⊢
      intro x hx
      rw [← List.drop_drop] at hx
      exact hp x (List.mem_of_mem_drop hx)
    rcases h4 with h4 | ⟨_, h4⟩
    · rw [h4]
      exact ⟨by simp only [List.length_append]; omega, by simp only [List.length_append]; omega, hall _ (Nat.le_succ _) hlt⟩
    · rw [h4]
      exact ⟨by simp only [List.length_append]; omega, by simp only [List.length_append]; omega, hall _ (by simp) (by simp; omega)⟩
theorem Cs.step {i : Nat} {c : C} {pl : List (Nat × Nat)} (h : Cs i c pl) (d : Int) (hd : By d) : Cs (i + 1) (stepS c pl (pl[c.at_]'h.lt).2 d false).1 (stepS c pl (pl[c.at_]'h.lt).2 d false).2 := by
  obtain ⟨q1, q2, q3⟩ := take_calm (pl[c.at_]'h.lt).2 h.ids.2 { c with at_ := c.at_ + 1 } pl d h.due h.latch h.was
  obtain ⟨t1, t2, t3⟩ := h.take d
  have ho := take_ok (pl[c.at_]'h.lt).2 h.ids.2 { c with at_ := c.at_ + 1 } pl d ⟨h.ok.r, h.ok.low, h.ok.m, h.ok.base, h.ok.rough, h.ok.place, h.ok.vector⟩ hd
  unfold stepS
  generalize (takeS (pl[c.at_]'h.lt).2 { c with at_ := c.at_ + 1 } pl d) = q at *
  obtain ⟨c2, pl2⟩ := q
  simp only at q1 q2 q3 t1 t2 t3 ho ⊢
  unfold endS
  split
  · exact ⟨⟨ho.r, ho.low, ho.m, ho.base, ho.rough, ho.place, ho.vector⟩, q1, q2, q3, by simp, .inl ⟨rfl, rfl⟩, by simp; omega⟩
  · rename_i e0
    split
    · exact ⟨⟨ho.r, ho.low, ho.m, ho.base, ho.rough, ho.place, ho.vector⟩, by simp, q2, q3, by simp only; omega, .inr t3, t2⟩
    · exact ⟨ho, q1, q2, q3, by simp only; omega, .inr t3, t2⟩
theorem Cs.new : Cs 0 newC resetL := ⟨⟨⟨⟨by decide, by decide⟩, ⟨by decide, by decide⟩, ⟨by decide, by decide⟩, ⟨by decide, by decide⟩, ⟨by decide, by decide⟩, by decide, by decide⟩, ⟨by decide, by decide⟩, ⟨by decide, by decide⟩, ⟨by decide, by decide⟩, ⟨by decide, by decide⟩, ⟨by decide, by decide⟩, ⟨by decide, by decide⟩⟩, rfl, rfl, rfl, by decide, .inr (by decide), by decide⟩
/-- The processor lies among the blocks of S. -/
def CpuIn (S : Nat → Prop) (w : World) (g : Nat) (c : C) (pl : List (Nat × Nat)) : Prop := ∃ v, CAt w g c v ∧ PlanAt w v pl ∧ v.ownBlock ≠ some g ∧ S g ∧ ∀ b, v.ownBlock = some b → S b
theorem CpuIn.kept {S T : Nat → Prop} {w w' : World} {g : Nat} {c : C} {pl : List (Nat × Nat)} (h : CpuIn S w g c pl) (hk : Kept T w w') (hd : ∀ k, S k → ¬ T k) : CpuIn S w' g c pl := by
  obtain ⟨v, h1, h2, h3, h4, h5⟩ := h
  exact ⟨v, hk.blk h1 (hd g h4), h2.kept hk (fun b hb => hd b (h5 b hb)), h3, h4, h5⟩
theorem CpuIn.mono {S T : Nat → Prop} {w : World} {g : Nat} {c : C} {pl : List (Nat × Nat)} (h : CpuIn S w g c pl) (hs : ∀ k, k < w.heap.size → S k → T k) : CpuIn T w g c pl := by
  obtain ⟨v, h1, h2, h3, h4, h5⟩ := h
  exact ⟨v, h1, h2, h3, hs g h1.lt h4, fun b hb => hs b (h2.lt b hb) (h5 b hb)⟩
theorem CpuIn.of_take {S : Nat → Prop} {w w' : World} {g : Nat} {c c' : C} {pl pl' : List (Nat × Nat)} {e : Ending} {v : Value} (hS : S g) (hv : ∀ b, v.ownBlock = some b → S b) (h : TakeRet w g v c' pl' e w') : e = .returned (.tuple #[]) ∧ CpuIn (fun k => S k ∨ w.heap.size ≤ k) w' g c' pl' ∧ Kept S w w' := by
  have _ := c
  have _ := pl
  obtain ⟨h1, v', h2, h3, h4, h5, h6⟩ := h
  refine ⟨h1, ⟨v', h2, h3, h4, .inl hS, fun b hb => ?_⟩, h6.mono (fun k _ h => ?_)⟩
  · rcases h5 b hb with hh | hh
    · exact .inl (hv b hh)
    · exact .inr hh
  · rcases h with rfl | h
    · exact hS
    · exact hv k h
theorem flagsV_by (c : C) : By (flagsV c) := by
  unfold flagsV
  split <;> exact bits_by _ _ _
theorem want_ok (k : Nat) (hk : k ∈ wantIds) (c : C) (ho : c.ok) : W16 (wantS k c).1 ∧ By (wantS k c).2.1 := by
  obtain ⟨hr, hl, hm, hb, hro, hpl, hv⟩ := ho
  have z : By 0 := ⟨by decide, by decide⟩
  have hs : W16 (256 + c.r.s) := by have := hr.2.2.2.1; unfold By at this; unfold W16; omega
  have hpc : W16 c.r.pc := hr.2.2.2.2.2
  simp only [wantIds, List.mem_cons, List.mem_nil_iff, or_false] at hk
  rcases hk with rfl | rfl | rfl | rfl | rfl | rfl | rfl | rfl | rfl | rfl | rfl | rfl | rfl | rfl | rfl | rfl | rfl
  · exact ⟨hs, z⟩
  · exact ⟨hpc, z⟩
  · exact ⟨hv, z⟩
  · exact ⟨pc_wrap _, z⟩
  · refine ⟨hs, ?_⟩
    show By (c.r.pc / 256)
    unfold W16 at hpc
    unfold By
    omega
  · exact ⟨hs, w8_by _⟩
  · exact ⟨hs, flagsV_by c⟩
  · exact ⟨hpl, z⟩
  · exact ⟨by_16 hl, z⟩
  · exact ⟨by_16 (m256 _), z⟩
  · exact ⟨hro, z⟩
  · exact ⟨hs, pushesV_by hr⟩
  · exact ⟨(show W16 65535 from ⟨by decide, by decide⟩), z⟩
  · have hw : By (writesV c.name.toList c.r (c.base / 256)) := writesV_by hr
    refine ⟨?_, hw⟩
    show W16 (storedA c _)
    unfold storedA
    split
    · exact word_16 hw (w8_by _)
    · exact hpl
  · exact ⟨hpl, hm⟩
  · exact ⟨hpl, (modR_ok hr hm).2⟩
  · exact ⟨rough_range _ _ hpl.1 hpl.2, z⟩
theorem cpu_step {S : Nat → Prop} {i : Nat} {g : Nat} {c : C} {pl : List (Nat × Nat)} (d : Int) (irq : Bool) (w : World) (h : CpuIn S w g c pl) (hc : Cs i c pl) (hi : i ≤ 800) (hd : By d) (mx : Int) (hm : w.cell? ⟨1, 0, none⟩ = some (.int .i64 mx)) (hg : g ≠ 1) :
    Calls Tryz.prog 14 #[.pointer (some ⟨g, 0, none⟩), .int .u8 d, .agg #[.bool irq, .bool false]] w fun e w' => e = .returned (.tuple #[]) ∧ CpuIn (fun k => S k ∨ w.heap.size ≤ k) w' g (stepS c pl (pl[c.at_]'hc.lt).2 d irq).1 (stepS c pl (pl[c.at_]'hc.lt).2 d irq).2 ∧ Kept S w w' := by
  obtain ⟨v, h1, h2, h3, h4, h5⟩ := h
  obtain ⟨t1, t2, _⟩ := hc.take d
  have hlen := hc.len
  exact (cstep_any g c v pl d irq w h1 h2 h3 (by omega) hc.ok hd hc.due hc.latch hc.was hc.lt hc.ids.2 mx hm hg (by omega) t1).mono fun _ _ t => CpuIn.of_take (c := c) (pl := pl) h4 h5 t
theorem cpu_next {S : Nat → Prop} {i : Nat} {g : Nat} {c : C} {pl : List (Nat × Nat)} (w : World) (h : CpuIn S w g c pl) (hc : Cs i c pl) :
    Calls Tryz.prog 12 #[.pointer (some ⟨g, 0, none⟩)] w fun e w' => e = .returned (.agg #[.int .u16 (wantS (pl[c.at_]'hc.lt).1 c).1, .int .u8 (wantS (pl[c.at_]'hc.lt).1 c).2.1, .bool (wantS (pl[c.at_]'hc.lt).1 c).2.2]) ∧ Below w.heap.size w w' := by
  obtain ⟨v, h1, h2, h3, h4, h5⟩ := h
  exact cnext_any g c v pl w h1 h2 hc.ok hc.lt hc.ids.1
end Go.Proofs.YtifajfjiloajfaaGreatDoor.OwnCpu

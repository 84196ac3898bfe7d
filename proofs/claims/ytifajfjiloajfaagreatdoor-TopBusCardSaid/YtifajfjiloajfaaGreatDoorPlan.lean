/- A processor's plan: a row of pairs of functions that the call itself made; what appending to it does. Conditions: the plan is short. -/
import Derived.Test.YtifajfjiloajfaaGreatDoorMWantD
import Derived.Maps.AppendAt
namespace Go.Proofs.YtifajfjiloajfaaGreatDoor.OwnCpu
open Go.RowKit Go.Proofs.YtifajfjiloajfaaGreatDoor.Own Go.Proofs.YtifajfjiloajfaaGreatDoor.OwnEff Go.Proofs.YtifajfjiloajfaaGreatDoor.OwnAddr

def fn (k : Nat) : Value := .func (.func k) #[] #[]
def mcells : List (Nat × Nat) → List Value
  | [] => []
  | m :: r => fn m.1 :: fn m.2 :: mcells r
theorem mcells_length : ∀ pl, (mcells pl).length = pl.length * 2
  | [] => rfl
  | m :: r => by simp [mcells, mcells_length r]; omega
theorem mcells_append : ∀ a b, mcells (a ++ b) = mcells a ++ mcells b
  | [], b => rfl
  | m :: a, b => by simp [mcells, mcells_append a b]
theorem mcells_one : ∀ pl, ∀ u ∈ mcells pl, u.oneCell' = true
  | [], u, h => by cases h
  | m :: r, u, h => by
    simp only [mcells, List.mem_cons] at h
    rcases h with rfl | rfl | h
    · rfl
    · rfl
    · exact mcells_one r u h
theorem mcells_at : ∀ (pl : List (Nat × Nat)) (k : Nat) (h : k < pl.length), (mcells pl)[2 * k]? = some (fn pl[k].1) ∧ (mcells pl)[2 * k + 1]? = some (fn pl[k].2)
  | m :: r, 0, h => ⟨rfl, rfl⟩
  | m :: r, k + 1, h => by
    have := mcells_at r k (by simpa using h)
    exact ⟨by rw [show 2 * (k + 1) = 2 * k + 1 + 1 by omega]; simpa [mcells] using this.1, by rw [show 2 * (k + 1) + 1 = 2 * k + 1 + 1 + 1 by omega]; simpa [mcells] using this.2⟩
/-- The plan that a slice has. -/
def PlanAt (w : World) (v : Value) (pl : List (Nat × Nat)) : Prop := w.ownsRow 0 103 2 v pl.length (mcells pl)
theorem info103 : (Tryz.prog.info? 103).map (fun i => (i.zero, i.size, i.bytes)) = some (some (.agg #[.nilFunc, .nilFunc]), 2, 16) := by kernel_rfl
section
variable {w w' : World} {v : Value} {pl : List (Nat × Nat)}
theorem PlanAt.nil : PlanAt w (.slice none 0 0) [] := World.ownsRow_nil w 0 103 2
theorem PlanAt.lit (cs : Array Value) (pl : List (Nat × Nat)) (h : cs.toList = mcells pl) (hm : pl.length ≤ 1000) : PlanAt (w.alloc (.cells cs 103)) (.slice (some ⟨w.heap.size, 0, none⟩) pl.length pl.length) pl := by
  unfold PlanAt
  rw [← h]
  exact World.ownsRow_lit w cs pl.length (Nat.zero_le _) (by unfold maxLen; omega) (by rw [← Array.length_toList, h, mcells_length])
theorem PlanAt.alloc (h : PlanAt w v pl) (o : Obj) : PlanAt (w.alloc o) v pl := World.ownsRow.alloc h o
theorem PlanAt.drewN (h : PlanAt w v pl) (n : Nat) : PlanAt (w.drewN n) v pl := h
theorem PlanAt.drew (h : PlanAt w v pl) : PlanAt w.drew v pl := h
theorem PlanAt.kept {S : Nat → Prop} (h : PlanAt w v pl) (k : Kept S w w') (hn : ∀ b, v.ownBlock = some b → ¬ S b) : PlanAt w' v pl := by
  refine ⟨h.1, ?_⟩
  rcases h.2 with hn' | ⟨g, cap, cur, rfl, hb, hg, rest⟩
  · exact .inl hn'
  · exact .inr ⟨g, cap, cur, rfl, hb, (k.block g (Blk.lt (w := w) hg) (hn g rfl)).trans hg, rest⟩
theorem PlanAt.below (h : PlanAt w v pl) (k : Below w.heap.size w w') : PlanAt w' v pl := h.kept (S := fun _ => False) (Kept.below k) (fun _ _ x => x)
theorem PlanAt.grown {row : Option Nat} (h : PlanAt w v pl) (k : w.grownBy w' row) (hn : v.ownBlock = none ∨ v.ownBlock ≠ row) : PlanAt w' v pl := World.ownsRow.kept h k hn
theorem PlanAt.lt (h : PlanAt w v pl) : ∀ b, v.ownBlock = some b → b < w.heap.size := fun b hb => (World.ownsRow.lt h b hb).2
theorem PlanAt.form (h : PlanAt w v pl) : ∃ A cap, v = .slice A pl.length cap := by
  rcases h.2 with ⟨rfl, h0⟩ | ⟨g, cap, cur, rfl, _⟩
  · exact ⟨none, 0, by rw [h0]⟩
  · exact ⟨_, _, rfl⟩
theorem PlanAt.spot (h : PlanAt w v pl) (h0 : 0 < pl.length) : ∃ b cap, v = .slice (some ⟨b, 0, none⟩) pl.length cap ∧ b < w.heap.size ∧ ∀ k (hk : k < pl.length), w.cell? ⟨b, 2 * k, none⟩ = some (fn pl[k].1) ∧ w.cell? ⟨b, 2 * k + 1, none⟩ = some (fn pl[k].2) := by
  rcases h.2 with ⟨_, h1⟩ | ⟨g, cap, cur, rfl, hb, hg, rest⟩
  · omega
  · refine ⟨g, cap, rfl, Blk.lt (w := w) hg, fun k hk => ?_⟩
    have m := mcells_at pl k hk
    refine ⟨(World.ownsRow.cellAt h (2 * k) (by omega)).trans m.1, (World.ownsRow.cellAt h (2 * k + 1) (by omega)).trans m.2⟩
end
section
variable {w : World} {ops : Array Oper} {o : Oper} {a : Act} {Q : Exit → Act → World → Prop}
theorem wp_append_plan {K : Act → World → Prop} (s x : Operand) (ho : o.op = .call { callee := .builtin .append, args := #[s, x], argTypes := #[94, 94] })
    (v : Value) (pl : List (Nat × Nat)) (hs : a.eval s = v) (hown : PlanAt w v pl) (y : Value) (more : List (Nat × Nat)) (hx : a.eval x = y) (hf : PlanAt w y more) (hlen : pl.length + more.length ≤ 1000)
    (h : ∀ v' w', PlanAt w' v' (pl ++ more) → w.grownBy w' v.ownBlock → (v'.ownBlock = v.ownBlock ∨ v'.ownBlock = some w.heap.size) → K (a.put o.dst v') w') : o.wp Tryz.prog a w K Q := by
  obtain ⟨i0, hi, hz0, hz1, hz2⟩ := info_parts info103
  rcases hf.2 with ⟨hy, hm⟩ | ⟨g, cap, cur, hy, _, hg, _⟩
  · have hm' : more = [] := List.eq_nil_of_length_eq_zero hm
    subst hm'
    have hrun := run_append_owned_none (P := Tryz.prog) (w := w) 0 94 o.type 103 i0 2 Tryz.underlying94 hi v pl.length (mcells pl) hown
    unfold Oper.wp
    simp [execOp, ho, resolve, invoke, builtin, hs, hx, hy, hrun, Result.andThen]
    exact h v w (by simpa using hown) (World.grownBy.refl _ _) (.inl rfl)
  · have hc : ∀ j u, (mcells more)[j]? = some u → w.cell? ((⟨g, 0, none⟩ : Addr).add j) = some u := by
      have := hf
      rw [hy] at this
      exact World.ownsRow.cells this rfl
    obtain ⟨v', w', hr, h2, h3, _, h5⟩ := run_append_own_at (P := Tryz.prog) w 0 94 o.type 103 i0 (.agg #[.nilFunc, .nilFunc]) 2 16 Tryz.underlying94 hi hz0 hz1 hz2 rfl (by decide) v pl.length (mcells pl) hown ⟨g, 0, none⟩ more.length cap (mcells more) (mcells_length more) hc (mcells_one more)
      (by unfold maxLen; omega) (by omega) (Nat.zero_le _)
    unfold Oper.wp execOp
    simp only [ho, resolve, invoke, builtin, Sem.run_bind, Sem.run_pure, Result.andThen_ok, List.map_toArray, List.map_cons, List.map_nil, hs, hx, hy, hr]
    refine h v' w' ?_ h3 h5
    unfold PlanAt
    rw [List.length_append, mcells_append]
    exact h2
theorem wpList_append_plan {rest : List Oper} (hgd : o.guard = none) (s x : Operand) (ho : o.op = .call { callee := .builtin .append, args := #[s, x], argTypes := #[94, 94] })
    (v : Value) (pl : List (Nat × Nat)) (hs : a.eval s = v) (hown : PlanAt w v pl) (y : Value) (more : List (Nat × Nat)) (hx : a.eval x = y) (hf : PlanAt w y more) (hlen : pl.length + more.length ≤ 1000)
    (h : ∀ v' w', PlanAt w' v' (pl ++ more) → w.grownBy w' v.ownBlock → (v'.ownBlock = v.ownBlock ∨ v'.ownBlock = some w.heap.size) → wpList Tryz.prog ops Q rest (a.put o.dst v') w') : wpList Tryz.prog ops Q (o :: rest) a w :=
  wpList_plain hgd fun _ hK => wp_append_plan s x ho v pl hs hown y more hx hf hlen fun v' w' h2 h3 h4 => hK _ _ (h v' w' h2 h3 h4)
theorem step_append_plan {K : Act → World → Prop} {E : Prop} (hgd : o.guard = none) (s x : Operand) (ho : o.op = .call { callee := .builtin .append, args := #[s, x], argTypes := #[94, 94] })
    (v : Value) (pl : List (Nat × Nat)) (hs : a.eval s = v) (hown : PlanAt w v pl) (y : Value) (more : List (Nat × Nat)) (hx : a.eval x = y) (hf : PlanAt w y more) (hlen : pl.length + more.length ≤ 1000)
    (h : ∀ v' w', PlanAt w' v' (pl ++ more) → w.grownBy w' v.ownBlock → (v'.ownBlock = v.ownBlock ∨ v'.ownBlock = some w.heap.size) → K (a.put o.dst v') w') :
    if Region.wanted o (yielded ops a.tmps) = true then Oper.wp Tryz.prog o a w K Q else E := by
  have hw : Region.wanted o (yielded ops a.tmps) = true := by simp [Region.wanted, hgd]
  rw [if_pos hw]
  exact wp_append_plan s x ho v pl hs hown y more hx hf hlen h
end
end Go.Proofs.YtifajfjiloajfaaGreatDoor.OwnCpu

/- A map of small numbers and bytes: made, cleared, written, ranged over. Conditions: its keys lie below a bound. -/
import Derived.Test.YtifajfjiloajfaaGreatDoorMFill
import Derived.Maps.RangeWalk
import Derived.Maps.OwnSet
namespace Go.Proofs.YtifajfjiloajfaaGreatDoor.OwnChip
open Go.RowKit Go.Proofs.YtifajfjiloajfaaGreatDoor.Own

theorem law3 : Go.Maps.Keyed Tryz.prog 3 := Go.Maps.int_keyed Tryz.underlying3
theorem nodup_bound : ∀ (n : Nat) (l : List Nat), l.Nodup → (∀ x ∈ l, x < n) → l.length ≤ n
  | 0, l, _, h => by
    cases l with
    | nil => simp
    | cons x r => exact absurd (h x (by simp)) (by omega)
  | n + 1, l, hn, h => by
    by_cases hm : n ∈ l
    · have h1 := nodup_bound n (l.erase n) (hn.erase n) (fun x hx => by
        have := (hn.mem_erase_iff).1 hx
        have := h x this.2
        omega)
      rw [List.length_erase_of_mem hm] at h1
      omega
    · have h1 := nodup_bound n l hn (fun x hx => by
        have := h x hx
        have : x ≠ n := fun e => hm (e ▸ hx)
        omega)
      omega
/-- A key below the bound. -/
def Small (n : Nat) (k : Lit) : Prop := ∃ i : Int, k = .int .i64 i ∧ 0 ≤ i ∧ i < n
abbrev Es := List (Lit × DataW Nat)
theorem small_bound {n : Nat} {L : Es} (hp : L.Pairwise (fun p q => p.1 ≠ q.1)) (h : ∀ p ∈ L, Small n p.1) : L.length ≤ n := by
  let f : Lit × DataW Nat → Nat := fun p => match p.1 with | .int _ i => i.toNat | _ => 0
  have h1 : (L.map f).Nodup := by
    refine List.pairwise_map.2 ?_
    refine hp.imp_of_mem ?_
    intro p q hp hq hne he
    obtain ⟨i, e1, a1, a2⟩ := h p hp
    obtain ⟨j, e2, b1, b2⟩ := h q hq
    apply hne
    rw [e1, e2]
    simp only [f, e1, e2] at he
    have : i = j := by omega
    rw [this]
  have h2 := nodup_bound n (L.map f) h1 (fun x hx => by
    obtain ⟨p, hp, rfl⟩ := List.mem_map.1 hx
    obtain ⟨i, e1, a1, a2⟩ := h p hp
    simp only [f, e1]
    omega)
  simpa using h2
/-- Block B is a map of bytes by numbers below n. -/
def Mp (n : Nat) (w : World) (B : Nat) : Prop := ∃ L : Es, w.ownsMap Tryz.prog 3 (plainElem Tryz.prog 5) B n (.map L) ∧ ∀ p ∈ L, Small n p.1
section
variable {n : Nat} {w w' : World} {B : Nat}
theorem Mp.lt (h : Mp n w B) : B < w.heap.size := by
  obtain ⟨L, h, -⟩ := h
  exact h.lt
theorem Mp.of (e : w'.heap[B]? = w.heap[B]?) (h : Mp n w B) : Mp n w' B := by
  obtain ⟨L, ⟨es, clock, hb, r⟩, hs⟩ := h
  exact ⟨L, ⟨es, clock, e.trans hb, r⟩, hs⟩
theorem Mp.kept {S : Nat → Prop} (h : Kept S w w') (hg : ¬ S B) (k : Mp n w B) : Mp n w' B := k.of (h.block B k.lt hg)
theorem Mp.made (n : Nat) (w : World) : Mp n (w.alloc (.map #[] 0)) w.heap.size := ⟨[], (World.ownsMap_made w Tryz.prog 3 _).mono (Nat.zero_le _), by simp⟩
theorem Mp.ne {a t : Nat} {cs : Array Value} (h : Blk w a t cs) (k : Mp n w B) : a ≠ B := by
  rintro rfl
  obtain ⟨L, ⟨es, clock, hb, -⟩, -⟩ := k
  have e := h.symm.trans hb
  simp at e
/-- What is in it is fewer than n. -/
theorem Mp.tight {m : Nat} {L : Es} (h : w.ownsMap Tryz.prog 3 (plainElem Tryz.prog 5) B m (.map L)) (hs : ∀ p ∈ L, Small n p.1) : Mp n w B := by
  obtain ⟨es0, e0, hp, -⟩ := h.entries law3
  cases e0
  have hl := small_bound hp hs
  obtain ⟨es, clock, hb, F, -, hD⟩ := h
  refine ⟨L, ⟨es, clock, hb, F, ?_, hD⟩, hs⟩
  have e1 : L.length = es.size := by
    cases hD
    rw [length_sorted]
    simp
  omega
theorem wf_i64 {i : Int} (h0 : 0 ≤ i) (h1 : i < 65536) : (Lit.int .i64 i).wf = true := by
  have q := wrap64_wf i
  rwa [IntWalk.wrap64_in i (by omega)] at q
theorem wf_u8 {v : Int} (hv : By v) : (Lit.int .u8 v).wf = true := byte_all (P := fun v => (Lit.int .u8 v).wf = true) (by decide +kernel) hv
theorem by_wf {v : Int} (h : (Lit.int .u8 v).wf = true) : By v := by
  simp [Lit.wf] at h
  exact ⟨by have := h.1; simpa [IntKind.min, IntKind.signed] using this, by have := h.2; simp [IntKind.max, IntKind.bits, IntKind.signed] at this; omega⟩
theorem Mp.store (h : Mp n w B) (hn : n < 65536) {i v : Int} (h0 : 0 ≤ i) (h1 : i < n) (hv : By v) :
    ∃ w', (Instr.mapUpdate 123 (.map (some B)) (.int .i64 i) (.int .u8 v)).run Tryz.prog w = .ok () w' ∧ Mp n w' B ∧ w.grownBy w' (some B) := by
  obtain ⟨L, ho, hs⟩ := h
  obtain ⟨w', hrun, ho', hg⟩ := ho.update law3 Tryz.underlying123 (show n < maxLen by unfold maxLen; omega) (Go.Maps.keyOf_int_mk Tryz.underlying3 (wf_i64 h0 (by omega))) (plainElem_int Tryz.underlying5 (wf_u8 hv))
  refine ⟨w', hrun, Mp.tight ho' ?_, hg⟩
  intro p hp
  rcases Go.ChangeMaps.mem_insert_iff.1 hp with rfl | hp
  · exact ⟨i, rfl, h0, h1⟩
  · exact hs p (List.mem_filter.1 hp).1
theorem Mp.len (h : Mp n w B) : ∃ k : Nat, ∀ ty, (Builtin.len_ #[123] ty #[.map (some B)]).run Tryz.prog w = .ok (.int .i64 k) w := by
  obtain ⟨L, ho, hs⟩ := h
  exact ⟨_, fun ty => ho.len Tryz.underlying123 ty⟩
theorem Mp.clear (h : Mp n w B) : ∃ w', (∀ ty, (Builtin.clear_ #[123] ty #[.map (some B)]).run Tryz.prog w = .ok (.tuple #[]) w') ∧ Mp n w' B ∧ w.grownBy w' (some B) := by
  obtain ⟨L, ⟨es, clock, hb, F, hsz, hD⟩, hs⟩ := h
  refine ⟨Go.ChangeMaps.setBlock w B (.map #[] clock), ?_, ⟨[], ⟨#[], clock, Go.ChangeMaps.heap_setBlock_same hb _, ⟨by simp, ?_, by simp⟩, Nat.zero_le _, rfl⟩, by simp⟩, ⟨rfl, rfl, rfl, by simp [Go.ChangeMaps.setBlock], fun i _ hi => Go.ChangeMaps.heap_setBlock_other hb _ (fun e => hi (by rw [e]))⟩⟩
  · intro ty
    simp [Builtin.clear_, underlying, getObj, setObj, Sem.run_bind, Sem.run, Result.andThen, hb, Tryz.underlying123, Go.ChangeMaps.setBlock]
  · exact Go.MapKept.stamped_empty clock
end
end Go.Proofs.YtifajfjiloajfaaGreatDoor.OwnChip

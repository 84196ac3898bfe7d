/- An argument that is a list of levels, opened to its cells. Conditions: the argument can be read as data. -/
import Derived.Test.YtdfdmgdielfhnaaAwake
import Derived.Deep.Slices
import Derived.Deep.Fields
import Derived.ChangeSame
import Derived.RowKit
import Derived.ProofKit
import Derived.OpenShut
namespace Go.Proofs.Ytdfdmgdielfhnaa.Own
open Go.RowKit Go.ChangeShapes Go.WideShapes Go.Deep

section
variable {H : Type} {enc : TypeId × Value → H} {P : Program} {w : World} {base : Nat} {spare : Nat → Bool} {held : Bool}
theorem open_slice_fields {t e : TypeId} {fs : Array Field} {fuel : Nat} {cs : List Value} {x : DataW H × List MemPlace} (ht : P.underlying t = some (.slice e)) (he : P.underlying e = some (.struct fs))
    (hone : oneCellFields P fs = true) (hC : P.cellsOf e = fs.size) (h : DataW.trod enc P w base spare held fuel t cs = some x) :
    (cs = [.slice none 0 0] ∧ x = (.nil, [])) ∨
    ∃ (a : Addr) (len cap m : Nat) (D : Nat → DataW H) (Pl : Nat → List MemPlace), cs = [.slice (some a) len cap] ∧ base ≤ a.block ∧ len ≤ cap ∧ cap ≤ maxLen ∧ m = (if spare a.block then cap else len) ∧
      x = (.slice ((List.range len).map D) ((List.range (m - len)).map fun j => D (len + j)), MemPlace.row a (m * fs.size) ++ (List.range m).flatMap Pl) ∧
      ∀ i, i < m → ∃ (ys : List (DataW H × List MemPlace)) (n : Nat), D i = .agg (ys.map (·.1)) ∧ Pl i = ys.flatMap (·.2) ∧ ys.length = fs.size ∧
        ∀ (j : Nat) (f : Field), fs[j]? = some f → ∃ (v : Value) (y : DataW H × List MemPlace), w.cell? (a.add (i * fs.size + j)) = some v ∧ ys[j]? = some y ∧ DataW.trod enc P w base spare held n f.type [v] = some y := by
  rcases open_slice ht h with h0 | ⟨a, len, cap, m, n, D, Pl, hcs, hb, hl, hm, hmm, hx, hi⟩
  · exact .inl h0
  · refine .inr ⟨a, len, cap, m, D, Pl, hcs, hb, hl, hm, hmm, by rw [hC] at hx; exact hx, fun i him => ?_⟩
    obtain ⟨cs', hc, ht'⟩ := hi i him
    rw [hC] at hc
    obtain ⟨ys, n', hn', hy, hlen, hyl, hf⟩ := DataW.trod_struct he ht'
    obtain ⟨_, hcl, hat⟩ := World.cells?_some hc
    simp only [Prod.mk.injEq] at hy
    refine ⟨ys, n', hy.1, hy.2, hyl, fun j f hj => ?_⟩
    obtain ⟨ho, hk⟩ := hone_of hone j f hj
    have hjl : j < fs.size := (Array.getElem?_eq_some_iff.1 hj).1
    have hcell := hat j hjl
    have hv : cs'[j]? = some (cs'[j]'(by omega)) := List.getElem?_eq_getElem (by omega)
    have h1 := hf j f hj
    rw [ho, hk] at h1
    have hone' : (cs'.drop j).take 1 = [cs'[j]'(by omega)] := by
      rw [List.drop_eq_getElem_cons (by omega)]
      rfl
    rw [hone'] at h1
    have hys : ys[j]? = some (ys[j]'(by omega)) := List.getElem?_eq_getElem (by omega)
    refine ⟨_, _, ?_, hys, h1.trans hys⟩
    rw [← Go.Deep.add_add, hcell, hv]
end

def CellAt (w : World) (A : Option Addr) (k : Nat) (y : Bool × Bool) : Prop :=
  ∃ b off, A = some ⟨b, off, none⟩ ∧ b < w.heap.size ∧ w.cell? ⟨b, off + k * 2, none⟩ = some (.bool y.1) ∧ w.cell? ⟨b, off + k * 2 + 1, none⟩ = some (.bool y.2)
theorem list_of {α : Type} (P : Nat → α → Prop) : ∀ n : Nat, (∀ k, k < n → ∃ x, P k x) → ∃ l : List α, l.length = n ∧ ∀ k x, l[k]? = some x → P k x
  | 0, _ => ⟨[], rfl, fun k x h => by simp at h⟩
  | n + 1, h => by
    obtain ⟨l, hl, hP⟩ := list_of P n (fun k hk => h k (by omega))
    obtain ⟨y, hy⟩ := h n (by omega)
    refine ⟨l ++ [y], by simp [hl], fun k x hx => ?_⟩
    by_cases hk : k < n
    · rw [List.getElem?_append_left (by omega)] at hx
      exact hP k x hx
    · rw [List.getElem?_append_right (by omega)] at hx
      by_cases e : k = n
      · subst e
        simp [hl] at hx
        subst hx
        exact hy
      · rw [List.getElem?_eq_none (by simp; omega)] at hx
        cases hx

theorem open_levels {H : Type} {enc : TypeId × Value → H} {W : World} {A : Option Addr} {len cap : Nat} {d : DataW H} {p : List MemPlace}
    (h : DataW.Trod enc Try.prog W 0 (fun _ => true) true 22 (.slice A len cap) d p) : ∃ l : List (Bool × Bool), l.length = len ∧ LvAt W A l := by
  obtain ⟨fuel, hf⟩ := h
  rcases open_slice_fields Try.underlying22 Try.underlying30 (by kernel_rfl) (by kernel_rfl) hf with ⟨hcs, _⟩ | ⟨a, len', cap', m, D, Pl, hcs, _, hl, _, hm, _, hi⟩
  · simp [Value.cells] at hcs
    obtain ⟨rfl, rfl, rfl⟩ := hcs
    exact ⟨[], rfl, .inl rfl⟩
  · simp [Value.cells] at hcs
    obtain ⟨rfl, rfl, rfl⟩ := hcs
    simp only [if_true] at hm
    subst hm
    obtain ⟨l, hll, hP⟩ := list_of (CellAt W (some a)) len (fun k hk => by
      obtain ⟨ys, n, _, _, hyl, hy⟩ := hi k (by omega)
      obtain ⟨v0, y0, e0, g0, t0⟩ := hy 0 _ rfl
      obtain ⟨v1, y1, e1, g1, t1⟩ := hy 1 _ rfl
      obtain ⟨x0, z0, _⟩ := DataW.trod_bool Try.underlying4 t0
      obtain ⟨x1, z1, _⟩ := DataW.trod_bool Try.underlying4 t1
      simp at z0 z1
      subst z0 z1
      obtain ⟨b, off, spot⟩ := a
      have hspot : spot = none := by
        by_cases h0 : k = 0
        · subst h0
          simpa [Addr.add] using World.cell?_spot e0
        · obtain ⟨ys', n', _, _, hyl', hy'⟩ := hi 0 (by omega)
          obtain ⟨v0', y0', e0', _⟩ := hy' 0 _ rfl
          simpa [Addr.add] using World.cell?_spot e0'
      subst hspot
      simp only [add_plain] at e0 e1
      have f0 : W.cell? ⟨b, off + (k * 2 + 0), none⟩ = some (.bool x0) := e0
      have f1 : W.cell? ⟨b, off + (k * 2 + 1), none⟩ = some (.bool x1) := e1
      rw [← Nat.add_assoc] at f0 f1
      exact ⟨(x0, x1), b, off, rfl, World.block_lt_of_cell? _ _ f0, f0, f1⟩)
    refine ⟨l, hll, ?_⟩
    by_cases h0 : l = []
    · exact .inl h0
    · have hpos : 0 < l.length := List.length_pos_iff.2 h0
      obtain ⟨b, off, hA, hlt, _⟩ := hP 0 (l.getD 0 (false, false)) (by rw [List.getD_eq_getElem?_getD, List.getElem?_eq_getElem hpos]; rfl)
      refine .inr ⟨b, off, hA, hlt, fun k hk => ?_⟩
      obtain ⟨b', off', hA', _, c0, c1⟩ := hP k (l.getD k (false, false)) (by rw [List.getD_eq_getElem?_getD, List.getElem?_eq_getElem hk]; rfl)
      rw [hA] at hA'
      injection hA' with hA'
      injection hA' with e1 e2
      subst e1 e2
      exact ⟨c0, c1⟩
end Go.Proofs.Ytdfdmgdielfhnaa.Own

/- Runs as lists, and as they lie in memory. No condition. -/
import Derived.Test.YtdfdmgdielfhnaaInts
namespace Go.Proofs.Ytdfdmgdielfhnaa.Own
open Go.RowKit

abbrev RunL := List Bool × Bool
def modLast {α : Type} (f : α → α) : List α → List α
  | [] => []
  | [x] => [f x]
  | x :: y :: ys => x :: modLast f (y :: ys)
theorem modLast_append {α : Type} (f : α → α) : ∀ (ds : List α) (e : α), modLast f (ds ++ [e]) = ds ++ [f e]
  | [], e => rfl
  | [x], e => rfl
  | x :: y :: ys, e => by
    have := modLast_append f (y :: ys) e
    simp only [List.cons_append, modLast] at this ⊢
    rw [this]
/-- One cycle of what is told, on runs that are open or not. -/
def rstep (s : List RunL × Bool) (e : Int) (d : Bool) : List RunL × Bool :=
  if e = 1 then (s.1 ++ [([], false)], true)
  else if s.2 = true ∧ e = 2 then (modLast (fun r => (r.1, true)) s.1, false)
  else if s.2 = true ∧ e = 3 then (modLast (fun r => (r.1 ++ [d], r.2)) s.1, true)
  else s
def runs : Bool × Bool → List RunL × Bool → List (Bool × Bool) → List RunL × Bool
  | _, s, [] => s
  | x, s, y :: ys => runs y (rstep s (tell x y) y.2) ys
theorem runs_append : ∀ (l m : List (Bool × Bool)) (x : Bool × Bool) (s : List RunL × Bool), runs x s (l ++ m) = runs (lastL x l) (runs x s l) m
  | [], _, _, _ => rfl
  | y :: ys, m, x, s => by simp [runs, lastL, runs_append ys m y]
theorem runs_take (x : Bool × Bool) (s : List RunL × Bool) (l : List (Bool × Bool)) (k : Nat) (h : k < l.length) :
    runs x s (l.take (k + 1)) = rstep (runs x s (l.take k)) (tell (lastL x (l.take k)) (l.getD k (false, false))) (l.getD k (false, false)).2 := by
  rw [List.take_add_one, List.getElem?_eq_getElem h, runs_append, List.getD_eq_getElem?_getD, List.getElem?_eq_getElem h]
  rfl
theorem tells_getD (x : Bool × Bool) (l : List (Bool × Bool)) (k : Nat) (h : k < l.length) : (tells x l).getD k 0 = tell (lastL x (l.take k)) (l.getD k (false, false)) := by
  have h1 : k < (tells x l).length := by rw [tells_length]; exact h
  have h2 : (tells x l).take (k + 1) = (tells x l).take k ++ [(tells x l).getD k 0] := by
    rw [List.take_add_one, List.getElem?_eq_getElem h1, List.getD_eq_getElem?_getD, List.getElem?_eq_getElem h1]
    rfl
  have h3 : ∀ j, (tells x l).take j = tells x (l.take j) := by
    intro j
    have e : l = l.take j ++ l.drop j := (List.take_append_drop j l).symm
    by_cases hj : j ≤ l.length
    · conv => lhs; rw [e, tells_append]
      rw [List.take_left' (by rw [tells_length]; simp; omega)]
    · rw [List.take_of_length_le (by rw [tells_length]; omega), List.take_of_length_le (by omega)]
  rw [h3, h3, tells_take x l k h] at h2
  exact (List.append_inj_right' h2 rfl |> fun h => by injection h with h _; exact h.symm)
theorem rstep_open {s : List RunL × Bool} {e : Int} {d : Bool} (hs : s.2 = true → s.1 ≠ []) : (rstep s e d).2 = true → (rstep s e d).1 ≠ [] := by
  unfold rstep
  split
  · intro _; simp
  · split
    · intro h; simp at h
    · split
      · rename_i h
        intro _ h0
        have h1 := hs h.1
        obtain ⟨ds, e, he⟩ : ∃ ds e, s.1 = ds ++ [e] := ⟨s.1.dropLast, s.1.getLast h1, (List.dropLast_concat_getLast h1).symm⟩
        simp [he, modLast_append] at h0
      · exact hs
theorem rstep_length {s : List RunL × Bool} {e : Int} {d : Bool} (n : Nat) (hs : s.1.length ≤ n) : (rstep s e d).1.length ≤ n + 1 := by
  have hm : ∀ f : RunL → RunL, (modLast f s.1).length = s.1.length := by
    intro f
    by_cases h : s.1 = []
    · rw [h]; rfl
    · obtain ⟨ds, e, he⟩ : ∃ ds e, s.1 = ds ++ [e] := ⟨s.1.dropLast, s.1.getLast h, (List.dropLast_concat_getLast h).symm⟩
      rw [he, modLast_append]
      simp
  unfold rstep
  split
  · simp; omega
  · split
    · simp [hm]; omega
    · split
      · simp [hm]; omega
      · omega

/-- A run in memory: the value of its bits, and the run. -/
abbrev RunE := Value × RunL
def flatE (es : List RunE) : List Value := es.flatMap (fun e => [e.1, .bool e.2.2])
theorem flatE_length : ∀ es, (flatE es).length = es.length * 2
  | [] => rfl
  | e :: es => by simp [flatE] at *; have := flatE_length es; simp [flatE] at this; omega
theorem flatE_append (a b : List RunE) : flatE (a ++ b) = flatE a ++ flatE b := by simp [flatE]
def BitsAt (B : Nat) (w : World) (e : RunE) : Prop := w.ownsRow B 4 1 e.1 e.2.1.length (e.2.1.map .bool)
def RunsAt (B : Nat) (w : World) (v : Value) (es : List RunE) : Prop :=
  w.ownsRow B 40 2 v es.length (flatE es) ∧ (∀ e ∈ es, BitsAt B w e) ∧ ∀ ds e, es = ds ++ [e] → ∀ a ∈ ds, a.1.ownBlock = none ∨ a.1.ownBlock ≠ e.1.ownBlock
theorem RunsAt.nil (B : Nat) (w : World) : RunsAt B w (.slice none 0 0) [] := ⟨World.ownsRow_nil _ _ _ _, fun e h => absurd h (by simp), fun ds e h => absurd h (by simp)⟩
theorem owns_ne {w : World} {B : Nat} {s t : TypeId} {n m : Nat} {k j : Nat} {u v : Value} {xs ys : List Value} (h : w.ownsRow B s k u n xs) (h' : w.ownsRow B t j v m ys) (hst : s ≠ t) : u.ownBlock = none ∨ u.ownBlock ≠ v.ownBlock := by
  rcases h.2 with ⟨rfl, _⟩ | ⟨g, cap, cur, rfl, _, hg, _⟩
  · exact .inl rfl
  · refine .inr (fun e => ?_)
    rcases h'.2 with ⟨rfl, _⟩ | ⟨g', cap', cur', rfl, _, hg', _⟩
    · simp [Value.ownBlock] at e
    · simp [Value.ownBlock] at e
      subst e
      rw [hg] at hg'
      injection hg' with hg'
      injection hg' with _ e2
      exact hst e2
theorem RunsAt.start {B : Nat} {w w' : World} {v v' : Value} {es : List RunE} (h : RunsAt B w v es) (hg : w.grownBy w' v.ownBlock) (h' : w'.ownsRow B 40 2 v' (es.length + 1) (flatE es ++ [.slice none 0 0, .bool false])) :
    RunsAt B w' v' (es ++ [(.slice none 0 0, [], false)]) := by
  refine ⟨by rw [flatE_append]; simpa [flatE] using h', fun e he => ?_, fun ds e hd a ha => ?_⟩
  · simp only [List.mem_append, List.mem_singleton] at he
    rcases he with he | rfl
    · exact (h.2.1 e he).kept hg (owns_ne (h.2.1 e he) h.1 (by decide))
    · exact World.ownsRow_nil _ _ _ _
  · obtain ⟨rfl, rfl⟩ : es = ds ∧ ((.slice none 0 0, [], false) : RunE) = e := by simpa using hd
    cases hx : a.1.ownBlock
    · exact .inl rfl
    · exact .inr (by simp [Value.ownBlock])
theorem RunsAt.alloc {B : Nat} {w : World} {v : Value} {es : List RunE} (h : RunsAt B w v es) (o : Obj) : RunsAt B (w.alloc o) v es := ⟨h.1.alloc o, fun e he => (h.2.1 e he).alloc o, h.2.2⟩
theorem RunsAt.drew {B : Nat} {w : World} {v : Value} {es : List RunE} (h : RunsAt B w v es) : RunsAt B w.drew v es := h
theorem flat_set (ds : List RunE) (e e' : RunE) : (flatE (ds ++ [e])).set (ds.length * 2 + 1) (.bool e'.2.2) = flatE ds ++ [e.1, .bool e'.2.2] := by
  rw [flatE_append, List.set_append_right _ _ (by rw [flatE_length]; omega), flatE_length]
  simp [flatE, show ds.length * 2 + 1 - ds.length * 2 = 1 by omega]
theorem flat_set0 (ds : List RunE) (e : RunE) (v : Value) : (flatE (ds ++ [e])).set (ds.length * 2) v = flatE ds ++ [v, .bool e.2.2] := by
  rw [flatE_append, List.set_append_right _ _ (by rw [flatE_length]; omega), flatE_length]
  simp [flatE]
theorem RunsAt.stop {B g n cap : Nat} {w : World} {ds : List RunE} {e : RunE} (h : RunsAt B w (.slice (some ⟨g, 0, none⟩) n cap) (ds ++ [e])) (hn : ds.length + 1 = n) :
    RunsAt B (w.setCell ⟨g, ds.length * 2 + 1, none⟩ (.bool true)) (.slice (some ⟨g, 0, none⟩) n cap) (ds ++ [(e.1, e.2.1, true)]) := by
  subst hn
  have h1 := h.1
  rw [List.length_append, List.length_singleton] at h1
  obtain ⟨s1, s2⟩ := h1.stored (ds.length * 2 + 1) (.bool true)
  rw [flat_set ds e (e.1, e.2.1, true)] at s1
  have hb : ∀ a ∈ ds ++ [e], BitsAt B (w.setCell ⟨g, ds.length * 2 + 1, none⟩ (.bool true)) a := fun a ha => (h.2.1 a ha).kept s2 (owns_ne (h.2.1 a ha) h.1 (by decide))
  refine ⟨by rw [flatE_append, List.length_append]; simpa [flatE] using s1, fun a ha => ?_, fun ds' e' hd a ha => ?_⟩
  · simp only [List.mem_append, List.mem_singleton] at ha
    rcases ha with ha | rfl
    · exact hb a (List.mem_append_left _ ha)
    · exact hb e (by simp)
  · obtain ⟨rfl, rfl⟩ : ds = ds' ∧ ((e.1, e.2.1, true) : RunE) = e' := by simpa using hd
    exact h.2.2 ds e rfl a ha
/-- A bit is put to the last run's bits: 'w' ahead of the append, 'w2' behind it, and then the run's own cell is written. -/
theorem RunsAt.bit {B g n cap : Nat} {w w2 : World} {ds : List RunE} {e : RunE} {u : Value} {d : Bool} {g2 cap2 : Nat} (h : RunsAt B w (.slice (some ⟨g, 0, none⟩) n cap) (ds ++ [e])) (hn : ds.length + 1 = n) (hu : u = .slice (some ⟨g2, 0, none⟩) (e.2.1.length + 1) cap2)
    (h2 : w2.ownsRow B 4 1 u (e.2.1.length + 1) (e.2.1.map .bool ++ [.bool d])) (hg : w.grownBy w2 e.1.ownBlock) (hat : e.1.ownBlock = some g2 ∨ g2 = w.heap.size) :
    RunsAt B (w2.setCell ⟨g, ds.length * 2, none⟩ u) (.slice (some ⟨g, 0, none⟩) n cap) (ds ++ [(u, e.2.1 ++ [d], e.2.2)]) := by
  subst hn
  have h1 : w.ownsRow B 40 2 (.slice (some ⟨g, 0, none⟩) (ds.length + 1) cap) (ds.length + 1) (flatE (ds ++ [e])) := by simpa using h.1
  have he := h.2.1 e (by simp)
  have h1' := h1.kept hg (owns_ne h1 he (by decide))
  obtain ⟨s1, s2⟩ := h1'.stored (ds.length * 2) u
  rw [flat_set0] at s1
  have hu2 := h2.kept s2 (owns_ne h2 h1' (by decide))
  refine ⟨by rw [flatE_append, List.length_append]; simpa [flatE] using s1, fun a ha => ?_, fun ds' e' hd a ha => ?_⟩
  · simp only [List.mem_append, List.mem_singleton] at ha
    rcases ha with ha | rfl
    · have hx := (h.2.1 a (List.mem_append_left _ ha)).kept hg (h.2.2 ds e rfl a ha)
      exact hx.kept s2 (owns_ne hx h1' (by decide))
    · unfold BitsAt
      simpa using hu2
  · obtain ⟨rfl, rfl⟩ : ds = ds' ∧ ((u, e.2.1 ++ [d], e.2.2) : RunE) = e' := by simpa using hd
    have hx := h.2.1 a (List.mem_append_left _ ha)
    rcases h.2.2 ds e rfl a ha with h3 | h3
    · exact .inl h3
    · refine .inr (fun h4 => ?_)
      rw [hu] at h4
      have h4' : a.1.ownBlock = some g2 := h4
      rcases hat with h5 | h5
      · exact h3 (h4'.trans h5.symm)
      · have := (World.ownsRow.lt hx g2 h4').2
        omega
end Go.Proofs.Ytdfdmgdielfhnaa.Own

/- What is appended: another slice's cells, or nothing. No condition. -/
import Derived.Test.YtdfdmgdielfhnaaOpen
import Derived.Laws.AppendOwnNone
namespace Go.Proofs.Ytdfdmgdielfhnaa.Own
open Go.RowKit

def From (w : World) (x : Value) (m : Nat) (news : List Value) : Prop :=
  (x = .slice none 0 0 ∧ m = 0 ∧ news = []) ∨ ∃ ad c, x = .slice (some ad) m c ∧ ∀ j u, news[j]? = some u → w.cell? (ad.add j) = some u
theorem wp_append_from {P : Program} {o : Oper} {a : Act} {w : World} {K : Act → World → Prop} {Q : Exit → Act → World → Prop} (s x : Operand) (t : TypeId)
    (ho : o.op = .call { callee := .builtin .append, args := #[s, x], argTypes := #[t, t] })
    (base : Nat) (e : TypeId) (i : TypeInfo) (z : Value) (size bytes : Nat) (ht : P.underlying t = some (.slice e)) (hi : P.info? e = some i) (hz : i.zero = some z)
    (hsize : i.size = size) (hby : i.bytes = bytes) (hzs : z.cells.size = size) (hsz : 0 < size)
    (v : Value) (n : Nat) (xs : List Value) (hs : a.eval s = v) (hown : w.ownsRow base e size v n xs)
    (y : Value) (m : Nat) (news : List Value) (hx : a.eval x = y) (hf : From w y m news) (hl : news.length = m * size) (h1 : ∀ u ∈ news, u.oneCell' = true)
    (h63 : n + m ≤ maxLen) (hbytes : (n + m) * bytes ≤ 140737488355328) (hbase : base ≤ w.heap.size)
    (h : ∀ v' w', w'.ownsRow base e size v' (n + m) (xs ++ news) → w.grownBy w' v.ownBlock → K (a.put o.dst v') w') : o.wp P a w K Q := by
  subst hx
  rcases hf with ⟨hx, hm, hn⟩ | ⟨ad, c, hx, hc⟩
  · subst hm hn
    have hrun := run_append_owned_none (P := P) (w := w) base t o.type e i size ht hi v n xs hown
    unfold Oper.wp
    simp [execOp, ho, resolve, invoke, builtin, hs, hx, hrun, Result.andThen]
    exact h v w (by simpa using hown) (World.grownBy.refl _ _)
  · exact wp_append_own w s x t ho base e i z size bytes ht hi hz hsize hby hzs hsz v n xs hs hown ad m c news hx hl hc h1 h63 hbytes hbase (fun v' w' h2 h3 _ => h v' w' h2 h3)
theorem list_append_from {P : Program} {ops : Array Oper} {rest : List Oper} {o : Oper} {a : Act} {w : World} {Q : Exit → Act → World → Prop} (hgd : Region.wanted o (yielded ops a.tmps) = true) (s x : Operand) (t : TypeId)
    (ho : o.op = .call { callee := .builtin .append, args := #[s, x], argTypes := #[t, t] })
    (base : Nat) (e : TypeId) (i : TypeInfo) (z : Value) (size bytes : Nat) (ht : P.underlying t = some (.slice e)) (hi : P.info? e = some i) (hz : i.zero = some z)
    (hsize : i.size = size) (hby : i.bytes = bytes) (hzs : z.cells.size = size) (hsz : 0 < size)
    (v : Value) (n : Nat) (xs : List Value) (hs : a.eval s = v) (hown : w.ownsRow base e size v n xs)
    (y : Value) (m : Nat) (news : List Value) (hx : a.eval x = y) (hf : From w y m news) (hl : news.length = m * size) (h1 : ∀ u ∈ news, u.oneCell' = true)
    (h63 : n + m ≤ maxLen) (hbytes : (n + m) * bytes ≤ 140737488355328) (hbase : base ≤ w.heap.size)
    (h : ∀ v' w', w'.ownsRow base e size v' (n + m) (xs ++ news) → w.grownBy w' v.ownBlock → wpList P ops Q rest (a.put o.dst v') w') : wpList P ops Q (o :: rest) a w :=
  wpList_step fun K hK => by
    rw [if_pos hgd]
    exact wp_append_from s x t ho base e i z size bytes ht hi hz hsize hby hzs hsz v n xs hs hown y m news hx hf hl h1 h63 hbytes hbase (fun v' w' h2 h3 => hK _ _ (h v' w' h2 h3))
theorem From.below {w w' : World} {x : Value} {m : Nat} {news : List Value} (h : From w x m news) (hb : Below w.heap.size w w') : From w' x m news := by
  rcases h with h | ⟨ad, c, hx, hc⟩
  · exact .inl h
  · exact .inr ⟨ad, c, hx, fun j u hu => (hb.cell (World.block_lt_of_cell? _ _ (hc j u hu))).trans (hc j u hu)⟩
theorem add_at (b off j : Nat) : (⟨b, off, none⟩ : Addr).add j = ⟨b, off + j, none⟩ := by
  unfold Addr.add
  split <;> simp_all
theorem From.levels {w : World} {A : Option Addr} {len cap : Nat} {l : List (Bool × Bool)} (hn : l.length = len) (hL : LvAt w A l ∧ (A = none → len = 0 ∧ cap = 0)) : From w (.slice A len cap) len (flatL l) := by
  cases A with
  | none =>
    obtain ⟨rfl, rfl⟩ := hL.2 rfl
    exact .inl ⟨rfl, rfl, by rw [List.length_eq_zero_iff.1 hn]; rfl⟩
  | some ad =>
    refine .inr ⟨ad, cap, rfl, fun j u hu => ?_⟩
    rcases hL.1 with rfl | ⟨b, off, hA, hlt, hc⟩
    · simp [flatL] at hu
    · injection hA with hA
      subst hA
      have hj := (List.getElem?_eq_some_iff.1 hu).1
      rw [flatL_length] at hj
      have hk : j / 2 < l.length := by omega
      have hg := flatL_get l (j / 2) hk
      have hcc := hc (j / 2) hk
      rw [add_at]
      rcases (by omega : j = j / 2 * 2 ∨ j = j / 2 * 2 + 1) with h | h
      · rw [h] at hu ⊢
        rw [hcc.1, ← hg.1, hu]
      · rw [h] at hu ⊢
        rw [← Nat.add_assoc, hcc.2, ← hg.2, hu]
theorem From.ints {w : World} {v : Value} {L : List Int} (h : IntsAt w v L) : From w v L.length (L.map (.int .i64)) := by
  rcases h with ⟨rfl, rfl⟩ | ⟨g, cap, rfl, _, hc⟩
  · exact .inl ⟨rfl, rfl, rfl⟩
  · refine .inr ⟨⟨g, 0, none⟩, cap, rfl, fun j u hu => ?_⟩
    have hj := (List.getElem?_eq_some_iff.1 hu).1
    rw [List.length_map] at hj
    rw [add_at, Nat.zero_add, hc j hj, ← hu]
    simp [List.getD_eq_getElem?_getD, hj]
theorem LvAt.of {w : World} {B : Nat} {v : Value} {n : Nat} {l : List (Bool × Bool)} (h : w.ownsRow B 30 2 v n (flatL l)) (hn : l.length = n) : ∃ A cap, v = .slice A n cap ∧ LvAt w A l ∧ (A = none → n = 0 ∧ cap = 0) := by
  rcases h.2 with ⟨h0, h1⟩ | ⟨g, cap, cur, rfl, _⟩
  · subst h1
    exact ⟨none, 0, h0, .inl (List.length_eq_zero_iff.1 hn), fun _ => ⟨rfl, rfl⟩⟩
  · refine ⟨_, cap, rfl, .inr ⟨g, 0, rfl, (h.lt g rfl).2, fun k hk => ?_⟩, fun h => by cases h⟩
    have hg := flatL_get l k hk
    rw [h.cellAt _ (by omega), h.cellAt _ (by omega), Nat.zero_add]
    exact hg
theorem flatL_one : ∀ (l : List (Bool × Bool)), ∀ u ∈ flatL l, u.oneCell' = true := by
  intro l u hu
  simp only [flatL, List.mem_flatMap] at hu
  obtain ⟨y, _, hy⟩ := hu
  simp at hy
  rcases hy with rfl | rfl <;> rfl
theorem ints_one : ∀ (L : List Int), ∀ u ∈ L.map (Value.int .i64), u.oneCell' = true := by
  intro L u hu
  simp only [List.mem_map] at hu
  obtain ⟨y, _, rfl⟩ := hu
  rfl
theorem info30 : (Try.prog.info? 30).map (fun i => (i.zero, i.size, i.bytes)) = some (some (.agg #[.bool false, .bool false]), 2, 2) := by kernel_rfl
theorem open_levels2 {H : Type} {enc : TypeId × Value → H} {W : World} {A : Option Addr} {len cap : Nat} {d : DataW H} {p : List MemPlace}
    (h : DataW.Trod enc Try.prog W 0 (fun _ => true) true 22 (.slice A len cap) d p) : ∃ l : List (Bool × Bool), l.length = len ∧ LvAt W A l ∧ (A = none → len = 0 ∧ cap = 0) := by
  obtain ⟨l, hl, hL⟩ := open_levels h
  obtain ⟨fuel, hf⟩ := h
  refine ⟨l, hl, hL, fun hA => ?_⟩
  subst hA
  rcases open_slice_fields Try.underlying22 Try.underlying30 (by kernel_rfl) (by kernel_rfl) hf with ⟨hcs, _⟩ | ⟨a, len', cap', m, D, Pl, hcs, _⟩
  · simp [Value.cells] at hcs
    exact hcs
  · simp [Value.cells] at hcs
end Go.Proofs.Ytdfdmgdielfhnaa.Own

/- The law's arguments, opened to their cells; the table of kinds, read from what the row lays. Conditions: the arguments can be read as data. -/
import Derived.Test.YtifajfjiloajfaaGreatDoorRows
import Derived.Test.YtifajfjiloajfaaGreatDoorMFill
import Derived.Test.YtifajfjiloajfaaGreatDoorMGeo
import Derived.Deep.Slices
import Derived.ChangeSame
import Derived.RowKit
import Derived.ProofKit
import Derived.OpenShut
import Derived.LaidMore
import Derived.Shelf.Vars
namespace Go.Proofs.YtifajfjiloajfaaGreatDoor.OwnChip
open Go.RowKit Go.ChangeShapes Go.WideShapes Go.Deep Go.Proofs.YtifajfjiloajfaaGreatDoor.Own Go.Proofs.YtifajfjiloajfaaGreatDoor.OwnGeo
theorem list_of {α : Type} (P : Nat → α → Prop) : ∀ n : Nat, (∀ k, k < n → ∃ x, P k x) → ∃ l : List α, l.length = n ∧ ∀ k x, l[k]? = some x → P k x
  | 0, _ => ⟨[], rfl, fun k x h => by simp at h⟩
  | n + 1, h => by
    obtain ⟨l, hl, hP⟩ := list_of P n (fun k hk => h k (by omega))
    obtain ⟨y, hy⟩ := h n (by omega)
    refine ⟨l ++ [y], by simp [hl], fun k x hx => ?_⟩
    by_cases hk : k < n
    · rw [List.getElem?_append_left (by omega)] at hx
      exact hP k x hx
    · rw [List.getElem?_append_right (by omega)] at hx
      by_cases e : k = n
      · subst e
        simp [hl] at hx
        subst hx
        exact hy
      · rw [List.getElem?_eq_none (by simp; omega)] at hx
        cases hx
theorem by_of_wf {a : Int} (h : (Lit.int .u8 a).wf = true) : By a := by
  simp [Lit.wf, IntKind.min, IntKind.max, IntKind.signed, IntKind.bits] at h
  unfold By
  omega
set_option maxRecDepth 100000 in
theorem open_bs {H : Type} {enc : TypeId × Value → H} {W : World} {fuel : Nat} {cs : List Value} {x : DataW H × List MemPlace} (h : DataW.trod enc Tryz.prog W 0 (fun _ => true) true fuel 22 cs = some x) :
    ∃ A cap zs, cs = [.slice A zs.length cap] ∧ Bs W A zs := by
  rcases open_slice1 Tryz.underlying22 (by kernel_rfl) h with ⟨hcs, _⟩ | ⟨a, len, cap, m, n, V, D, Pl, hcs, _, hl, _, hm, _, hi⟩
  · exact ⟨none, 0, [], hcs, fun x hx => by simp at hx, rfl⟩
  · simp only [if_true] at hm
    subst hm
    obtain ⟨l, hll, hP⟩ := list_of (fun k y => By y ∧ W.cell? (a.add k) = some (.int .u8 y)) len (fun k hk => by
      obtain ⟨c0, t0⟩ := hi k (by omega)
      obtain ⟨y, e1, _, hw⟩ := DataW.trod_int Tryz.underlying5 t0
      simp at e1
      exact ⟨y, by_of_wf hw, by rw [c0, e1]⟩)
    have hat : ∀ j, j < l.length → By (l.getD j 0) ∧ W.cell? (a.add j) = some (.int .u8 (l.getD j 0)) := fun j hj => hP j _ (by rw [List.getD_eq_getElem?_getD, List.getElem?_eq_getElem hj]; rfl)
    refine ⟨some a, _, l, by rw [hll]; exact hcs, fun x hx => ?_, ?_⟩
    · obtain ⟨k, hk⟩ := List.mem_iff_getElem?.1 hx
      exact (hP k x hk).1
    · by_cases h0 : l = []
      · exact Or.inl h0
      · have hpos : 0 < l.length := List.length_pos_iff.2 h0
        obtain ⟨-, c0⟩ := hat 0 hpos
        obtain ⟨b, off, sp⟩ := a
        have hsp : sp = none := by simpa [Addr.add] using World.cell?_spot c0
        subst hsp
        refine Or.inr ⟨rfl, fun j hj => ?_⟩
        have := (hat j hj).2
        rw [Addr.add_lit] at this
        exact this
set_option maxRecDepth 100000 in
theorem open_game {H : Type} {enc : TypeId × Value → H} {W : World} {base : Nat} {v : Value} {d : DataW H} {p : List MemPlace} (hv : Value.okWide Tryz.prog W .any base 24 v) (h : DataW.Trod enc Tryz.prog W 0 (fun _ => true) true 24 v d p) :
    ∃ two A cap zs e f s, v = .agg #[.bool two, .slice A zs.length cap, .int .u8 e, .int .u8 f, .int .u8 s] ∧ Bs W A zs ∧ By e ∧ By f ∧ By s := by
  obtain ⟨cs, rfl, hsz⟩ := okWide_struct Tryz.underlying24 hv
  obtain ⟨fuel, hf⟩ := h
  have c24 : Tryz.prog.cellsOf 24 = 5 := by kernel_rfl
  have c4 : Tryz.prog.cellsOf 4 = 1 := by kernel_rfl
  have c5 : Tryz.prog.cellsOf 5 = 1 := by kernel_rfl
  have c22 : Tryz.prog.cellsOf 22 = 1 := by kernel_rfl
  rw [c24] at hsz
  obtain ⟨xs, m, _, _, _, hxl, hfld⟩ := DataW.trod_struct Tryz.underlying24 hf
  obtain ⟨l⟩ := cs
  match l, hsz with
  | [a0, a1, a2, a3, a4], _ =>
    have hxl5 : xs.length = 5 := hxl
    have f0 : DataW.trod enc Tryz.prog W 0 (fun _ => true) true m 4 (([a0, a1, a2, a3, a4].drop 0).take (Tryz.prog.cellsOf 4)) = xs[0]? := hfld 0 _ rfl
    have f1 : DataW.trod enc Tryz.prog W 0 (fun _ => true) true m 22 (([a0, a1, a2, a3, a4].drop 1).take (Tryz.prog.cellsOf 22)) = xs[1]? := hfld 1 _ rfl
    have f2 : DataW.trod enc Tryz.prog W 0 (fun _ => true) true m 5 (([a0, a1, a2, a3, a4].drop 2).take (Tryz.prog.cellsOf 5)) = xs[2]? := hfld 2 _ rfl
    have f3 : DataW.trod enc Tryz.prog W 0 (fun _ => true) true m 5 (([a0, a1, a2, a3, a4].drop 3).take (Tryz.prog.cellsOf 5)) = xs[3]? := hfld 3 _ rfl
    have f4 : DataW.trod enc Tryz.prog W 0 (fun _ => true) true m 5 (([a0, a1, a2, a3, a4].drop 4).take (Tryz.prog.cellsOf 5)) = xs[4]? := hfld 4 _ rfl
    rw [List.getElem?_eq_getElem (by omega)] at f0 f1 f2 f3 f4
    simp only [c4, c5, c22, List.drop_succ_cons, List.drop_zero, List.take_succ_cons, List.take_zero] at f0 f1 f2 f3 f4
    obtain ⟨two, e0, _⟩ := DataW.trod_bool Tryz.underlying4 f0
    obtain ⟨A, cap, zs, e1, hbs⟩ := open_bs f1
    obtain ⟨y2, e2, _, w2⟩ := DataW.trod_int Tryz.underlying5 f2
    obtain ⟨y3, e3, _, w3⟩ := DataW.trod_int Tryz.underlying5 f3
    obtain ⟨y4, e4, _, w4⟩ := DataW.trod_int Tryz.underlying5 f4
    simp only [List.cons.injEq, and_true] at e0 e1 e2 e3 e4
    subst e0 e1 e2 e3 e4
    exact ⟨two, A, cap, zs, y2, y3, y4, rfl, hbs, by_of_wf w2, by_of_wf w3, by_of_wf w4⟩
theorem pieces4 {α : Type} : ∀ (n : Nat) (L : List α), L.length = n * 4 → L = (List.range n).flatMap fun i => (L.drop (i * 4)).take 4
  | 0, L, h => by
    have : L = [] := List.length_eq_zero_iff.1 (by omega)
    subst this
    rfl
  | n + 1, L, h => by
    have ih := pieces4 n (L.drop 4) (by simp; omega)
    rw [List.range_succ_eq_map, List.flatMap_cons, List.flatMap_map]
    have e : ∀ i, (L.drop ((i + 1) * 4)).take 4 = ((L.drop 4).drop (i * 4)).take 4 := fun i => by
      rw [List.drop_drop]
      congr 2
      omega
    simp only [Nat.succ_eq_add_one, e]
    rw [← ih]
    simp
set_option maxRecDepth 100000 in
theorem kind_cells {fuel : Nat} {W : World} {cs : List Value} {x : DataW Unit × List MemPlace} {a b c d : Int} (h : DataW.trod (fun _ => ()) Tryz.prog W 0 (fun _ => true) false fuel 149 cs = some x) (hx : x.1 = .agg [.lit (.int .i64 a), .lit (.int .i64 b), .lit (.int .i64 c), .lit (.int .i64 d)]) :
    cs = [.int .i64 a, .int .i64 b, .int .i64 c, .int .i64 d] := by
  have c149 : Tryz.prog.cellsOf 149 = 4 := by kernel_rfl
  have c3 : Tryz.prog.cellsOf 3 = 1 := by kernel_rfl
  obtain ⟨xs, m, _, ex, hlen, hxl, hfld⟩ := DataW.trod_array Tryz.underlying149 h
  rw [c149] at hlen
  have hxl4 : xs.length = 4 := hxl
  have f0 := hfld 0 (by decide)
  have f1 := hfld 1 (by decide)
  have f2 := hfld 2 (by decide)
  have f3 := hfld 3 (by decide)
  rw [c3] at f0 f1 f2 f3
  rw [ex] at hx
  match xs, hxl4 with
  | [x0, x1, x2, x3], _ =>
    match cs, hlen with
    | [y0, y1, y2, y3], _ =>
      simp only [Nat.zero_mul, Nat.one_mul, Nat.reduceMul, List.drop_succ_cons, List.drop_zero, List.take_succ_cons, List.take_zero, List.getElem?_cons_zero, List.getElem?_cons_succ] at f0 f1 f2 f3
      obtain ⟨z0, e0, k0, _⟩ := DataW.trod_int Tryz.underlying3 f0
      obtain ⟨z1, e1, k1, _⟩ := DataW.trod_int Tryz.underlying3 f1
      obtain ⟨z2, e2, k2, _⟩ := DataW.trod_int Tryz.underlying3 f2
      obtain ⟨z3, e3, k3, _⟩ := DataW.trod_int Tryz.underlying3 f3
      subst k0 k1 k2 k3
      simp only [List.cons.injEq, and_true, List.map_cons, List.map_nil, DataW.agg.injEq, DataW.lit.injEq, Lit.int.injEq, true_and] at e0 e1 e2 e3 hx
      obtain ⟨rfl, rfl, rfl, rfl⟩ := hx
      rw [e0, e1, e2, e3]
theorem gRows : Tryz.prog.globalNamed "keepsake/geo.rows" = some 0 := by kernel_rfl
theorem tRows : (Tryz.prog.globals[0]?).map (·.type) = some 162 := by kernel_rfl
/-- What the row lays, and what the world's shape gives. -/
theorem geo_laid {W : World} (h : laidMetH Tryz.prog [("keepsake/geo.rows", Rows.laid_keepsake_geo_rows)] W) (hsh : W.ShapedOpen Tryz.prog) : GeoAt W := by
  rw [MakeChecks.laidMetH_plain _ _ _ (by kernel_rfl)] at h
  obtain ⟨ps, ⟨g0, t0, cs0, fu, p0, q0, hg0, ht0, hv0, hd0, -, -⟩, -, -⟩ := h
  obtain rfl := Option.some.inj (gRows.symm.trans hg0)
  obtain rfl := Option.some.inj (tRows.symm.trans ht0)
  obtain ⟨cs, hh, hsz, -⟩ := hsh.1 0 #[.int .i64 0, .int .i64 0, .int .i64 0, .int .i64 0, .int .i64 0, .int .i64 0, .int .i64 0, .int .i64 0, .int .i64 0, .int .i64 0, .int .i64 0, .int .i64 0, .int .i64 0, .int .i64 0, .int .i64 0, .int .i64 0, .int .i64 0, .int .i64 0, .int .i64 0, .int .i64 0, .int .i64 0, .int .i64 0, .int .i64 0, .int .i64 0, .int .i64 0, .int .i64 0, .int .i64 0, .int .i64 0, .int .i64 0, .int .i64 0, .int .i64 0, .int .i64 0, .int .i64 0, .int .i64 0, .int .i64 0, .int .i64 0, .int .i64 0, .int .i64 0, .int .i64 0, .int .i64 0, .int .i64 0, .int .i64 0, .int .i64 0, .int .i64 0] 162 (of_decide_eq_true (by kernel_rfl)) (by kernel_rfl)
  have ecs : cs0 = cs := by
    unfold World.var? at hv0
    rw [gRows] at hv0
    simp only [Option.bind_some, hh, Option.some.injEq] at hv0
    exact hv0.symm
  subst ecs
  have c149 : Tryz.prog.cellsOf 149 = 4 := by kernel_rfl
  obtain ⟨xs, m, _, ex, _, hxl, hel⟩ := DataW.trod_array Tryz.underlying162 hd0
  have hmap : xs.map (·.1) = [DataW.agg [.lit (.int .i64 0), .lit (.int .i64 0), .lit (.int .i64 0), .lit (.int .i64 0)], DataW.agg [.lit (.int .i64 7), .lit (.int .i64 3), .lit (.int .i64 1), .lit (.int .i64 0)], DataW.agg [.lit (.int .i64 8), .lit (.int .i64 3), .lit (.int .i64 1), .lit (.int .i64 0)], DataW.agg [.lit (.int .i64 9), .lit (.int .i64 4), .lit (.int .i64 1), .lit (.int .i64 1)], DataW.agg [.lit (.int .i64 10), .lit (.int .i64 4), .lit (.int .i64 1), .lit (.int .i64 2)], DataW.agg [.lit (.int .i64 11), .lit (.int .i64 4), .lit (.int .i64 1), .lit (.int .i64 3)], DataW.agg [.lit (.int .i64 12), .lit (.int .i64 5), .lit (.int .i64 2), .lit (.int .i64 0)], DataW.agg [.lit (.int .i64 13), .lit (.int .i64 5), .lit (.int .i64 2), .lit (.int .i64 0)], DataW.agg [.lit (.int .i64 14), .lit (.int .i64 6), .lit (.int .i64 2), .lit (.int .i64 0)], DataW.agg [.lit (.int .i64 15), .lit (.int .i64 6), .lit (.int .i64 2), .lit (.int .i64 0)], DataW.agg [.lit (.int .i64 16), .lit (.int .i64 7), .lit (.int .i64 2), .lit (.int .i64 0)]] := (DataW.agg.inj (Prod.mk.inj ex).1).symm
  have piece : ∀ (i : Nat) (a b c d : Int), i < 11 → (xs.map (·.1))[i]? = some (.agg [.lit (.int .i64 a), .lit (.int .i64 b), .lit (.int .i64 c), .lit (.int .i64 d)]) → (cs0.toList.drop (i * 4)).take 4 = [.int .i64 a, .int .i64 b, .int .i64 c, .int .i64 d] := fun i a b c d hi hx => by
    have e := hel i hi
    rw [c149] at e
    rw [List.getElem?_eq_getElem (by omega)] at e
    refine kind_cells e ?_
    rw [List.getElem?_map, List.getElem?_eq_getElem (by omega)] at hx
    simpa using hx
  rw [hmap] at piece
  have q0 := piece 0 0 0 0 0 (by decide) rfl
  have q1 := piece 1 7 3 1 0 (by decide) rfl
  have q2 := piece 2 8 3 1 0 (by decide) rfl
  have q3 := piece 3 9 4 1 1 (by decide) rfl
  have q4 := piece 4 10 4 1 2 (by decide) rfl
  have q5 := piece 5 11 4 1 3 (by decide) rfl
  have q6 := piece 6 12 5 2 0 (by decide) rfl
  have q7 := piece 7 13 5 2 0 (by decide) rfl
  have q8 := piece 8 14 6 2 0 (by decide) rfl
  have q9 := piece 9 15 6 2 0 (by decide) rfl
  have q10 := piece 10 16 7 2 0 (by decide) rfl
  have hl : cs0.toList.length = 11 * 4 := by simpa using hsz
  have hall := pieces4 11 cs0.toList hl
  rw [show List.range 11 = [0, 1, 2, 3, 4, 5, 6, 7, 8, 9, 10] from rfl] at hall
  simp only [List.flatMap_cons, List.flatMap_nil, q0, q1, q2, q3, q4, q5, q6, q7, q8, q9, q10, List.cons_append, List.nil_append, List.append_nil] at hall
  have e : cs0 = #[.int .i64 0, .int .i64 0, .int .i64 0, .int .i64 0, .int .i64 7, .int .i64 3, .int .i64 1, .int .i64 0, .int .i64 8, .int .i64 3, .int .i64 1, .int .i64 0, .int .i64 9, .int .i64 4, .int .i64 1, .int .i64 1, .int .i64 10, .int .i64 4, .int .i64 1, .int .i64 2, .int .i64 11, .int .i64 4, .int .i64 1, .int .i64 3, .int .i64 12, .int .i64 5, .int .i64 2, .int .i64 0, .int .i64 13, .int .i64 5, .int .i64 2, .int .i64 0, .int .i64 14, .int .i64 6, .int .i64 2, .int .i64 0, .int .i64 15, .int .i64 6, .int .i64 2, .int .i64 0, .int .i64 16, .int .i64 7, .int .i64 2, .int .i64 0] := by
    rw [← Array.toArray_toList (xs := cs0), hall]
  show W.heap[0]? = _
  rw [hh, e]
end Go.Proofs.YtifajfjiloajfaaGreatDoor.OwnChip

/- The walk of WireStays: true at any list of levels. Condition: the list is read as its cells. -/
import Derived.Test.YtdfdmgdielfhnaaSame
namespace Go.Proofs.Ytdfdmgdielfhnaa.Own
open Go.RowKit

theorem rstep_bits {s : List RunL × Bool} {e : Int} {d : Bool} (n : Nat) (hs : ∀ r ∈ s.1, r.1.length ≤ n) : ∀ r ∈ (rstep s e d).1, r.1.length ≤ n + 1 := by
  have hm : ∀ f : RunL → RunL, (∀ r, (f r).1.length ≤ r.1.length + 1) → ∀ r ∈ modLast f s.1, r.1.length ≤ n + 1 := by
    intro f hf r hr
    by_cases h : s.1 = []
    · rw [h] at hr; cases hr
    · obtain ⟨ds, e, he⟩ := ends h
      rw [he, modLast_append] at hr
      simp only [List.mem_append, List.mem_singleton] at hr
      rcases hr with hr | rfl
      · have := hs r (by rw [he]; simp [hr]); omega
      · have := hs e (by rw [he]; simp)
        have := hf e
        omega
  unfold rstep
  split
  · intro r hr
    simp only [List.mem_append, List.mem_singleton] at hr
    rcases hr with hr | rfl
    · have := hs r hr; omega
    · simp
  · split
    · exact hm _ (fun r => by simp)
    · split
      · exact hm _ (fun r => by simp)
      · intro r hr; have := hs r hr; omega
theorem runs_bits : ∀ (l : List (Bool × Bool)) (x : Bool × Bool) (s : List RunL × Bool) (n : Nat), (∀ r ∈ s.1, r.1.length ≤ n) → ∀ r ∈ (runs x s l).1, r.1.length ≤ n + l.length
  | [], _, _, _, h => h
  | y :: ys, x, s, n, h => by
    intro r hr
    have := runs_bits ys y (rstep s (tell x y) y.2) (n + 1) (rstep_bits n h) r hr
    simp; omega
theorem runs_length : ∀ (l : List (Bool × Bool)) (x : Bool × Bool) (s : List RunL × Bool) (n : Nat), s.1.length ≤ n → (runs x s l).1.length ≤ n + l.length
  | [], _, _, _, h => h
  | y :: ys, x, s, n, h => by
    have := runs_length ys y (rstep s (tell x y) y.2) (n + 1) (rstep_length n h)
    simp only [runs, List.length_cons]
    omega
def dup (l : List (Bool × Bool)) : List (Bool × Bool) := l.flatMap (fun y => [y, y])
theorem dup_length : ∀ l, (dup l).length = 2 * l.length
  | [] => rfl
  | y :: l => by have := dup_length l; simp [dup] at *; omega
theorem dup_append (a b : List (Bool × Bool)) : dup (a ++ b) = dup a ++ dup b := by simp [dup]
theorem tell_same (y : Bool × Bool) : tell y y = 0 := by
  obtain ⟨a, b⟩ := y
  cases a <;> cases b <;> rfl
theorem tells_dup : ∀ (l : List (Bool × Bool)) (x : Bool × Bool) (k : Nat), k < l.length → (tells x (dup l)).getD (2 * k) 0 = (tells x l).getD k 0 ∧ (tells x (dup l)).getD (2 * k + 1) 0 = 0
  | [], _, _, h => by simp at h
  | y :: l, x, 0, _ => by simp [dup, tells, tell_same]
  | y :: l, x, k + 1, h => by
    have := tells_dup l y k (by simpa using h)
    rw [show 2 * (k + 1) = 2 * k + 2 by omega]
    simpa [dup, tells] using this
theorem runs_dup : ∀ (l : List (Bool × Bool)) (x : Bool × Bool) (s : List RunL × Bool), runs x s (dup l) = runs x s l
  | [], _, _ => rfl
  | y :: l, x, s => by
    have ih := runs_dup l y (rstep s (tell x y) y.2)
    have h0 : rstep (rstep s (tell x y) y.2) (tell y y) y.2 = rstep s (tell x y) y.2 := by
      rw [tell_same]
      simp [rstep]
    show runs y (rstep (rstep s (tell x y) y.2) (tell y y) y.2) (dup l) = _
    rw [h0, ih]
    rfl
/-- A list of numbers, as it is read. -/
def IntsV (w : World) (v : Value) (L : List Int) : Prop :=
  ∃ a cap, v = .slice a L.length cap ∧ (L = [] ∨ ∃ g, a = some ⟨g, 0, none⟩ ∧ g < w.heap.size ∧ ∀ j, j < L.length → w.cell? ⟨g, j, none⟩ = some (.int .i64 (L.getD j 0)))
theorem IntsV.of {w : World} {v : Value} {L : List Int} (h : IntsAt w v L) : IntsV w v L := by
  rcases h with ⟨rfl, rfl⟩ | ⟨g, cap, rfl, hlt, hc⟩
  · exact ⟨none, 0, rfl, .inl rfl⟩
  · exact ⟨_, cap, rfl, .inr ⟨g, rfl, hlt, hc⟩⟩
set_option maxHeartbeats 16000000 in
set_option maxRecDepth 100000 in
theorem stays_any (A : Option Addr) (len cap : Nat) (l : List (Bool × Bool)) (w : World) (hn : l.length = len) (hL : LvAt w A l) :
    Calls Try.prog 6 #[.slice A len cap] w fun e w' => e = .returned (.bool true) ∧ Below w.heap.size w w' := by
  obtain ⟨i0, hi, hz0, hz1, hz2⟩ := info_parts info30
  have HA := Lib.hid (awake_any w)
  have HE := Lib.hid (fun (h : len ≤ 1000) w hL => events_any A len cap l w hn h hL)
  have HR := Lib.hid (fun (h : len ≤ 1000) w hL => runs_any A len cap l w hn h hL)
  have HE2 := Lib.hid (fun (h : 2 * len ≤ 1000) A cap w hL => events_any A (2 * len) cap (dup l) w (by rw [dup_length, hn]) h hL)
  have HR2 := Lib.hid (fun (h : 2 * len ≤ 1000) A cap w hL => runs_any A (2 * len) cap (dup l) w (by rw [dup_length, hn]) h hL)
  have HS := Lib.hid same_any
  by_cases h200 : len ≤ 200
  · have h200' : (len : Int) ≤ 200 := by omega
    go_enter Try.func6, Try.ntmps6
    go_wp2_with fail
    go_at_call 8
    refine HA.out.mono ?_
    rintro e w1 ⟨rfl, hb1⟩
    have hL1 := hL.below hb1
    clear hL
    go_wp2
    go_loopw [4, 5] (fun v i wr => ∃ k : Nat, k ≤ len ∧ i = .int .i64 k ∧ wr.ownsRow w1.heap.size 30 2 v (2 * k) (flatL (dup (l.take k))) ∧ Below w1.heap.size w1 wr) (fun _ i _ => len - (intOf i).toNat)
    case atStart => exact ⟨0, by omega, rfl, World.ownsRow_nil _ _ _ _, Below.refl _ _⟩
    case round =>
      obtain ⟨k, hk, rfl, hown, hb⟩ := hrel
      have hk0 : 0 ≤ (k : Int) := by omega
      by_cases hkn : k < len
      · have hk1 : (k : Int) < len := by omega
        rcases hL1 with rfl | ⟨b, off, rfl, hlt, hc⟩
        · simp at hn; omega
        have c0 := (hb.cell (p := ⟨b, off + k * 2, none⟩) hlt).trans (hc k (by omega)).1
        have c1 := (hb.cell (p := ⟨b, off + k * 2 + 1, none⟩) hlt).trans (hc k (by omega)).2
        have htk : flatL (dup (l.take (k + 1))) = flatL (dup (l.take k)) ++ [.bool (l.getD k (false, false)).1, .bool (l.getD k (false, false)).2, .bool (l.getD k (false, false)).1, .bool (l.getD k (false, false)).2] := by
          rw [List.take_add_one, List.getElem?_eq_getElem (by omega), dup_append, flatL_append, List.getD_eq_getElem?_getD, List.getElem?_eq_getElem (by omega)]
          rfl
        have HL1 := Lib.hid hc
        clear hc
        generalize l.getD k (false, false) = y at c0 c1 htk
        obtain ⟨y0, y1⟩ := y
        replace c0 : wr.cell? ⟨b, off + k * 2, none⟩ = some (.bool y0) := c0
        replace c1 : wr.cell? ⟨b, off + k * 2 + 1, none⟩ = some (.bool y1) := c1
        have hlt' : b < wr.heap.size := Nat.lt_of_lt_of_le hlt hb.size
        have hne' : some b ≠ u4.ownBlock := fun h => by have := (World.ownsRow.lt hown b h.symm).1; omega
        have HX : Hid (∀ o, (wr.alloc o).cell? ⟨b, off + k * 2, none⟩ = some (.bool y0) ∧ (wr.alloc o).cell? ⟨b, off + k * 2 + 1, none⟩ = some (.bool y1)) :=
          Lib.hid (fun o => ⟨(World.cell?_alloc_lt wr o _ hlt').trans c0, (World.cell?_alloc_lt wr o _ hlt').trans c1⟩)
        go_wp2_with fail
        go_region_held3 (fun w' => w'.cell? ⟨b, off + k * 2, none⟩ = some (.bool y0) ∧ w'.cell? ⟨b, off + k * 2 + 1, none⟩ = some (.bool y1))
          (first
            | exact HX.out _
            | exact ⟨(hgrow.cell_far _ (by simp; omega) hne').trans (HX.out _).1, (hgrow.cell_far _ (by simp; omega) hne').trans (HX.out _).2⟩
            | go_keep)
          ((refine step_append_lies _ (by rfl) _ _ _ (by rfl) w1.heap.size 30 i0 (.agg #[.bool false, .bool false]) 2 2 Try.underlying22 hi hz0 hz1 hz2 rfl (by decide) u4 (2 * k) (flatL (dup (l.take k))) (by rfl) ((hown.alloc _).drew)
              ⟨wr.heap.size, 0, none⟩ 2 2 [.bool y0, .bool y1, .bool y0, .bool y1] (by rfl) (by rfl) (World.news_of_block (cs := #[.bool y0, .bool y1, .bool y0, .bool y1]) (t := 30) (fr := (0, 0)) (heap_alloc_new wr _)) (by simp [Value.oneCell'])
              (by decide) (by unfold maxLen; omega) (by omega) (by have := hb.size; simp; omega) (wr.heap.size + 1) (by simp) ?_; intro g2 cap2 w3 hown3 hgrow hat hglt))
        have hb3 := ((hb.alloc hb.size (.cells #[.bool y0, .bool y1, .bool y0, .bool y1] 30)).drew).grown hgrow (Nat.le_trans hb.size (by simp)) (fun j hj => (World.ownsRow.lt hown j hj).1)
        clear hgrow hat hglt
        go_wp2
        go_roundw
        case rel => exact ⟨k + 1, by omega, by simp, by rw [htk]; exact hown3, hb3⟩
        case measure => simp [intOf]; omega
      · have hk1 : ¬ (k : Int) < len := by omega
        obtain rfl : k = len := by omega
        rw [List.take_of_length_le (by omega)] at hown
        obtain ⟨A2, cap2, rfl, hL2, _⟩ := LvAt.of hown (by rw [dup_length, hn])
        have hL1' := hL1.below hb
        have hb' := hb1.trans (hb.mono hb1.size)
        have htl : (tells (true, true) l).length = k := by rw [tells_length, hn]
        have htl2 : (tells (true, true) (dup l)).length = 2 * k := by rw [tells_length, dup_length, hn]
        clear hown hL1 hb1 hb
        go_wp2_with fail
        go_at_call 13
        refine (HE.out (by omega) _ hL1').mono ?_
        rintro e w2 ⟨va, rfl, hea, hb2⟩
        have hb2' := hb'.trans (hb2.mono hb'.size)
        have hL2' := hL2.below hb2
        have hL1b := hL1'.below hb2
        clear hL1' hL2 hb'
        go_wp2_with fail
        go_at_call 13
        refine (HE2.out (by omega) _ _ _ hL2').mono ?_
        rintro e w3 ⟨vb, rfl, heb, hb3⟩
        have hb3' := hb2'.trans (hb3.mono hb2'.size)
        have hL2c := hL2'.below hb3
        have hL1c := hL1b.below hb3
        obtain ⟨a, ca, rfl, ha⟩ := IntsV.of ((IntsAt.of hea).below hb3)
        obtain ⟨b, cb, rfl, hbb⟩ := IntsV.of (IntsAt.of heb)
        rw [htl, htl2]
        have HAB := Lib.hid (And.intro ha hbb)
        clear hea heb ha hbb hL1b hL2' hb2 hb2' hb3
        go_wp2
        go_loopw [8] (fun i wr => ∃ j : Nat, j ≤ k ∧ i = .int .i64 j ∧ Below w3.heap.size w3 wr) (fun i _ => k - (intOf i).toNat)
        case atStart => exact ⟨0, by omega, rfl, Below.refl _ _⟩
        case round =>
          obtain ⟨j, hj, rfl, hb⟩ := hrel
          have hj0 : 0 ≤ (j : Int) := by omega
          by_cases hjk : j < k
          · have hj1 : (j : Int) < k := by omega
            obtain ⟨ha, hbb⟩ := HAB.out
            rcases ha with h | ⟨ga, rfl, hga, hca⟩
            · rw [h] at htl; simp at htl; omega
            rcases hbb with h | ⟨gb, rfl, hgb, hcb⟩
            · rw [h] at htl2; simp at htl2; omega
            have htd := tells_dup l (true, true) j (by omega)
            have t0 := (hb.cell (p := ⟨ga, j, none⟩) hga).trans (hca j (by omega))
            have t1 := (hb.cell (p := ⟨gb, 2 * j, none⟩) hgb).trans (hcb (2 * j) (by omega))
            have t2 := (hb.cell (p := ⟨gb, 2 * j + 1, none⟩) hgb).trans (hcb (2 * j + 1) (by omega))
            rw [htd.1] at t1
            rw [htd.2] at t2
            clear hca hcb htd
            generalize (tells (true, true) l).getD j 0 = z at t0 t1
            have hj2 : 2 * (j : Int) < 2 * (k : Int) := by omega
            have hj3 : 2 * (j : Int) + 1 < 2 * (k : Int) := by omega
            go_wp2_with fail
            go_quiet (fail)
            have hbq := below_drewN hb nq
            go_wp2
            go_roundw
            case rel => exact ⟨j + 1, by omega, by simp, hbq⟩
            case measure => simp [intOf]; omega
          · have hj1 : ¬ (j : Int) < k := by omega
            have hL1d := hL1c.below hb
            have hL2d := hL2c.below hb
            have hb4 := hb3'.trans (hb.mono hb3'.size)
            clear hL1c hL2c hb
            go_wp2_with fail
            go_at_call 15
            refine (HR.out (by omega) _ hL1d).mono ?_
            rintro e w4 ⟨vr, rfl, es, B, _, hr, hes, hb5⟩
            have V1 := RunsV.of hr hes
            have hL2e := hL2d.below hb5
            have hb5' := hb4.trans (hb5.mono hb4.size)
            clear hr hes hL1d hL2d hb5 hb4
            go_wp2_with fail
            go_at_call 15
            refine (HR2.out (by omega) _ _ _ hL2e).mono ?_
            rintro e w5 ⟨vs, rfl, es', B', _, hr', hes', hb6⟩
            rw [runs_dup] at hes'
            have V2 := RunsV.of hr' hes'
            have V1' := V1.below hb6
            have hb6' := hb5'.trans (hb6.mono hb5'.size)
            clear hr' hes' V1 hL2e hb6 hb5'
            go_wp2_with fail
            go_at_call 14
            refine (HS.out _ _ _ _ (by have := runs_length l (true, true) ([], false) 0 (by simp); omega) (fun r hr => by have := runs_bits l (true, true) ([], false) 0 (by simp) r hr; omega) V1' V2).mono ?_
            rintro e w6 ⟨rfl, hb7⟩
            go_wp2
            go_ret
            exact ⟨rfl, hb6'.trans (hb7.mono hb6'.size)⟩
  · have h200' : 200 < (len : Int) := by omega
    go_enter Try.func6, Try.ntmps6
    go_wp2_with fail
    go_at_call 8
    refine HA.out.mono ?_
    rintro e w1 ⟨rfl, hb1⟩
    go_wp2
    go_ret
    exact ⟨rfl, hb1⟩
end Go.Proofs.Ytdfdmgdielfhnaa.Own

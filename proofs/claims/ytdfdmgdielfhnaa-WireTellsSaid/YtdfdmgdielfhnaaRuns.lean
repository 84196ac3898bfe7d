/- The contract of the runs that a list of cycles has. Condition: the list is read as its cells. -/
import Derived.Test.YtdfdmgdielfhnaaRunsLaw
import Derived.Deep.RegionLaw
namespace Go.Proofs.Ytdfdmgdielfhnaa.Own
open Go.RowKit

theorem info40 : (Try.prog.info? 40).map (fun i => (i.zero, i.size, i.bytes)) = some (some (.agg #[.slice none 0 0, .bool false]), 2, 32) := by kernel_rfl
theorem info4 : (Try.prog.info? 4).map (fun i => (i.zero, i.size, i.bytes)) = some (some (.bool false), 1, 1) := by kernel_rfl
theorem ends {α : Type} {l : List α} (h : l ≠ []) : ∃ ds e, l = ds ++ [e] := ⟨l.dropLast, l.getLast h, (List.dropLast_concat_getLast h).symm⟩
theorem last_cells {B g n cap : Nat} {w : World} {ds : List RunE} {e : RunE} (h : RunsAt B w (.slice (some ⟨g, 0, none⟩) n cap) (ds ++ [e])) (hn : ds.length + 1 = n) :
    w.cell? ⟨g, ds.length * 2, none⟩ = some e.1 ∧ w.cell? ⟨g, ds.length * 2 + 1, none⟩ = some (.bool e.2.2) ∧ (∀ j, w.frozen? ⟨g, j, none⟩ = false) ∧ B ≤ g ∧ g < w.heap.size ∧ some g ≠ e.1.ownBlock := by
  subst hn
  have h1 : w.ownsRow B 40 2 (.slice (some ⟨g, 0, none⟩) (ds.length + 1) cap) (ds.length + 1) (flatE (ds ++ [e])) := by simpa using h.1
  have hl := h1.lt g rfl
  refine ⟨?_, ?_, fun j => h1.frozenAt j, hl.1, hl.2, fun hx => ?_⟩
  · rw [h1.cellAt _ (by omega), flatE_append, List.getElem?_append_right (by rw [flatE_length]; omega), flatE_length, Nat.sub_self]
    rfl
  · rw [h1.cellAt _ (by omega), flatE_append, List.getElem?_append_right (by rw [flatE_length]; omega), flatE_length, show ds.length * 2 + 1 - ds.length * 2 = 1 by omega]
    rfl
  · rcases owns_ne h1 (h.2.1 e (by simp)) (by decide) with h2 | h2
    · simp [Value.ownBlock] at h2
    · exact h2 hx
set_option maxHeartbeats 8000000 in
set_option maxRecDepth 100000 in
theorem runs_any (A : Option Addr) (len cap : Nat) (l : List (Bool × Bool)) (w : World) (hn : l.length = len) (h1000 : len ≤ 1000) (hL : LvAt w A l) :
    Calls Try.prog 15 #[.slice A len cap] w fun e w' => ∃ v, e = .returned v ∧ ∃ es B, w.heap.size ≤ B ∧ RunsAt B w' v es ∧ es.map (·.2) = (runs (true, true) ([], false) l).1 ∧ Below w.heap.size w w' := by
  obtain ⟨i0, hi, hz0, hz1, hz2⟩ := info_parts info40
  obtain ⟨i1, hj, hy0, hy1, hy2⟩ := info_parts info4
  have HE := Lib.hid (events_any A len cap l w hn h1000 hL)
  have hnn : (len : Int) ≤ 1000 := by omega
  go_enter Try.func15, Try.ntmps15
  go_wp2_with fail
  go_at_call 13
  refine HE.out.mono ?_
  rintro e w1 ⟨v, rfl, hev, hb1⟩
  have hE := IntsAt.of hev
  have hL1 := hL.below hb1
  clear hev hL
  have htl := tells_length l (true, true)
  rcases hE with ⟨rfl, h0⟩ | ⟨ge, cape, rfl, hge, hce⟩
  · rw [h0] at htl
    have hl0 : l = [] := List.length_eq_zero_iff.1 htl.symm
    subst hl0
    go_wp2
    go_loop [3, 11] (fun v i => v = .slice none 0 0 ∧ i = .int .i64 0) (fun _ _ => 0)
    case atStart => exact ⟨rfl, rfl⟩
    case round =>
      obtain ⟨rfl, rfl⟩ := hrel
      go_wp2
      go_ret
      exact ⟨_, rfl, [], w1.heap.size, hb1.size, RunsAt.nil _ _, rfl, hb1⟩
  · have HC := Lib.hid hce
    rw [htl, hn]
    clear hce
    go_wp2
    go_loopw [3, 4, 11] (fun v o i wr => ∃ (k : Nat) (es : List RunE) (op : Bool), k ≤ len ∧ i = .int .i64 k ∧ o = .bool op ∧ RunsAt w1.heap.size wr v es ∧ (es.map (·.2), op) = runs (true, true) ([], false) (l.take k) ∧ es.length ≤ k ∧ Below w1.heap.size w1 wr ∧ (op = true → es ≠ []) ∧ ∀ e ∈ es, e.2.1.length ≤ k) (fun _ _ i _ => len - (intOf i).toNat)
    case atStart => exact ⟨0, [], false, by omega, rfl, rfl, RunsAt.nil _ _, rfl, by simp, Below.refl _ _, by simp, by simp⟩
    case round =>
      obtain ⟨k, es, op, hk, rfl, rfl, hR, hst, hle, hb, hop, hbl⟩ := hrel
      by_cases hkn : k < len
      · have hk1 : (k : Int) < len := by omega
        have hk0 : 0 ≤ (k : Int) := by omega
        have ht := runs_take (true, true) ([], false) l k (by omega)
        have ce := (hb.cell (p := ⟨ge, k, none⟩) hge).trans (HC.out k (by omega))
        rw [tells_getD (true, true) l k (by omega)] at ce
        rcases hL1 with rfl | ⟨b, off, rfl, hlt, hc⟩
        · simp at hn; omega
        · have c1 := (hb.cell (p := ⟨b, off + k * 2 + 1, none⟩) hlt).trans (hc k (by omega)).2
          clear hc
          generalize l.getD k (false, false) = y at c1 ht ce
          generalize tell (lastL (true, true) (l.take k)) y = z at ht ce
          obtain ⟨y0, y1⟩ := y
          replace c1 : wr.cell? ⟨b, off + k * 2 + 1, none⟩ = some (.bool y1) := c1
          replace ht : runs (true, true) ([], false) (l.take (k + 1)) = rstep (es.map (·.2), op) z y1 := by rw [ht, ← hst]
          clear hst
          by_cases h1 : z = 1
          · subst h1
            go_wp2_with (first
              | (at_builtin; refine wpList_append_lies _ rfl _ _ 33 rfl w1.heap.size 40 i0 (.agg #[.slice none 0 0, .bool false]) 2 32 Try.underlying33 hi hz0 hz1 hz2 rfl (by decide) _ _ _ rfl (hR.1.alloc _) ⟨wr.heap.size, 0, none⟩ 1 1 [.slice none 0 0, .bool false] rfl rfl ?c1 ?c2 (by decide) ?c3 ?c4 ?c5 (wr.heap.size + 1) (by simp) ?_)
              | go_in)
            case c1 =>
              intro j u hj
              match j, hj with
              | 0, hj => simp at hj; subst hj; simp [Addr.add]
              | 1, hj => simp at hj; subst hj; simp [Addr.add]
            case c2 => intro u hu; simp at hu; rcases hu with rfl | rfl <;> rfl
            case c3 => unfold maxLen; omega
            case c4 => omega
            case c5 => have := hb.size; simp; omega
            · intro g cap' w3 hown3 hgrow hat hglt
              have R3 := (hR.alloc _).start hgrow hown3
              have hb3 := (hb.alloc hb.size (.cells #[.slice none 0 0, .bool false] 40)).grown hgrow (Nat.le_trans hb.size (by simp)) (fun j hj => (hR.1.lt _ hj).1)
              clear hown3 hgrow hR
              go_wp2
              go_roundw
              case rel => exact ⟨k + 1, es ++ [(.slice none 0 0, [], false)], true, by omega, by simp, rfl, R3, by rw [ht]; simp [rstep], by simp; omega, hb3, by simp, fun e he => by
                simp only [List.mem_append, List.mem_singleton] at he
                rcases he with he | rfl
                · have := hbl e he; omega
                · simp⟩
              case measure => simp [intOf]; omega
          · cases op
            · have h1' : (z == 1) = false := by simpa using h1
              go_wp2
              go_roundw
              case rel => exact ⟨k + 1, es, false, by omega, by simp, rfl, hR, by rw [ht]; simp [rstep, h1], by omega, hb, by simp, fun e he => by have := hbl e he; omega⟩
              case measure => simp [intOf]; omega
            · have h1' : (z == 1) = false := by simpa using h1
              obtain ⟨ds, e, rfl⟩ := ends (hop rfl)
              have hlen : (ds ++ [e]).length = ds.length + 1 := by simp
              obtain ⟨g, capg, rfl, hBg, hgl⟩ := hR.1.form (by omega)
              rw [hlen] at hR hle
              rw [hlen]
              obtain ⟨L0, L1, LF, _, _, hne⟩ := last_cells hR rfl
              have hm0 : ((ds.length : Nat) : Int) ≤ 1000 := by omega
              by_cases h2 : z = 2
              · subst h2
                have R3 := hR.stop rfl
                have hb3 := hb.setCell (p := ⟨g, ds.length * 2 + 1, none⟩) hBg (.bool true)
                have F1 := LF (ds.length * 2 + 1)
                have ht' : runs (true, true) ([], false) (l.take (k + 1)) = (ds.map (·.2) ++ [(e.2.1, true)], false) := by rw [ht]; simp [rstep, modLast_append]
                clear LF hR L0 hop ht
                go_wp2
                go_roundw
                case rel => exact ⟨k + 1, ds ++ [(e.1, e.2.1, true)], false, by omega, by simp, rfl, R3, by rw [ht']; simp, by simp; omega, hb3, by simp, fun a ha => by
                  simp only [List.mem_append, List.mem_singleton] at ha
                  rcases ha with ha | rfl
                  · have := hbl a (by simp [ha]); omega
                  · have := hbl e (by simp); simpa using (by omega : e.2.1.length ≤ k + 1)⟩
                case measure => simp [intOf]; omega
              · by_cases h3 : z = 3
                · subst h3
                  have F0 := LF (ds.length * 2)
                  have hbit := hR.2.1 e (by simp)
                  have hel : e.2.1.length ≤ 1000 := by have := hbl e (by simp); omega
                  have hne' : some b ≠ e.1.ownBlock := fun h => by have := (World.ownsRow.lt hbit b h.symm).1; omega
                  have hlt' : b < wr.heap.size := Nat.lt_of_lt_of_le hlt hb.size
                  have HA : Hid (∀ o, (wr.alloc o).cell? ⟨g, ds.length * 2, none⟩ = some e.1 ∧ (wr.alloc o).cell? ⟨b, off + k * 2 + 1, none⟩ = some (.bool y1) ∧ (wr.alloc o).frozen? ⟨g, ds.length * 2, none⟩ = false) :=
                    Lib.hid (fun o => ⟨(World.cell?_alloc_lt wr o _ hgl).trans L0, (World.cell?_alloc_lt wr o _ hlt').trans c1, (World.frozen?_of_block (Below.heap_alloc wr o g hgl)).trans F0⟩)
                  have ht' : runs (true, true) ([], false) (l.take (k + 1)) = (ds.map (·.2) ++ [(e.2.1 ++ [y1], e.2.2)], true) := by rw [ht]; simp [rstep, modLast_append]
                  clear LF L1 hop ht
                  go_wp2_with fail
                  have hgb : b ≠ g := fun h => by omega
                  have hn0 := World.new_ne wr _ L0
                  have hn1 := World.new_ne wr _ c1
                  go_region_law
                    ((refine step_append_lies _ (by rfl) _ _ _ (by rfl) w1.heap.size 4 i1 (.bool false) 1 1 Try.underlying36 hj hy0 hy1 hy2 rfl (by decide) e.1 e.2.1.length (e.2.1.map .bool) (by rfl) ((hbit.alloc _).drew)
                        ⟨wr.heap.size, 0, none⟩ 1 1 [.bool y1] (by rfl) (by rfl) (World.news_of_block (cs := #[.bool y1]) (t := 4) (fr := (0, 0)) (heap_alloc_new wr _)) (by simp [Value.oneCell'])
                        (by decide) (by unfold maxLen; omega) (by omega) (by have := hb.size; simp; omega) (wr.heap.size + 1) (by simp) ?_; intro g2 cap2 w3 hown3 hgrow hat hglt; have K0 := (hgrow.cell_far ⟨g, ds.length * 2, none⟩ (by simp; omega) hne).trans (HA.out _).1; have K1 := (hgrow.frozen_far ⟨g, ds.length * 2, none⟩ (by simp; omega) hne).trans (HA.out _).2.2))
                  all_goals
                    have R3 := ((hR.alloc (.cells #[.bool y1] 4)).drew).bit rfl rfl hown3 hgrow (by simpa using hat)
                    have hb3 := (((hb.alloc hb.size (.cells #[.bool y1] 4)).drew).grown hgrow (Nat.le_trans hb.size (by simp)) (fun j hj => (World.ownsRow.lt hbit j hj).1)).setCell (p := ⟨g, ds.length * 2, none⟩) hBg (.slice (some ⟨g2, 0, none⟩) (e.2.1.length + 1) cap2)
                    clear hown3 hgrow hat K0 K1
                    go_wp2
                    go_roundw
                    case rel => exact ⟨k + 1, ds ++ [(.slice (some ⟨g2, 0, none⟩) (e.2.1.length + 1) cap2, e.2.1 ++ [y1], e.2.2)], true, by omega, by simp, rfl, R3, by rw [ht']; simp, by simp; omega, hb3, by simp, fun a ha => by
                      simp only [List.mem_append, List.mem_singleton] at ha
                      rcases ha with ha | rfl
                      · have := hbl a (by simp [ha]); omega
                      · have := hbl e (by simp); simp; omega⟩
                    case measure => simp [intOf]; omega
                · have h2' : (z == 2) = false := by simpa using h2
                  have h3' : (z == 3) = false := by simpa using h3
                  have ht' : runs (true, true) ([], false) (l.take (k + 1)) = ((ds ++ [e]).map (·.2), true) := by rw [ht]; simp [rstep, h1, h2, h3]
                  clear L0 L1 LF ht
                  go_wp2
                  go_roundw
                  case rel => exact ⟨k + 1, ds ++ [e], true, by omega, by simp, rfl, hR, by rw [ht'], by rw [hlen]; omega, hb, by simp, fun e he => by have := hbl e he; omega⟩
                  case measure => simp [intOf]; omega
      · have hk1 : ¬ (k : Int) < len := by omega
        obtain rfl : k = len := by omega
        rw [List.take_of_length_le (by omega)] at hst
        go_wp2
        go_ret
        exact ⟨_, rfl, es, w1.heap.size, hb1.size, hR, by rw [← hst], hb1.trans (hb.mono hb1.size)⟩
end Go.Proofs.Ytdfdmgdielfhnaa.Own

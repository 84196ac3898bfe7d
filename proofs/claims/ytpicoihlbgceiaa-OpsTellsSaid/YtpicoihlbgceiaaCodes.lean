/- Contract of the opcodes with a name. No condition. -/
import Derived.Test.YtpicoihlbgceiaaOf
import Derived.WalkSmall
import Derived.Lib.OthersKept
import Derived.Laws.DeepStrings4
namespace Go.Proofs.Ytpicoihlbgceiaa.Own
open Go.RowKit

noncomputable def names : ByteArray := tbl Try.f15 0
noncomputable def hit (s : ByteArray) (j : Nat) : Bool := j % 3 == 0 && ((names.extract j (j + 3)).toList == s.toList)
noncomputable def hits (s : ByteArray) (p : Nat) : List Int := ((List.range p).filter (hit s)).map (fun j => ((j / 3 : Nat) : Int))
theorem hits_hit (s : ByteArray) (p : Nat) (h : hit s p = true) : hits s (p + 1) = hits s p ++ [((p / 3 : Nat) : Int)] := by
  simp [hits, List.range_succ, List.filter_append, h]
theorem hits_miss (s : ByteArray) (p : Nat) (h : hit s p = false) : hits s (p + 1) = hits s p := by
  simp [hits, List.range_succ, List.filter_append, h]
theorem hits_le (s : ByteArray) (p : Nat) : (hits s p).length ≤ p := by
  unfold hits
  rw [List.length_map]
  exact Nat.le_trans (List.length_filter_le _ _) (by simp)
theorem namesize : names.size = 768 := by kernel_rfl
theorem ascii_all : names.data.toList.all (fun b => b.toNat < 128) = true := by kernel_rfl
theorem ascii_at (p : Nat) (h : p < names.size) : (names[p]'h).toNat < 128 := by
  have hh := List.all_eq_true.1 ascii_all
  have h' : p < names.data.toList.length := by simpa using h
  exact of_decide_eq_true (hh (names.data.toList[p]) (List.getElem_mem h'))

theorem rel_hit {s : ByteArray} {B pos : Nat} {w w1 w2 : World} {u v : Value} {o : Obj} (hh : hit s pos = true) (hk : w1.heap[B]? = some (.stringIter names (pos + 1)))
    (hown : w1.ownsRow (B + 1) 5 1 u (hits s pos).length ((hits s pos).map (Value.int .u8))) (hnx : Below B w w1)
    (hown' : w2.ownsRow (B + 1) 5 1 v ((hits s pos).length + 1) ((hits s pos).map (Value.int .u8) ++ [.int .u8 ((pos : Int) / 3)])) (hgrow : (w1.alloc o).grownBy w2 u.ownBlock) :
    w2.heap[B]? = some (.stringIter names (pos + 1)) ∧ w2.ownsRow (B + 1) 5 1 v (hits s (pos + 1)).length ((hits s (pos + 1)).map (Value.int .u8)) ∧ Below B w w2 := by
  have hlt : B < w1.heap.size := (Array.getElem?_eq_some_iff.1 hk).1
  refine ⟨?_, by rw [hits_hit s pos hh]; simpa using hown', (hnx.alloc (by omega) o).grown hgrow (by simp; omega) (fun j hj => by have := (hown.lt j hj).1; omega)⟩
  rw [hgrow.block B (by simp; omega) (fun h => by have := hown.lt B h.symm; omega), heap_alloc_old w1 o hlt]
  exact hk
theorem info5 : (Try.prog.info? 5).map (fun i => (i.zero, i.size, i.bytes)) = some (some (.int .u8 0), 1, 1) := by kernel_rfl
set_option maxHeartbeats 4000000 in
set_option maxRecDepth 1000000 in
theorem codes_any (s : ByteArray) (w : World) :
    Calls Try.prog 15 #[.string s] w fun e w' => ∃ v, e = .returned v ∧ w'.ownsRow (w.heap.size + 1) 5 1 v (hits s 768).length ((hits s 768).map (Value.int .u8)) ∧ Below w.heap.size w w' := by
  obtain ⟨i0, hi, hz0, hz1, hz2⟩ := info_parts info5
  have hb0 : Below w.heap.size w (w.iter names 0) := (Below.refl _ w).alloc (Nat.le_refl _) _
  have hk0 : (w.iter names 0).heap[w.heap.size]? = some (.stringIter names 0) := World.iter_heap w names 0
  have hsz := namesize
  go_enter Try.func15, Try.ntmps15
  go_wp2
  go_loopw [3, 4] (fun v _ wr => ∃ pos : Nat, pos ≤ 768 ∧ wr.heap[w.heap.size]? = some (.stringIter names pos) ∧ wr.ownsRow (w.heap.size + 1) 5 1 v (hits s pos).length ((hits s pos).map (Value.int .u8)) ∧ Below w.heap.size w wr)
    (fun _ _ wr => 768 - wr.iterPos w.heap.size)
  case atStart => exact ⟨0, Nat.zero_le _, hk0, World.ownsRow_nil _ _ _ _, hb0⟩
  case round =>
    obtain ⟨pos, hps, hk, hown, hnx⟩ := hrel
    clear hk0 hb0
    have hmu := iterPos_of hk
    by_cases hp : pos < 768
    · have h128 := ascii_at pos (by omega)
      have hnext : ∀ ty, (Instr.next (.pointer (some ⟨w.heap.size, 0, none⟩)) true ty).run Try.prog wr = _ := fun ty => Lib.run_next_ascii_at wr w.heap.size names pos ty hk (by omega) h128
      have hown1 := ownsRow_iterAt hown (k := w.heap.size) (by omega) names (pos + 1)
      have hk1 := Lib.iterAt_heap wr w.heap.size names pos (pos + 1) hk
      have hnx1 : Below w.heap.size w (wr.iterAt w.heap.size names (pos + 1)) := Lib.below_iterAt hnx (by omega) names (pos + 1)
      generalize wr.iterAt w.heap.size names (pos + 1) = W1 at hnext hown1 hk1 hnx1
      by_cases h3 : pos % 3 = 0
      · have hp3 : pos + 3 ≤ 768 := by omega
        have hm3 : ((pos : Int) % 3 == 0) = true := by simp; omega
        have hcl := hits_le s pos
        go_wp2_with (first
          | (at_builtin; refine wpList_append_own _ rfl _ _ 30 rfl (w.heap.size + 1) 5 i0 (.int .u8 0) 1 1 Try.underlying30 hi hz0 hz1 hz2 rfl (by decide) _ _ _ rfl (hown1.alloc _) ⟨W1.heap.size, 0, none⟩ 1 1 [.int .u8 ((pos : Int) / 3)] rfl rfl ?c1 ?c2 ?c3 ?c4 ?c5 ?_)
          | go_in)
        case c1 =>
          intro j u hj
          match j, hj with
          | 0, hj => simp at hj; subst hj; simp [Addr.add]
        case c2 => intro u hu; simp at hu; subst hu; rfl
        case c3 => unfold maxLen; omega
        case c4 => omega
        case c5 => have := (Array.getElem?_eq_some_iff.1 hk1).1; simp; omega
        · intro v' w1 hown' hgrow _
          have ht : ((names.extract pos (pos + 3)).toList == s.toList) = true := by assumption
          have hh : hit s pos = true := by simp [hit, h3, ht]
          have R := rel_hit hh hk1 hown1 hnx1 hown' hgrow
          clear hown' hgrow hown hown1 hnx1 hk1
          go_wp2
          go_roundw
          case rel => exact ⟨pos + 1, by omega, R.1, R.2.1, R.2.2⟩
          case measure =>
            rw [hmu, iterPos_of R.1]
            omega
        · have ht : ((names.extract pos (pos + 3)).toList == s.toList) = false := by assumption
          have hmiss : hit s pos = false := by simp [hit, ht]
          rw [← hits_miss s pos hmiss] at hown1
          go_roundw
          case rel => exact ⟨pos + 1, by omega, hk1, hown1, hnx1⟩
          case measure =>
            rw [hmu, iterPos_of hk1]
            omega
      · have hm3 : ((pos : Int) % 3 == 0) = false := by simp; omega
        have hmiss : hit s pos = false := by simp [hit, h3]
        rw [← hits_miss s pos hmiss] at hown1
        go_wp2
        go_roundw
        case rel => exact ⟨pos + 1, by omega, hk1, hown1, hnx1⟩
        case measure =>
          rw [hmu, iterPos_of hk1]
          omega
    · have hnext : ∀ ty, (Instr.next (.pointer (some ⟨w.heap.size, 0, none⟩)) true ty).run Try.prog wr = _ := fun ty => Lib.run_next_end_at wr w.heap.size names pos ty hk (by omega)
      obtain rfl : pos = 768 := by omega
      go_wp2
      go_ret
      exact ⟨_, rfl, hown, hnx⟩
end Go.Proofs.Ytpicoihlbgceiaa.Own

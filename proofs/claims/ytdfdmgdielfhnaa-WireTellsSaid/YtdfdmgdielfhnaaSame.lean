/- The contract of the comparison of two lists of runs that are one. Condition: the lists are read as their cells. -/
import Derived.Test.YtdfdmgdielfhnaaFrom
import Derived.BigQuiet
namespace Go.Proofs.Ytdfdmgdielfhnaa.Own
open Go.RowKit

/-- Bits, as they are read. -/
def BitsV (w : World) (x : Value) (L : List Bool) : Prop :=
  ∃ a cap, x = .slice a L.length cap ∧ (L = [] ∨ ∃ g, a = some ⟨g, 0, none⟩ ∧ g < w.heap.size ∧ ∀ j, j < L.length → w.cell? ⟨g, j, none⟩ = some (.bool (L.getD j false)))
/-- Runs, as they are read. -/
def RunsV (w : World) (v : Value) (R : List RunL) : Prop :=
  ∃ a cap, v = .slice a R.length cap ∧ (R = [] ∨ ∃ (g : Nat) (bs : Nat → Value), a = some ⟨g, 0, none⟩ ∧ g < w.heap.size ∧ ∀ j, j < R.length → w.cell? ⟨g, j * 2, none⟩ = some (bs j) ∧ w.cell? ⟨g, j * 2 + 1, none⟩ = some (.bool (R.getD j ([], false)).2) ∧ BitsV w (bs j) (R.getD j ([], false)).1)
theorem BitsV.below {w w' : World} {x : Value} {L : List Bool} (h : BitsV w x L) (hb : Below w.heap.size w w') : BitsV w' x L := by
  obtain ⟨a, cap, hx, hc⟩ := h
  refine ⟨a, cap, hx, ?_⟩
  rcases hc with h | ⟨g, ha, hlt, hc⟩
  · exact .inl h
  · exact .inr ⟨g, ha, Nat.lt_of_lt_of_le hlt hb.size, fun j hj => (hb.cell hlt).trans (hc j hj)⟩
theorem RunsV.below {w w' : World} {v : Value} {R : List RunL} (h : RunsV w v R) (hb : Below w.heap.size w w') : RunsV w' v R := by
  obtain ⟨a, cap, hx, hc⟩ := h
  refine ⟨a, cap, hx, ?_⟩
  rcases hc with h | ⟨g, bs, ha, hlt, hc⟩
  · exact .inl h
  · exact .inr ⟨g, bs, ha, Nat.lt_of_lt_of_le hlt hb.size, fun j hj => ⟨(hb.cell hlt).trans (hc j hj).1, (hb.cell hlt).trans (hc j hj).2.1, (hc j hj).2.2.below hb⟩⟩
theorem BitsV.of {B : Nat} {w : World} {e : RunE} (h : BitsAt B w e) : BitsV w e.1 e.2.1 := by
  unfold BitsAt at h
  obtain ⟨e1, e2, e3⟩ := e
  rcases h.2 with ⟨h0, h1⟩ | ⟨g, cap, cur, hv, _⟩
  · have h0' : e1 = .slice none 0 0 := h0
    have h1' : e2.length = 0 := h1
    exact ⟨none, 0, by rw [h0', h1'], .inl (List.length_eq_zero_iff.1 h1')⟩
  · have hv' : e1 = .slice (some ⟨g, 0, none⟩) e2.length cap := hv
    subst hv'
    refine ⟨_, cap, rfl, .inr ⟨g, rfl, (World.ownsRow.lt h g rfl).2, fun j hj => ?_⟩⟩
    have := World.ownsRow.cellAt h j (by simpa using hj)
    rw [this]
    have hj' : j < e2.length := hj
    simp [List.getD_eq_getElem?_getD, hj']
theorem flatE_get : ∀ (es : List RunE) (k : Nat) (d : RunE), k < es.length → (flatE es)[k * 2]? = some (es.getD k d).1 ∧ (flatE es)[k * 2 + 1]? = some (.bool (es.getD k d).2.2)
  | [], k, d, h => by simp at h
  | y :: l, 0, d, _ => by simp [flatE]
  | y :: l, k + 1, d, h => by
    have := flatE_get l k d (by simpa using h)
    rw [show (k + 1) * 2 = k * 2 + 2 by omega]
    simpa [flatE] using this
theorem RunsV.of {B : Nat} {w : World} {v : Value} {es : List RunE} {R : List RunL} (h : RunsAt B w v es) (hR : es.map (·.2) = R) : RunsV w v R := by
  subst hR
  by_cases h0 : es = []
  · subst h0
    rcases h.1.2 with ⟨hv, _⟩ | ⟨g, cap, cur, hv, _⟩
    · exact ⟨none, 0, hv, .inl rfl⟩
    · exact ⟨_, cap, hv, .inl rfl⟩
  · obtain ⟨g, cap, rfl, _, hlt⟩ := h.1.form (List.length_pos_iff.2 h0)
    refine ⟨some ⟨g, 0, none⟩, cap, by simp, .inr ⟨g, fun j => (es.getD j (.slice none 0 0, [], false)).1, rfl, hlt, fun j hj => ?_⟩⟩
    rw [List.length_map] at hj
    have hg := flatE_get es j (.slice none 0 0, [], false) hj
    have hm : (es.map (·.2)).getD j ([], false) = (es.getD j (.slice none 0 0, [], false)).2 := by
      simp [List.getD_eq_getElem?_getD, hj]
    rw [h.1.cellAt _ (by omega), h.1.cellAt _ (by omega), hm]
    refine ⟨hg.1, hg.2, BitsV.of (h.2.1 _ ?_)⟩
    rw [List.getD_eq_getElem?_getD, List.getElem?_eq_getElem hj]
    exact List.getElem_mem hj
set_option maxHeartbeats 16000000 in
set_option maxRecDepth 100000 in
theorem same_any (u v : Value) (R : List RunL) (w : World) (h1000 : R.length ≤ 1000) (hbits : ∀ r ∈ R, r.1.length ≤ 1000) (hu : RunsV w u R) (hv : RunsV w v R) :
    Calls Try.prog 14 #[u, v] w fun e w' => e = .returned (.bool true) ∧ Below w.heap.size w w' := by
  obtain ⟨a, cap, rfl, HU⟩ := hu
  obtain ⟨a', cap', rfl, HV⟩ := hv
  generalize hn : R.length = n at *
  have hnn : (n : Int) ≤ 1000 := by omega
  go_enter Try.func14, Try.ntmps14
  go_wp2
  go_loopw [5] (fun i wr => ∃ k : Nat, k ≤ n ∧ i = .int .i64 k ∧ Below w.heap.size w wr) (fun i _ => n - (intOf i).toNat)
  case atStart => exact ⟨0, by omega, rfl, Below.refl _ _⟩
  case round =>
    obtain ⟨k, hk, rfl, hb⟩ := hrel
    have hk0 : 0 ≤ (k : Int) := by omega
    by_cases hkn : k < n
    · have hk1 : (k : Int) < n := by omega
      rcases HU with h | ⟨g, bs, rfl, hgl, hgc⟩
      · rw [h] at hn; simp at hn; omega
      rcases HV with h | ⟨g', bs', rfl, hgl', hgc'⟩
      · rw [h] at hn; simp at hn; omega
      obtain ⟨p0, p1, pb⟩ := hgc k hkn
      obtain ⟨q0, q1, qb⟩ := hgc' k hkn
      have hrl : (R.getD k ([], false)).1.length ≤ 1000 := hbits _ (by
        rw [List.getD_eq_getElem?_getD, List.getElem?_eq_getElem (by omega)]
        exact List.getElem_mem _)
      clear hgc hgc'
      generalize R.getD k ([], false) = r at p1 pb q1 qb hrl
      obtain ⟨L, s⟩ := r
      obtain ⟨c, d, hx, hB⟩ := pb
      obtain ⟨c', d', hx', hB'⟩ := qb
      rw [hx] at p0
      rw [hx'] at q0
      clear hx hx'
      have HP : Hid (∀ w2, Below w.heap.size w w2 → w2.cell? ⟨g, k * 2, none⟩ = some (.slice c L.length d) ∧ w2.cell? ⟨g, k * 2 + 1, none⟩ = some (.bool s) ∧ w2.cell? ⟨g', k * 2, none⟩ = some (.slice c' L.length d') ∧ w2.cell? ⟨g', k * 2 + 1, none⟩ = some (.bool s)) :=
        Lib.hid (fun w2 h => ⟨(h.cell hgl).trans p0, (h.cell hgl).trans p1, (h.cell hgl').trans q0, (h.cell hgl').trans q1⟩)
      clear p0 p1 q0 q1
      obtain ⟨r0, r1, r2, r3⟩ := HP.out _ hb
      replace hrl : L.length ≤ 1000 := hrl
      have hB : L = [] ∨ ∃ g, c = some ⟨g, 0, none⟩ ∧ g < w.heap.size ∧ ∀ j, j < L.length → w.cell? ⟨g, j, none⟩ = some (.bool (L.getD j false)) := hB
      have hB' : L = [] ∨ ∃ g, c' = some ⟨g, 0, none⟩ ∧ g < w.heap.size ∧ ∀ j, j < L.length → w.cell? ⟨g, j, none⟩ = some (.bool (L.getD j false)) := hB'
      have HB := Lib.hid (And.intro hB hB')
      clear hB hB'
      generalize hm : L.length = m at *
      have hmm : (m : Int) ≤ 1000 := by omega
      go_wp2_with fail
      go_quiet (fail)
      have hbq := below_drewN hb nq
      go_wp2
      go_loopw [6] (fun i w2 => ∃ j : Nat, j ≤ m ∧ i = .int .i64 j ∧ Below w.heap.size w w2) (fun i _ => m - (intOf i).toNat)
      case atStart => exact ⟨0, by omega, rfl, hbq⟩
      case round =>
        obtain ⟨j, hj, rfl, hb2⟩ := hrel
        have hj0 : 0 ≤ (j : Int) := by omega
        clear r0 r1 r2 r3 hbq hb
        obtain ⟨r0, r1, r2, r3⟩ := HP.out _ hb2
        by_cases hjm : j < m
        · have hj1 : (j : Int) < m := by omega
          obtain ⟨hB, hB'⟩ := HB.out
          rcases hB with h | ⟨gb, rfl, hgb, hcb⟩
          · rw [h] at hm; simp at hm; omega
          rcases hB' with h | ⟨gb', rfl, hgb', hcb'⟩
          · rw [h] at hm; simp at hm; omega
          have t0 := (hb2.cell (p := ⟨gb, j, none⟩) hgb).trans (hcb j hjm)
          have t1 := (hb2.cell (p := ⟨gb', j, none⟩) hgb').trans (hcb' j hjm)
          clear hcb hcb'
          generalize L.getD j false = z at t0 t1
          go_wp2_with fail
          go_quiet (fail)
          have hbq2 := below_drewN hb2 nq
          go_wp2
          go_roundw
          case rel => exact ⟨j + 1, by omega, by simp, hbq2⟩
          case measure => simp [intOf]; omega
        · have hj1 : ¬ (j : Int) < m := by omega
          go_wp2
          go_roundw
          case rel => exact ⟨k + 1, by omega, by simp, hb2⟩
          case measure => simp [intOf]; omega
    · have hk1 : ¬ (k : Int) < n := by omega
      go_wp2
      go_ret
      exact ⟨rfl, hb⟩
end Go.Proofs.Ytdfdmgdielfhnaa.Own

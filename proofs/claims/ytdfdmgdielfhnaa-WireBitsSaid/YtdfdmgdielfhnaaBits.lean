/- The walk of WireBits: true at any list of bits. Condition: the list is read as its cells. -/
import Derived.Test.YtdfdmgdielfhnaaStays
import Derived.Deep.Grids
namespace Go.Proofs.Ytdfdmgdielfhnaa.Own
open Go.RowKit Go.Deep

def BtAt (w : World) (A : Option Addr) (l : List Bool) : Prop :=
  l = [] ∨ ∃ b off, A = some ⟨b, off, none⟩ ∧ b < w.heap.size ∧ ∀ k, k < l.length → w.cell? ⟨b, off + k, none⟩ = some (.bool (l.getD k false))
theorem BtAt.below {w w' : World} {A : Option Addr} {l : List Bool} (h : BtAt w A l) (hb : Below w.heap.size w w') : BtAt w' A l := by
  rcases h with h | ⟨b, off, hA, hlt, hc⟩
  · exact .inl h
  · exact .inr ⟨b, off, hA, Nat.lt_of_lt_of_le hlt hb.size, fun k hk => (hb.cell hlt).trans (hc k hk)⟩
theorem From.bits {w : World} {A : Option Addr} {len cap : Nat} {l : List Bool} (hn : l.length = len) (hL : BtAt w A l) (h0 : A = none → len = 0 ∧ cap = 0) : From w (.slice A len cap) len (l.map .bool) := by
  cases A with
  | none =>
    obtain ⟨rfl, rfl⟩ := h0 rfl
    exact .inl ⟨rfl, rfl, by rw [List.length_eq_zero_iff.1 hn]; rfl⟩
  | some ad =>
    refine .inr ⟨ad, cap, rfl, fun j u hu => ?_⟩
    rcases hL with rfl | ⟨b, off, hA, hlt, hc⟩
    · simp at hu
    · injection hA with hA
      subst hA
      have hj := (List.getElem?_eq_some_iff.1 hu).1
      rw [List.length_map] at hj
      rw [add_at, hc j hj, ← hu]
      simp [List.getD_eq_getElem?_getD, hj]
theorem open_bits {H : Type} {enc : TypeId × Value → H} {W : World} {A : Option Addr} {len cap : Nat} {d : DataW H} {p : List MemPlace}
    (h : DataW.Trod enc Try.prog W 0 (fun _ => true) true 36 (.slice A len cap) d p) : ∃ l : List Bool, l.length = len ∧ BtAt W A l ∧ (A = none → len = 0 ∧ cap = 0) := by
  obtain ⟨fuel, hf⟩ := h
  rcases open_bools Try.underlying36 Try.underlying4 (by kernel_rfl) hf with ⟨hcs, _⟩ | ⟨a, len', cap', B, hcs, _, hl, _, _, hi⟩
  · simp [Value.cells] at hcs
    obtain ⟨rfl, rfl, rfl⟩ := hcs
    exact ⟨[], rfl, .inl rfl, fun _ => ⟨rfl, rfl⟩⟩
  · simp [Value.cells] at hcs
    obtain ⟨rfl, rfl, rfl⟩ := hcs
    refine ⟨(List.range len).map B, by simp, ?_, fun h => by cases h⟩
    by_cases h0 : len = 0
    · subst h0
      exact .inl rfl
    · obtain ⟨b, off, spot⟩ := a
      have hs := hi 0 (by omega)
      have hspot : spot = none := by simpa [Addr.add] using World.cell?_spot hs
      subst hspot
      rw [add_at] at hs
      refine .inr ⟨b, off, rfl, World.block_lt_of_cell? _ _ hs, fun k hk => ?_⟩
      simp at hk
      have := hi k (by omega)
      rw [add_at] at this
      rw [this]
      simp [List.getD_eq_getElem?_getD, hk]
def begL : List (Bool × Bool) := [(false, true), (true, true), (true, false), (false, false)]
def endL : List (Bool × Bool) := [(false, false), (true, false), (true, true)]
def clkL (b : Bool) : List (Bool × Bool) := [(false, b), (true, b), (false, b)]
def clks (l : List Bool) : List (Bool × Bool) := l.flatMap clkL
theorem clks_length : ∀ l, (clks l).length = 3 * l.length
  | [] => rfl
  | b :: l => by have := clks_length l; simp [clks, clkL] at *; omega
theorem clks_append (a b : List Bool) : clks (a ++ b) = clks a ++ clks b := by simp [clks]
theorem runs_clks : ∀ (bits : List Bool) (x : Bool) (d : List Bool), runs (false, x) ([(d, false)], true) (clks bits ++ endL) = ([(d ++ bits ++ [false], true)], false)
  | [], x, d => by cases x <;> simp [clks, endL, runs, rstep, tell, modLast]
  | b :: bits, x, d => by
    have ih := runs_clks bits b (d ++ [b])
    rw [List.append_assoc, List.append_assoc] at ih
    rw [List.append_assoc]
    have h : runs (false, x) ([(d, false)], true) (clks (b :: bits) ++ endL) = runs (false, b) ([(d ++ [b], false)], true) (clks bits ++ endL) := by
      show runs (false, x) ([(d, false)], true) ((false, b) :: (true, b) :: (false, b) :: (clks bits ++ endL)) = _
      cases x <;> cases b <;> simp [runs, rstep, tell, modLast]
    rw [h, ih]
    simp
theorem runs_bitsL (bits : List Bool) : (runs (true, true) ([], false) (begL ++ clks bits ++ endL)).1 = [(bits ++ [false], true)] := by
  rw [List.append_assoc, runs_append]
  have h : runs (true, true) ([], false) begL = ([([], false)], true) := by simp [begL, runs, rstep, tell]
  rw [h]
  show (runs (false, false) ([([], false)], true) (clks bits ++ endL)).1 = _
  rw [runs_clks]
  rfl
theorem begin_any (w : World) : Calls Try.prog 17 #[] w fun e w' => e = .returned (.slice (some ⟨w.heap.size, 0, none⟩) 4 4) ∧ w' = w.alloc (.cells (flatL begL).toArray 30) := by
  go_enter Try.func17, Try.ntmps17
  go_wp2
  go_ret
  exact ⟨rfl, rfl⟩
theorem end_any (w : World) : Calls Try.prog 19 #[] w fun e w' => e = .returned (.slice (some ⟨w.heap.size, 0, none⟩) 3 3) ∧ w' = w.alloc (.cells (flatL endL).toArray 30) := by
  go_enter Try.func19, Try.ntmps19
  go_wp2
  go_ret
  exact ⟨rfl, rfl⟩
theorem clk_any (b : Bool) (w : World) : Calls Try.prog 18 #[.bool b] w fun e w' => e = .returned (.slice (some ⟨w.heap.size, 0, none⟩) 3 3) ∧ w' = w.alloc (.cells (flatL (clkL b)).toArray 30) := by
  go_enter Try.func18, Try.ntmps18
  go_wp2
  go_ret
  exact ⟨rfl, rfl⟩
theorem From.block {w : World} {b n : Nat} {news : List Value} (hb : b = w.heap.size) {t : TypeId} : From (w.alloc (.cells news.toArray t)) (.slice (some ⟨b, 0, none⟩) n n) n news := by
  subst hb
  exact .inr ⟨_, _, rfl, fun j u hu => World.news_of_block (cs := news.toArray) (heap_alloc_new w _) j u (by simpa using hu)⟩
theorem bits_one : ∀ (L : List Bool), ∀ u ∈ L.map Value.bool, u.oneCell' = true := by
  intro L u hu
  simp only [List.mem_map] at hu
  obtain ⟨y, _, rfl⟩ := hu
  rfl
theorem runs_new (w : World) (x : Value) (L : List Bool) (hx : BitsV w x L) : RunsV (w.alloc (.cells #[x, .bool true] 40)) (.slice (some ⟨w.heap.size, 0, none⟩) 1 1) [(L, true)] := by
  refine ⟨_, 1, rfl, .inr ⟨w.heap.size, fun _ => x, rfl, by simp, fun j hj => ?_⟩⟩
  obtain rfl : j = 0 := by simpa using hj
  exact ⟨(Blk.cell (Blk.new w 40 _) 0).trans rfl, (Blk.cell (Blk.new w 40 _) 1).trans rfl, hx.below ((Below.refl _ _).alloc (Nat.le_refl _) _)⟩
set_option maxHeartbeats 16000000 in
set_option maxRecDepth 100000 in
theorem bits_any (A : Option Addr) (len cap : Nat) (l : List Bool) (w : World) (hn : l.length = len) (hL : BtAt w A l ∧ (A = none → len = 0 ∧ cap = 0)) :
    Calls Try.prog 5 #[.slice A len cap] w fun e w' => e = .returned (.bool true) ∧ Below w.heap.size w w' := by
  obtain ⟨i0, hi, hz0, hz1, hz2⟩ := info_parts info30
  obtain ⟨i1, hj, hy0, hy1, hy2⟩ := info_parts info4
  have HA := Lib.hid (awake_any w)
  have HB := Lib.hid begin_any
  have HD := Lib.hid end_any
  have HK := Lib.hid clk_any
  have HS := Lib.hid same_any
  have HR := Lib.hid (fun (h : 4 + 3 * len + 3 ≤ 1000) A cap w hL => runs_any A (4 + 3 * len + 3) cap (begL ++ clks l ++ endL) w (by rw [List.length_append, List.length_append, clks_length, hn]; rfl) h hL)
  by_cases h60 : len ≤ 60
  · have h60' : (len : Int) ≤ 60 := by omega
    have HF := Lib.hid (From.bits hn hL.1 hL.2)
    replace hL := hL.1
    go_enter Try.func5, Try.ntmps5
    go_wp2_with fail
    go_at_call 8
    refine HA.out.mono ?_
    rintro e w1 ⟨rfl, hb1⟩
    have hL1 := hL.below hb1
    have hF1 := HF.out.below hb1
    clear hL
    go_wp2_with fail
    go_at_call 17
    refine (HB.out _).mono ?_
    rintro e w2 ⟨rfl, hw2⟩
    have hown0 : w2.ownsRow w1.heap.size 30 2 (.slice (some ⟨w1.heap.size, 0, none⟩) 4 4) 4 (flatL begL) := by
      rw [hw2]
      exact World.ownsRow_lit w1 (flatL begL).toArray 4 (Nat.le_refl _) (by decide) rfl
    have hb2 : Below w1.heap.size w1 w2 := by
      rw [hw2]
      exact (Below.refl _ _).alloc (Nat.le_refl _) _
    clear hw2
    go_wp2
    go_loopw [4, 5] (fun v i wr => ∃ k : Nat, k ≤ len ∧ i = .int .i64 k ∧ wr.ownsRow w1.heap.size 30 2 v (4 + 3 * k) (flatL (begL ++ clks (l.take k))) ∧ Below w1.heap.size w1 wr) (fun _ i _ => len - (intOf i).toNat)
    case atStart => exact ⟨0, by omega, rfl, hown0, hb2⟩
    case round =>
      clear hown0 hb2
      obtain ⟨k, hk, rfl, hown, hb⟩ := hrel
      have hk0 : 0 ≤ (k : Int) := by omega
      by_cases hkn : k < len
      · have hk1 : (k : Int) < len := by omega
        rcases hL1 with rfl | ⟨b, off, rfl, hlt, hc⟩
        · simp at hn; omega
        have c0 := (hb.cell (p := ⟨b, off + k, none⟩) hlt).trans (hc k (by omega))
        have htk : flatL (begL ++ clks (l.take (k + 1))) = flatL (begL ++ clks (l.take k)) ++ flatL (clkL (l.getD k false)) := by
          rw [List.take_add_one, List.getElem?_eq_getElem (by omega), clks_append, ← List.append_assoc, flatL_append, List.getD_eq_getElem?_getD, List.getElem?_eq_getElem (by omega)]
          simp [clks]
        clear hc
        generalize l.getD k false = y at c0 htk
        go_wp2_with fail
        go_at_call 18
        refine (HK.out y _).mono ?_
        rintro e w3 ⟨rfl, hw3⟩
        have hfrom : From w3 (.slice (some ⟨wr.heap.size, 0, none⟩) 3 3) 3 (flatL (clkL y)) := by
          rw [hw3]
          exact From.block rfl
        have hown3 : w3.ownsRow w1.heap.size 30 2 u4 (4 + 3 * k) (flatL (begL ++ clks (l.take k))) := by
          rw [hw3]
          exact hown.alloc _
        have hb3 : Below w1.heap.size w1 w3 := by
          rw [hw3]
          exact hb.alloc hb.size _
        clear hw3 hown hb
        go_wp2_with (first
          | (at_builtin; refine list_append_from (by rfl) _ _ 22 rfl w1.heap.size 30 i0 (.agg #[.bool false, .bool false]) 2 2 Try.underlying22 hi hz0 hz1 hz2 rfl (by decide) _ _ _ rfl hown3 _ _ _ rfl hfrom rfl (flatL_one _) (by unfold maxLen; omega) (by omega) hb3.size ?_)
          | go_in)
        intro v4 w4 hown4 hg4
        have hb4 := hb3.grown hg4 hb3.size (fun j hj => (World.ownsRow.lt hown3 j hj).1)
        clear hown3 hg4 hb3 hfrom
        go_wp2
        go_roundw
        case rel => exact ⟨k + 1, by omega, by simp, by rw [htk]; exact hown4, hb4⟩
        case measure => simp [intOf]; omega
      · have hk1 : ¬ (k : Int) < len := by omega
        obtain rfl : k = len := by omega
        rw [List.take_of_length_le (by omega)] at hown
        clear hL1
        go_wp2_with fail
        go_at_call 19
        refine (HD.out _).mono ?_
        rintro e w3 ⟨rfl, hw3⟩
        have hfrom : From w3 (.slice (some ⟨wr.heap.size, 0, none⟩) 3 3) 3 (flatL endL) := by
          rw [hw3]
          exact From.block rfl
        have hbx : Below wr.heap.size wr w3 := by
          rw [hw3]
          exact (Below.refl _ _).alloc (Nat.le_refl _) _
        have hown3 : w3.ownsRow w1.heap.size 30 2 u4 (4 + 3 * k) (flatL (begL ++ clks l)) := by
          rw [hw3]
          exact hown.alloc _
        have hb3 := hb.trans (hbx.mono hb.size)
        clear hw3 hown hb hbx
        go_wp2_with (first
          | (at_builtin; refine list_append_from (by rfl) _ _ 22 rfl w1.heap.size 30 i0 (.agg #[.bool false, .bool false]) 2 2 Try.underlying22 hi hz0 hz1 hz2 rfl (by decide) _ _ _ rfl hown3 _ _ _ rfl hfrom rfl (flatL_one _) (by unfold maxLen; omega) (by omega) hb3.size ?_)
          | go_in)
        intro v4 w4 hown4 hg4
        have hb4 := hb3.grown hg4 hb3.size (fun j hj => (World.ownsRow.lt hown3 j hj).1)
        have hall : w4.ownsRow w1.heap.size 30 2 v4 (4 + 3 * k + 3) (flatL (begL ++ clks l ++ endL)) := by rw [flatL_append]; exact hown4
        obtain ⟨A2, cap2, rfl, hL2, _⟩ := LvAt.of hall (by rw [List.length_append, List.length_append, clks_length, hn]; rfl)
        clear hown3 hown4 hg4 hb3 hfrom hall
        go_wp2_with fail
        go_at_call 15
        refine (HR.out (by omega) _ _ _ hL2).mono ?_
        rintro e w5 ⟨v5, rfl, es, B5, _, hr, hes, hb5⟩
        rw [runs_bitsL] at hes
        have V1 := RunsV.of hr hes
        have hb5' := hb4.trans (hb5.mono hb4.size)
        have hF5 := hF1.below hb5'
        have hbw := hb1.trans (hb5'.mono hb1.size)
        obtain ⟨a5, c5, rfl, hv5⟩ := V1
        have V1 : RunsV w5 (.slice a5 1 c5) [(l ++ [false], true)] := ⟨a5, c5, rfl, hv5⟩
        have hba : Below w5.heap.size w5 (w5.alloc (.cells #[] 4)) := (Below.refl _ _).alloc (Nat.le_refl _) _
        clear hr hes hL2 hb5 hb4 hF1 hv5 hb5' hb1
        go_wp2_with (first
          | (at_builtin; refine list_append_from (by rfl) _ _ 36 rfl w5.heap.size 4 i1 (.bool false) 1 1 Try.underlying36 hj hy0 hy1 hy2 rfl (by decide) _ 0 [] rfl (World.ownsRow_lit w5 #[] 0 (Nat.le_refl _) (by decide) rfl) _ _ (l.map .bool) rfl (hF5.below hba) (by simp [hn]) (bits_one l) (by unfold maxLen; omega) (by omega) (by simp) ?_)
          | go_in)
        intro v6 w6 hown6 hg6
        have hb6 := hba.grown hg6 (by simp) (fun j hj => by cases hj; exact Nat.le_refl _)
        clear hg6 hba hF5
        go_wp2_with (first
          | (at_builtin; refine list_append_from (by rfl) _ _ 36 rfl w5.heap.size 4 i1 (.bool false) 1 1 Try.underlying36 hj hy0 hy1 hy2 rfl (by decide) _ _ _ rfl (hown6.alloc _) _ _ [.bool false] rfl (From.block (n := 1) (t := 4) (news := [.bool false]) rfl) rfl (bits_one [false]) (by unfold maxLen; omega) (by omega) (by have := hb6.size; simp; omega) ?_)
          | go_in)
        intro v7 w7 hown7 hg7
        have hb7 := (hb6.alloc hb6.size (.cells #[.bool false] 4)).grown hg7 (Nat.le_trans hb6.size (by simp)) (fun j hj => (World.ownsRow.lt hown6 j hj).1)
        have hv7 : BitsAt w5.heap.size w7 (v7, l ++ [false], true) := by
          unfold BitsAt
          have h7 : w7.ownsRow w5.heap.size 4 1 v7 (0 + k + 1) ((l ++ [false]).map .bool) := by simpa using hown7
          rw [show (l ++ [false]).length = 0 + k + 1 by simp [hn]]
          exact h7
        obtain ⟨g7, c7, rfl, _, _⟩ := World.ownsRow.form hown7 (by omega)
        have V7 := runs_new w7 _ _ (BitsV.of hv7)
        have hb8 := hb7.alloc hb7.size (.cells #[.slice (some ⟨g7, 0, none⟩) (0 + k + 1) c7, .bool true] 40)
        have V1' := V1.below hb8
        have hb8' := hbw.trans (hb8.mono hbw.size)
        clear hown6 hown7 hg7 hb6 hb7 hb8 V1 hbw hv7
        go_wp2_with fail
        go_at_call 14
        rw [Nat.zero_add] at V1' hb8'
        refine (HS.out _ _ _ _ (by simp) (fun r hr => by
          simp only [List.mem_singleton] at hr
          subst hr
          simp
          omega) V1' V7).mono ?_
        rintro e w9 ⟨rfl, hb9⟩
        go_wp2
        go_ret
        exact ⟨rfl, hb8'.trans (hb9.mono hb8'.size)⟩
  · have h60' : 60 < (len : Int) := by omega
    go_enter Try.func5, Try.ntmps5
    go_wp2_with fail
    go_at_call 8
    refine HA.out.mono ?_
    rintro e w1 ⟨rfl, hb1⟩
    go_wp2
    go_ret
    exact ⟨rfl, hb1⟩
end Go.Proofs.Ytdfdmgdielfhnaa.Own

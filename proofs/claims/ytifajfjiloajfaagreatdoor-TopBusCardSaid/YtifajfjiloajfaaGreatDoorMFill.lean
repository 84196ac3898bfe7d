/- A slice of bytes copied; the battery's memory: made, latched, read, written. Conditions: one or two units of 64 bytes, as the slice that comes in has them. · Bytes again and again; whether a game is few. Conditions: lists of bytes of less than 65536. · The sum of bytes: some number, which one isn't asked. Conditions: a row of less than 65536 bytes. -/
import Derived.Test.YtifajfjiloajfaaGreatDoorMKit
import Derived.Test.YtifajfjiloajfaaGreatDoorMGeo
import Derived.Lib.SliceRun
import Derived.Deep.LoopGhost
import Derived.Laws.OwnMore
namespace Go.Proofs.YtifajfjiloajfaaGreatDoor.OwnChip
open Go.RowKit Go.Proofs.YtifajfjiloajfaaGreatDoor.Own

theorem info5c : (Tryz.prog.info? 5).map (fun i => (i.zero, i.size, i.bytes)) = some (some (.int .u8 0), 1, 1) := by kernel_rfl
/-- The first n cells are bytes. -/
def okb (n i : Nat) (u : Value) : Prop := i < n → ∃ x, By x ∧ u = .int .u8 x
/-- n bytes at a block's head. -/
def Byt (n : Nat) (w : World) (g : Nat) : Prop := ∃ cap, n ≤ cap ∧ Sh 5 cap (okb n) w g
theorem Byt.cell {n : Nat} {w : World} {g : Nat} (h : Byt n w g) (i : Nat) (hi : i < n) : ∃ x, By x ∧ w.cell? ⟨g, i, none⟩ = some (.int .u8 x) := by
  obtain ⟨cap, hn, hs⟩ := h
  obtain ⟨v, hv, hk⟩ := Sh.cell hs i (by omega)
  obtain ⟨x, hx, rfl⟩ := hk hi
  exact ⟨x, hx, hv⟩
theorem Byt.frozen {n : Nat} {w : World} {g : Nat} (h : Byt n w g) (i : Nat) : w.frozen? ⟨g, i, none⟩ = false := by
  obtain ⟨cap, hn, hs⟩ := h
  exact Sh.frozen hs i
theorem Byt.set {n : Nat} {w : World} {g : Nat} (h : Byt n w g) (i : Nat) (x : Int) (hx : By x) : Byt n (w.setCell ⟨g, i, none⟩ (.int .u8 x)) g := by
  obtain ⟨cap, hn, hs⟩ := h
  exact ⟨cap, hn, hs.set i _ fun _ => ⟨x, hx, rfl⟩⟩
theorem Byt.lt {n : Nat} {w : World} {g : Nat} (h : Byt n w g) : g < w.heap.size := by
  obtain ⟨cap, hn, hs⟩ := h
  exact hs.lt
theorem Byt.of {n : Nat} {w w' : World} {g : Nat} (e : w'.heap[g]? = w.heap[g]?) (h : Byt n w g) : Byt n w' g := by
  obtain ⟨cap, hn, hs⟩ := h
  exact ⟨cap, hn, hs.of e⟩
theorem Byt.kept {n : Nat} {S : Nat → Prop} {w w' : World} {g : Nat} (h : Kept S w w') (hg : ¬ S g) (k : Byt n w g) : Byt n w' g := k.of (h.block g k.lt hg)
theorem Byt.owns {n base : Nat} {w : World} {v : Value} {xs : List Value} (h : w.ownsRow base 5 1 v n xs) (hn : v ≠ .slice none 0 0) (hx : ∀ u ∈ xs, ∃ x, By x ∧ u = .int .u8 x) :
    ∃ g cap, v = .slice (some ⟨g, 0, none⟩) n cap ∧ base ≤ g ∧ Byt n w g := by
  rcases h.2 with ⟨e, -⟩ | ⟨g, cap, cur, e, hb, hg, h1, h2, h3, h4⟩
  · exact absurd e hn
  · refine ⟨g, cap, e, hb, cap, h1, cur, hg, by omega, ?_⟩
    intro i u hu hi
    refine hx u ?_
    rw [← h4]
    refine List.mem_of_getElem? (i := i) ?_
    rw [List.getElem?_take, if_pos (by omega)]
    simpa using hu
/-- A slice of n bytes that lies anywhere. -/
def Src (n : Nat) (w : World) (d off : Nat) : Prop := ∃ zs : List Int, zs.length = n ∧ (∀ x ∈ zs, By x) ∧ ∀ j, j < n → w.cell? ⟨d, off + j, none⟩ = some (.int .u8 (zs.getD j 0))

set_option maxHeartbeats 2000000 in
set_option maxRecDepth 100000 in
theorem clone_any (n d off c : Nat) (w : World) (h : Src n w d off) (hn : n < 65536) :
    Calls Tryz.prog 26 #[.slice (some ⟨d, off, none⟩) n c] w fun e w' => (∃ g cap, e = .returned (.slice (some ⟨g, 0, none⟩) n cap) ∧ w.heap.size ≤ g ∧ Byt n w' g) ∧ Below w.heap.size w w' := by
  obtain ⟨zs, hz, hzb, hc⟩ := h
  obtain ⟨i0, hi, hz0, hz1, hz2⟩ := info_parts info5c
  have q22 : ∀ (w : World) (a : Option Addr) (n c n' c' : Nat), (binOp .eql 22 (.slice a n c) (.slice none n' c')).run Tryz.prog w = .ok (.bool a.isNone) w := fun w a n c n' c' => Lib.run_eql_slice_nil w _ _ a n c n' c' Tryz.underlying22
  have A := Lib.hid hc
  clear hc
  go_enter Tryz.func26, Tryz.ntmps26
  go_wp2_with (at_builtin; refine wpList_append_own _ rfl _ _ 22 rfl w.heap.size 5 i0 (.int .u8 0) 1 1 Tryz.underlying22 hi hz0 hz1 hz2 rfl (by decide) _ _ _ rfl (World.ownsRow_made w #[] 0 (Nat.le_refl _) (Nat.zero_le _) rfl) ⟨d, off, none⟩ n c (zs.map (Value.int .u8)) rfl ?qc1 ?qc2 ?qc3 ?qc4 ?qc5 ?qc6 ?_)
  case qc1 => simp; omega
  case qc2 =>
    intro j u hj
    have hjn : j < n := by
      have := (List.getElem?_eq_some_iff.1 hj).1
      simp at this
      omega
    rw [Addr.add_lit]
    refine Lib.cell?_alloc_some _ ?_
    rw [A.out j hjn]
    have e : (zs.map (Value.int .u8))[j]? = some (Value.int .u8 (zs.getD j 0)) := by simp [List.getD, List.getElem?_eq_getElem (show j < zs.length by omega)]
    rw [e] at hj
    exact hj
  case qc3 => intro u hu; obtain ⟨x, _, rfl⟩ := List.mem_map.1 hu; rfl
  case qc4 => unfold maxLen; omega
  case qc5 => omega
  case qc6 => simp
  intro v' w1 hown hgrow hnil
  have hown2 : w1.ownsRow w.heap.size 5 1 v' n (zs.map (Value.int .u8)) := by simpa using hown
  obtain ⟨g, cap, rfl, hg, hB⟩ := Byt.owns hown2 hnil (by
    intro u hu
    obtain ⟨x, hx, rfl⟩ := List.mem_map.1 hu
    exact ⟨x, hzb x hx, rfl⟩)
  have HB := Lib.hid hB
  have hbel := Lib.hid (((Below.refl _ w).alloc (Nat.le_refl _) _).grown hgrow (by simp) (by intro k hk; simp [Value.ownBlock] at hk; omega))
  clear hB hown hown2 hgrow hnil
  go_wp2
  go_ret
  exact ⟨⟨g, cap, rfl, hg, HB.out⟩, hbel.out⟩

/-- A chip of n bytes in block g; what it has lies among the blocks of S. -/
def Sr (S : Nat → Prop) (n : Nat) (w : World) (g : Nat) : Prop := S g ∧ ∃ o d cap, S d ∧ g ≠ d ∧ Blk w g 134 #[.bool o, .slice (some ⟨d, 0, none⟩) n cap] ∧ Byt n w d
theorem Sr.kept {S T : Nat → Prop} {n : Nat} {w w' : World} {g : Nat} (k : Kept T w w') (hd : ∀ j, S j → ¬ T j) (h : Sr S n w g) : Sr S n w' g := by
  obtain ⟨hg, o, d, cap, hS, hne, hb, hy⟩ := h
  exact ⟨hg, o, d, cap, hS, hne, k.blk hb (hd g hg), hy.kept k (hd d hS)⟩
theorem Sr.mono {S T : Nat → Prop} {n : Nat} {w : World} {g : Nat} (hs : ∀ j, S j → T j) (h : Sr S n w g) : Sr T n w g := by
  obtain ⟨hg, o, d, cap, hS, r⟩ := h
  exact ⟨hs g hg, o, d, cap, hs d hS, r⟩

set_option maxHeartbeats 800000 in
theorem sr_latch (S : Nat → Prop) (n g : Nat) (v : Int) (w : World) (h : Sr S n w g) :
    Calls Tryz.prog 81 #[.pointer (some ⟨g, 0, none⟩), .int .u8 v] w fun e w' => e = .returned (.tuple #[]) ∧ Sr S n w' g ∧ Kept S w w' := by
  obtain ⟨hg, o, d, cap, hS, hne, hb, hy⟩ := h
  have c0 : w.cell? ⟨g, 0, none⟩ = some (.bool o) := (hb.cell 0).trans rfl
  have f0 := hb.frozen 0
  have HB := Lib.hid hb
  have HY := Lib.hid hy
  clear hb hy
  go_enter Tryz.func81, Tryz.ntmps81
  go_wp2
  go_end0
  exact ⟨rfl, ⟨hg, _, d, cap, hS, hne, HB.out.set_ 0 _, HY.out.of (Below.heap_setCell w _ _ d (fun e => hne e.symm))⟩, Kept.set g 0 _ hg⟩
set_option maxHeartbeats 800000 in
theorem sr_locked (S : Nat → Prop) (n g : Nat) (w : World) (h : Sr S n w g) :
    Calls Tryz.prog 83 #[.pointer (some ⟨g, 0, none⟩)] w fun e w' => (∃ b, e = .returned (.bool b)) ∧ w' = w := by
  obtain ⟨hg, o, d, cap, hS, hne, hb, hy⟩ := h
  have c0 : w.cell? ⟨g, 0, none⟩ = some (.bool o) := (hb.cell 0).trans rfl
  clear hb hy
  go_enter Tryz.func83, Tryz.ntmps83
  go_wp2
  go_ret
  exact ⟨⟨_, rfl⟩, rfl⟩
set_option maxHeartbeats 800000 in
theorem sr_at (S : Nat → Prop) (n g a : Nat) (w : World) (h : Sr S n w g) (ha : a < n) (hn : n < 65536) :
    Calls Tryz.prog 84 #[.pointer (some ⟨g, 0, none⟩), .int .i64 a] w fun e w' => e = .returned (.int .i64 a) ∧ w' = w := by
  obtain ⟨hg, o, d, cap, hS, hne, hb, hy⟩ := h
  have c1 : w.cell? ⟨g, 1, none⟩ = some (.slice (some ⟨d, 0, none⟩) n cap) := (hb.cell 1).trans rfl
  have e4 : ¬ (n : Int) = 0 := by omega
  clear hb hy
  rcases Nat.eq_zero_or_pos a with rfl | hpos
  · go_enter Tryz.func84, Tryz.ntmps84
    go_wp2
    all_goals
      go_ret
      exact ⟨by simp, rfl⟩
  · have e2 : (a : Int) % (n : Int) = a := Int.emod_eq_of_lt (by omega) (by omega)
    go_enter Tryz.func84, Tryz.ntmps84
    go_wp2
    go_ret
    exact ⟨by simp [e2], rfl⟩
theorem upd_blk {w : World} {d k : Nat} (u : Value) {g t : Nat} {cs : Array Value} (h : Blk w g t cs) (hne : g ≠ d) : Blk (w.setCell ⟨d, k, none⟩ u) g t cs := h.far (by simpa using hne) u
set_option maxHeartbeats 1600000 in
theorem sr_read (S : Nat → Prop) (n g a : Nat) (w : World) (h : Sr S n w g) (ha : a < n) (hn : n < 65536) :
    Calls Tryz.prog 66 #[.pointer (some ⟨g, 0, none⟩), .int .i64 a] w fun e w' => (∃ x, By x ∧ e = .returned (.int .u8 x)) ∧ Sr S n w' g ∧ Kept S w w' := by
  have HA := Lib.hid (fun w h => sr_at S n g a w h ha hn)
  have HS := Lib.hid h
  obtain ⟨hg, o, d, cap, hS, hne, hb, hy⟩ := h
  have c1 : w.cell? ⟨g, 1, none⟩ = some (.slice (some ⟨d, 0, none⟩) n cap) := (hb.cell 1).trans rfl
  obtain ⟨x, hx, cx⟩ := hy.cell a ha
  clear hb hy
  go_enter Tryz.func66, Tryz.ntmps66
  go_wp2_with fail
  go_region_with (go_at_call 84; refine (HA.out _ ?_).mono ?_; (focus exact HS.out); rintro e w' ⟨rfl, rfl⟩)
  all_goals
    go_wp2
    go_ret
    exact ⟨⟨x, hx, rfl⟩, HS.out, (Kept.refl _ _).drew⟩
set_option maxHeartbeats 1600000 in
theorem sr_write (S : Nat → Prop) (n g a : Nat) (v : Int) (w : World) (h : Sr S n w g) (ha : a < n) (hn : n < 65536) (hv : By v) :
    Calls Tryz.prog 63 #[.pointer (some ⟨g, 0, none⟩), .int .i64 a, .int .u8 v] w fun e w' => (∃ b, e = .returned (.bool b)) ∧ Sr S n w' g ∧ Kept S w w' := by
  have HA := Lib.hid (fun w h => sr_at S n g a w h ha hn)
  have HL := Lib.hid (sr_locked S n g w h)
  have HS := Lib.hid h
  obtain ⟨hg, o, d, cap, hS, hne, hb, hy⟩ := h
  have c1 : w.cell? ⟨g, 1, none⟩ = some (.slice (some ⟨d, 0, none⟩) n cap) := (hb.cell 1).trans rfl
  obtain ⟨x, hx, cx⟩ := hy.cell a ha
  have fx := hy.frozen a
  have HE : Hid (Sr S n (w.setCell ⟨d, a, none⟩ (.int .u8 v)) g ∧ Kept S w (w.setCell ⟨d, a, none⟩ (.int .u8 v))) := Lib.hid ⟨⟨hg, o, d, cap, hS, hne, upd_blk _ hb hne, hy.set a v hv⟩, Kept.set d a _ hS⟩
  clear hb hy hx
  go_enter Tryz.func63, Tryz.ntmps63
  go_wp2_with (go_at_call 83; refine HL.out.mono ?_; rintro e w' ⟨⟨b, rfl⟩, rfl⟩; cases b)
  all_goals try go_wp2_with fail
  · go_region_with (go_at_call 84; refine (HA.out _ ?_).mono ?_; (focus exact HS.out); rintro e w' ⟨rfl, rfl⟩)
    all_goals
      go_wp2
      go_ret
      exact ⟨⟨_, rfl⟩, HE.out.1, HE.out.2.drew⟩
  · go_ret
    exact ⟨⟨_, rfl⟩, HS.out, Kept.refl _ _⟩
set_option maxHeartbeats 1600000 in
theorem sr_none (A : Option Addr) (n c : Nat) (w : World) :
    Calls Tryz.prog 31 #[.int .i64 0, .slice A n c] w fun e w' => e = .returned (.tuple #[.pointer none, .int .i64 1]) ∧ w' = w := by
  have HB := Lib.hid (fun w => OwnGeo.sram_any 0 w (by omega) (by omega))
  go_enter Tryz.func31, Tryz.ntmps31
  go_wp2_with (go_at_call 35; refine (HB.out _).mono ?_; rintro e w' ⟨rfl, rfl⟩)
  go_ret2
  exact ⟨rfl, rfl⟩
set_option maxHeartbeats 1600000 in
theorem sr_new (s : Nat) (d off c : Nat) (w : World) (h0 : 1 ≤ s) (h1 : s ≤ 2) (h : Src (s * 64) w d off) :
    Calls Tryz.prog 31 #[.int .i64 s, .slice (some ⟨d, off, none⟩) (s * 64) c] w fun e w' => (∃ g, e = .returned (.tuple #[.pointer (some ⟨g, 0, none⟩), .int .i64 0]) ∧ Sr (fun j => w.heap.size ≤ j ∧ j < w'.heap.size) (s * 64) w' g) ∧ Below w.heap.size w w' := by
  have HB := Lib.hid (fun w => OwnGeo.sram_any s w (by omega) (by omega))
  have HC := Lib.hid (clone_any (s * 64) d off c w h (by omega))
  have e1 : (s : Int) * 64 ≠ 0 := by omega
  have e2 : ((s * 64 : Nat) : Int) = (s : Int) * 64 := by omega
  have e3 : ¬ (s : Int) = 0 := by omega
  clear h
  go_enter Tryz.func31, Tryz.ntmps31
  go_wp2_with (first
    | (go_at_call 35; refine (HB.out _).mono ?_; rintro e w' ⟨rfl, rfl⟩)
    | (go_at_call 26; refine HC.out.mono ?_; rintro e w1 ⟨⟨g, cap, rfl, hg, hB⟩, hb⟩; have HB2 := Lib.hid hB; have HK := Lib.hid hb; clear hB hb))
  go_ret2
  refine ⟨⟨_, rfl, ⟨HK.out.size, by simp⟩, false, g, cap, ⟨hg, ?_⟩, ?_, Blk.new _ _ _, HB2.out.of (Below.heap_alloc w1 _ g HB2.out.lt)⟩, HK.out.alloc HK.out.size _⟩
  · have := HB2.out.lt
    simp
    omega
  · have := HB2.out.lt
    omega
end Go.Proofs.YtifajfjiloajfaaGreatDoor.OwnChip
namespace Go.Proofs.YtifajfjiloajfaaGreatDoor.OwnChip
open Go.RowKit Go.Proofs.YtifajfjiloajfaaGreatDoor.Own
/-- A slice of bytes that comes in, nil or not. -/
def Bs (w : World) (A : Option Addr) (zs : List Int) : Prop :=
  (∀ x ∈ zs, By x) ∧ match A with
  | none => zs = []
  | some a => zs = [] ∨ (a.spot = none ∧ ∀ j, j < zs.length → w.cell? ⟨a.block, a.off + j, none⟩ = some (.int .u8 (zs.getD j 0)))
theorem cell_lt0 {w : World} {d o : Nat} {v : Value} (h : w.cell? ⟨d, o, none⟩ = some v) : d < w.heap.size := by
  unfold World.cell? at h
  by_cases hd : d < w.heap.size
  · exact hd
  · rw [show w.heap[d]? = none from Array.getElem?_eq_none (by omega)] at h
    simp at h
theorem make_bytes (m : Nat) (w : World) (hm : m < 65536) : ∃ W, (Instr.makeSlice 22 (.int .i64 (m : Int)) (.int .i64 (m : Int))).run Tryz.prog w = .ok (.slice (some ⟨w.heap.size, 0, none⟩) m m) W ∧ Byt m W w.heap.size ∧ Below w.heap.size w W ∧ W.heap.size = w.heap.size + 1 := by
  obtain ⟨i0, hi, hz0, hz1, hz2⟩ := info_parts info5c
  have hr := run_makeSlice (P := Tryz.prog) w 22 5 i0 (.int .u8 0) Tryz.underlying22 hi hz0 .i64 .i64 m m (by omega) (Int.le_refl _) (by rw [hz1]; simp; omega) (by rw [hz2]; omega) (by omega)
  simp only [Int.toNat_natCast] at hr
  refine ⟨_, hr, ⟨m, Nat.le_refl _, _, Blk.new _ _ _, ?_, ?_⟩, (Below.refl _ w).alloc (Nat.le_refl _) _, by simp⟩
  · rw [hz1]
    simp [madeCells]
  · intro j v hv _
    have hz : i0.size = 1 := hz1
    rw [hz] at hv
    have hv2 : (madeCells #[.int .u8 0] (m * 1))[j]? = some v := hv
    have e : (madeCells #[.int .u8 0] (m * 1)).toList[j]? = some v := by rw [Array.getElem?_toList]; exact hv2
    have hmem := List.mem_of_getElem? e
    rw [toList_madeCells_one (.int .u8 0) (m * 1)] at hmem
    exact ⟨0, ⟨by decide, by decide⟩, List.eq_of_mem_replicate hmem⟩
set_option maxHeartbeats 3200000 in
set_option maxRecDepth 100000 in
theorem fill_any (A : Option Addr) (zs : List Int) (cap m : Nat) (w : World) (h : Bs w A zs) (hn : zs.length < 65536) (hm : m < 65536) :
    Calls Tryz.prog 8 #[.slice A zs.length cap, .int .i64 m] w fun e w' => e = .returned (.slice (some ⟨w.heap.size, 0, none⟩) m m) ∧ Byt m w' w.heap.size ∧ Below w.heap.size w w' := by
  obtain ⟨hzb, h⟩ := h
  have HZ := Lib.hid hzb
  have hm0 : (0 : Int) ≤ m := by omega
  have hm1 : (m : Int) < 65536 := by omega
  obtain ⟨W, hmk, hW1, hW2, hW3⟩ := make_bytes m w hm
  have HW1 := Lib.hid hW1
  have HW2 := Lib.hid hW2
  clear hW3 hm1
  cases A with
  | none =>
    subst h
    clear hzb hW1 hW2
    go_enter Tryz.func8, Tryz.ntmps8
    go_wp2_with fail
    refine wp_loop_rounds 1 ?_
    rw [rounds_succ]
    go_wp2
    all_goals
      go_ret
      exact ⟨rfl, HW1.out, HW2.out⟩
  | some a =>
    obtain ⟨b, off, sp⟩ := a
    rcases Nat.eq_zero_or_pos zs.length with hl | hl
    · have hl0 := Lib.hid hl
      rw [hl]
      clear hzb hW1 hW2 h hl
      go_enter Tryz.func8, Tryz.ntmps8
      go_wp2_with fail
      refine wp_loop_rounds 1 ?_
      rw [rounds_succ]
      go_wp2
      all_goals
        go_ret
        exact ⟨rfl, HW1.out, HW2.out⟩
    · obtain ⟨hsp, hcl⟩ := h.resolve_left (fun e => by rw [e] at hl; simp at hl)
      simp only at hsp hcl
      subst hsp
      have HC := Lib.hid hcl
      have hlz : (0 : Int) < zs.length := by omega
      have hz : ¬ (zs.length : Int) = 0 := by omega
      obtain ⟨nl, hnl⟩ : ∃ nl, nl = zs.length := ⟨_, rfl⟩
      rw [← hnl] at hlz hz hn ⊢
      have HNL := Lib.hid hnl
      clear hzb hW1 hW2 hcl hl hnl
      go_enter Tryz.func8, Tryz.ntmps8
      go_wp2_with fail
      go_loopg [6] m (fun r iv wr => ∃ k : Nat, k + r = m ∧ iv = .int .i64 (k : Int) ∧ Hid (Byt m wr w.heap.size) ∧ Hid (Below w.heap.size w wr))
      case atStart => exact ⟨0, by omega, rfl, HW1, HW2⟩
      case round =>
        obtain ⟨k, hk, rfl, HB, HK⟩ := hrel
        by_cases hkm : k < m
        · have hmod0 : 0 ≤ (k : Int) % (nl : Int) := Int.emod_nonneg _ hz
          have hmod1 : (k : Int) % (nl : Int) < nl := Int.emod_lt_of_pos _ hlz
          have hmn : ((k : Int) % (nl : Int)).toNat = k % nl := by
            rw [← Int.natCast_emod]
            exact Int.toNat_natCast _
          have hkl : k % nl < zs.length := by rw [← HNL.out]; exact Nat.mod_lt _ (by omega)
          have cb : wr.cell? ⟨b, off + k % nl, none⟩ = some (.int .u8 (zs.getD (k % nl) 0)) := (HK.out.cell (cell_lt0 (HC.out _ hkl))).trans (HC.out _ hkl)
          have hyb : By (zs.getD (k % nl) 0) := by
            rw [List.getD_eq_getElem?_getD, List.getElem?_eq_getElem hkl]
            exact HZ.out _ (List.getElem_mem hkl)
          obtain ⟨zk, hzk⟩ : ∃ z, z = zs.getD (k % nl) 0 := ⟨_, rfl⟩
          rw [← hzk] at cb hyb
          have HY := Lib.hid hyb
          clear hzk
          obtain ⟨y, hy0, cy⟩ := HB.out.cell k hkm
          have fy := HB.out.frozen k
          have t1 : (k : Int) < m := by omega
          have hwk : IntKind.i64.wrap ((k : Int) + 1) = (k : Int) + 1 := IntWalk.i64_in _ (by omega)
          clear hyb hmk
          go_wp2_with fail
          go_roundg (gk - 1)
          case measure => omega
          case rel => exact ⟨k + 1, by omega, by go_num, Lib.hid (HB.out.set k _ HY.out), Lib.hid (Kept.none_below ((Kept.below HK.out).trans ((Kept.set (S := (· = w.heap.size)) w.heap.size k _ rfl).mono (by rintro j - rfl; exact Or.inr (Nat.le_refl _)))))⟩
        · obtain rfl : k = m := by omega
          clear hmk
          go_wp2
          go_ret
          exact ⟨rfl, HB.out, HK.out⟩
end Go.Proofs.YtifajfjiloajfaaGreatDoor.OwnChip
namespace Go.Proofs.YtifajfjiloajfaaGreatDoor.OwnChip
open Go.RowKit Go.Proofs.YtifajfjiloajfaaGreatDoor.Own
def SumRet (w : World) (e : Ending) (w' : World) : Prop := ∃ v, e = .returned (.int .u32 v) ∧ w' = w
theorem SumRet.mk (v : Int) (w : World) : SumRet w (.returned (.int .u32 v)) w := ⟨v, rfl, rfl⟩
theorem times_any (x : Int) (w : World) : Calls Tryz.prog 98 #[.int .u32 x] w (SumRet w) := by
  go_enter Tryz.func98, Tryz.ntmps98
  go_wp2
  go_ret
  exact SumRet.mk _ _
set_option maxHeartbeats 3200000 in
theorem more_any (x : Int) (b off n cap : Nat) (w : World) (h : Src n w b off) (hn : n < 65536) : Calls Tryz.prog 71 #[.int .u32 x, .slice (some ⟨b, off, none⟩) n cap] w (SumRet w) := by
  obtain ⟨zs, hz1, hz2, hz3⟩ := h
  have HZ := Lib.hid hz3
  have HX := Lib.hid times_any
  have hz0 : (0 : Int) ≤ n := by omega
  clear hz1 hz2 hz3
  go_enter Tryz.func71, Tryz.ntmps71
  go_wp2_with fail
  go_loopg [0, 11] n (fun r cv iv wr => w = wr ∧ ∃ (k : Nat) (cc : Int), k + r = n ∧ iv = .int .i64 (k : Int) ∧ cv = .int .u32 cc)
  case atStart => exact ⟨rfl, 0, _, by omega, rfl, rfl⟩
  case round =>
    obtain ⟨rfl, k, cc, hk, rfl, rfl⟩ := hrel
    by_cases hkn : k < n
    · have hki : (k : Int) < n := by omega
      have cb := HZ.out k hkn
      obtain ⟨zk, hzk⟩ : ∃ z, z = zs.getD k 0 := ⟨_, rfl⟩
      rw [← hzk] at cb
      clear hzk
      have hwk : IntKind.i64.wrap ((k : Int) + 1) = (k : Int) + 1 := IntWalk.i64_in _ (by omega)
      go_wp2_with fail
      go_loopg [0, 19] 8 (fun r cv iv wi => w = wi ∧ ∃ (j : Nat) (cc : Int), j + r = 8 ∧ iv = .int .i64 (j : Int) ∧ cv = .int .u32 cc)
      case atStart => exact ⟨rfl, 0, _, by omega, rfl, rfl⟩
      case round =>
        obtain ⟨rfl, j, c2, hj, rfl, rfl⟩ := hrel
        by_cases hj8 : j < 8
        · have hji : (j : Int) < 8 := by omega
          have hwj : IntKind.i64.wrap ((j : Int) + 1) = (j : Int) + 1 := IntWalk.i64_in _ (by omega)
          go_wp2_with (go_at_call 98; refine (HX.out _ _).mono ?_; rintro e w1 ⟨v, rfl, rfl⟩)
          go_roundg (gk - 1)
          case measure => omega
          case rel => exact ⟨rfl, j + 1, _, by omega, by go_num, rfl⟩
        · obtain rfl : j = 8 := by omega
          go_wp2
          go_roundg (n - (k + 1))
          case measure => omega
          case rel => exact ⟨rfl, k + 1, _, by omega, by go_num, rfl⟩
    · obtain rfl : k = n := by omega
      go_wp2
      go_ret
      exact SumRet.mk _ _
theorem sum_any (b off n cap : Nat) (w : World) (h : Src n w b off) (hn : n < 65536) : Calls Tryz.prog 72 #[.slice (some ⟨b, off, none⟩) n cap] w (SumRet w) := by
  have HM := Lib.hid (fun x w h => more_any x b off n cap w h hn)
  have HS := Lib.hid h
  clear h
  go_enter Tryz.func72, Tryz.ntmps72
  go_wp2_with (go_at_call 71; refine (HM.out _ _ HS.out).mono ?_; rintro e w1 ⟨v, rfl, rfl⟩)
  go_ret
  exact SumRet.mk _ _
end Go.Proofs.YtifajfjiloajfaaGreatDoor.OwnChip

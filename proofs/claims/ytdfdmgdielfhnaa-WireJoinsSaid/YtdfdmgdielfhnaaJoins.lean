/- The walk of WireJoins: true at any two lists of levels. Condition: the lists are read as their cells. -/
import Derived.Test.YtdfdmgdielfhnaaFrom
namespace Go.Proofs.Ytdfdmgdielfhnaa.Own
open Go.RowKit

set_option maxHeartbeats 16000000 in
set_option maxRecDepth 100000 in
theorem joins_any (A : Option Addr) (len cap : Nat) (l : List (Bool × Bool)) (A' : Option Addr) (len' cap' : Nat) (l' : List (Bool × Bool)) (w : World)
    (hn : l.length = len) (hL : LvAt w A l ∧ (A = none → len = 0 ∧ cap = 0)) (hn' : l'.length = len') (hL' : LvAt w A' l' ∧ (A' = none → len' = 0 ∧ cap' = 0)) :
    Calls Try.prog 7 #[.slice A len cap, .slice A' len' cap'] w fun e w' => e = .returned (.bool true) ∧ Below w.heap.size w w' := by
  obtain ⟨i0, hi, hz0, hz1, hz2⟩ := info_parts info30
  obtain ⟨i1, hj, hy0, hy1, hy2⟩ := info_parts info3
  have HA := Lib.hid (awake_any w)
  have HI := Lib.hid ints_any
  have HF := Lib.hid (From.levels hn hL)
  have HF' := Lib.hid (From.levels hn' hL')
  replace hL := hL.1
  replace hL' := hL'.1
  by_cases h150 : len ≤ 150
  · by_cases h150' : len' ≤ 150
    · have HE := Lib.hid (fun w hL => events_any A len cap l w hn (by omega) hL)
      have HE' := Lib.hid (fun w hL => events_any A' len' cap' l' w hn' (by omega) hL)
      have HE2 := Lib.hid (fun A cap w hL => events_any A (len + len') cap (l ++ l') w (by simp [hn, hn']) (by omega) hL)
      have hi150 : (len : Int) ≤ 150 := by omega
      have hi150' : (len' : Int) ≤ 150 := by omega
      have htl := tells_length l (true, true)
      have htl' := tells_length l' (true, true)
      have happ := tells_append l l' (true, true)
      by_cases h0 : l = []
      · have h00 : len = 0 := by rw [← hn, h0]; rfl
        have hpos : ¬ 0 < (len : Int) := by omega
        have hlast : lastL (true, true) l = (true, true) := by rw [h0]; rfl
        clear h0 h00
        go_enter Try.func7, Try.ntmps7
        go_wp2_with fail
        go_at_call 8
        refine HA.out.mono ?_
        rintro e w1 ⟨rfl, hb1⟩
        go_wp2_with fail
        go_at_call 13
        refine (HE.out _ (hL.below hb1)).mono ?_
        rintro e w2 ⟨va, rfl, hea, hb2⟩
        have hb2' := hb1.trans (hb2.mono hb1.size)
        go_wp2_with fail
        go_at_call 13
        refine (HE'.out _ (hL'.below hb2')).mono ?_
        rintro e w3 ⟨vb, rfl, heb, hb3⟩
        have hb3' := hb2'.trans (hb3.mono hb2'.size)
        have Ia := (IntsAt.of hea).below hb3
        have Ib := IntsAt.of heb
        have Fa := HF.out.below hb3'
        have Fb := HF'.out.below hb3'
        have hba : Below w3.heap.size w3 (w3.alloc (.cells #[] 30)) := (Below.refl _ _).alloc (Nat.le_refl _) _
        clear hea heb hb2 hb3 hb2' hb1
        go_wp2_with (first
          | (at_builtin; refine list_append_from (by rfl) _ _ 22 rfl w3.heap.size 30 i0 (.agg #[.bool false, .bool false]) 2 2 Try.underlying22 hi hz0 hz1 hz2 rfl (by decide) _ 0 [] rfl (World.ownsRow_lit w3 #[] 0 (Nat.le_refl _) (by decide) rfl) _ _ (flatL l) rfl (Fa.below hba) (by rw [flatL_length, hn]) (flatL_one l) (by unfold maxLen; omega) (by omega) (by simp) ?_)
          | go_in)
        intro v1 w4 hown1 hg1
        have hb4 := hba.grown hg1 (by simp) (fun k hk => by cases hk; exact Nat.le_refl _)
        go_wp2_with (first
          | (at_builtin; refine list_append_from (by rfl) _ _ 22 rfl w3.heap.size 30 i0 (.agg #[.bool false, .bool false]) 2 2 Try.underlying22 hi hz0 hz1 hz2 rfl (by decide) _ _ _ rfl hown1 _ _ (flatL l') rfl (Fb.below hb4) (by rw [flatL_length, hn']) (flatL_one l') (by unfold maxLen; omega) (by omega) hb4.size ?_)
          | go_in)
        intro v2 w5 hown2 hg2
        have hb5 := hb4.grown hg2 hb4.size (fun k hk => (World.ownsRow.lt hown1 k hk).1)
        have hown2' : w5.ownsRow w3.heap.size 30 2 v2 (len + len') (flatL (l ++ l')) := by simpa [flatL_append] using hown2
        obtain ⟨A2, cap2, rfl, hL2, _⟩ := LvAt.of hown2' (by simp; omega)
        go_wp2_with fail
        go_at_call 13
        refine (HE2.out _ _ _ hL2).mono ?_
        rintro e w6 ⟨vc, rfl, hec, hb6⟩
        have hb6' := hb5.trans (hb6.mono hb5.size)
        have hb6a := hb3'.trans (hb6'.mono hb3'.size)
        have Ic := IntsAt.of hec
        have Ia6 := Ia.below hb6'
        have Ib6 := Ib.below hb6'
        have hbb : Below w6.heap.size w6 (w6.alloc (.cells #[] 3)) := (Below.refl _ _).alloc (Nat.le_refl _) _
        clear hown1 hg1 hown2 hg2 hb4 hb5 hL2 hec hb6 hb6' Ia Ib Fa Fb hba
        go_wp2_with (first
          | (at_builtin; refine list_append_from (by rfl) _ _ 24 rfl w6.heap.size 3 i1 (.int .i64 0) 1 8 Try.underlying24 hj hy0 hy1 hy2 rfl (by decide) _ 0 [] rfl (World.ownsRow_lit w6 #[] 0 (Nat.le_refl _) (by decide) rfl) _ _ ((tells (true, true) l).map (.int .i64)) rfl (From.ints (Ia6.below hbb)) (by simp) (ints_one _) (by unfold maxLen; omega) (by omega) (by simp) ?_)
          | go_in)
        intro v3 w7 hown3 hg3
        have hb7 := hbb.grown hg3 (by simp) (fun k hk => by cases hk; exact Nat.le_refl _)
        go_wp2_with (first
          | (at_builtin; refine list_append_from (by rfl) _ _ 24 rfl w6.heap.size 3 i1 (.int .i64 0) 1 8 Try.underlying24 hj hy0 hy1 hy2 rfl (by decide) _ _ _ rfl hown3 _ _ ((tells (true, true) l').map (.int .i64)) rfl (From.ints (Ib6.below hb7)) (by simp) (ints_one _) (by unfold maxLen; omega) (by omega) hb7.size ?_)
          | go_in)
        intro v4 w8 hown4 hg4
        have hb8 := hb7.grown hg4 hb7.size (fun k hk => (World.ownsRow.lt hown3 k hk).1)
        have Id : IntsAt w8 v4 (tells (true, true) (l ++ l')) := IntsAt.of (B := w6.heap.size) (by rw [happ, hlast]; simpa using hown4)
        have Ic8 := Ic.below hb8
        have hb8' := hb6a.trans (hb8.mono hb6a.size)
        clear hown3 hg3 hown4 hg4 hb7 hbb hb8
        go_wp2_with fail
        go_at_call 12
        refine (HI.out _ _ _ _ (by rw [tells_length]; simp; omega) Ic8 Id).mono ?_
        rintro e w9 ⟨rfl, hb9⟩
        go_wp2
        go_ret
        exact ⟨rfl, hb8'.trans (hb9.mono hb8'.size)⟩
      · obtain ⟨ds, y, rfl⟩ := ends h0
        obtain ⟨y0, y1⟩ := y
        obtain rfl : ds.length + 1 = len := by rw [← hn]; simp
        have hlast : lastL (true, true) (ds ++ [(y0, y1)]) = (y0, y1) := by rw [lastL_append]; rfl
        rcases hL with h | ⟨b, off, rfl, hlt, hc⟩
        · simp at h
        · obtain ⟨c0, c1⟩ := hc ds.length (by simp)
          have hget : (ds ++ [(y0, y1)]).getD ds.length (false, false) = (y0, y1) := by simp [List.getD_eq_getElem?_getD]
          rw [hget] at c0 c1
          have hL : LvAt w (some ⟨b, off, none⟩) (ds ++ [(y0, y1)]) := .inr ⟨b, off, rfl, hlt, hc⟩
          clear hc h0 hget
          have hd0 : 0 ≤ (ds.length : Int) := by omega
          have hpos : 0 < ((ds.length + 1 : Nat) : Int) := by omega
          generalize hln : ds ++ [(y0, y1)] = l at *
          clear hln
          cases y0
          · go_enter Try.func7, Try.ntmps7
            go_wp2_with fail
            go_at_call 8
            refine HA.out.mono ?_
            rintro e w1 ⟨rfl, hb1⟩
            have d0 := (hb1.cell (p := ⟨b, off + ds.length * 2, none⟩) hlt).trans c0
            have d1 := (hb1.cell (p := ⟨b, off + ds.length * 2 + 1, none⟩) hlt).trans c1
            go_wp2
            go_ret
            exact ⟨rfl, hb1⟩
          · cases y1
            · go_enter Try.func7, Try.ntmps7
              go_wp2_with fail
              go_at_call 8
              refine HA.out.mono ?_
              rintro e w1 ⟨rfl, hb1⟩
              have d0 := (hb1.cell (p := ⟨b, off + ds.length * 2, none⟩) hlt).trans c0
              have d1 := (hb1.cell (p := ⟨b, off + ds.length * 2 + 1, none⟩) hlt).trans c1
              go_wp2
              go_ret
              exact ⟨rfl, hb1⟩
            · go_enter Try.func7, Try.ntmps7
              go_wp2_with fail
              go_at_call 8
              refine HA.out.mono ?_
              rintro e w1 ⟨rfl, hb1⟩
              have d0 := (hb1.cell (p := ⟨b, off + ds.length * 2, none⟩) hlt).trans c0
              have d1 := (hb1.cell (p := ⟨b, off + ds.length * 2 + 1, none⟩) hlt).trans c1
              go_wp2_with fail
              go_at_call 13
              refine (HE.out _ (hL.below hb1)).mono ?_
              rintro e w2 ⟨va, rfl, hea, hb2⟩
              have hb2' := hb1.trans (hb2.mono hb1.size)
              go_wp2_with fail
              go_at_call 13
              refine (HE'.out _ (hL'.below hb2')).mono ?_
              rintro e w3 ⟨vb, rfl, heb, hb3⟩
              have hb3' := hb2'.trans (hb3.mono hb2'.size)
              have Ia := (IntsAt.of hea).below hb3
              have Ib := IntsAt.of heb
              have Fa := HF.out.below hb3'
              have Fb := HF'.out.below hb3'
              have hba : Below w3.heap.size w3 (w3.alloc (.cells #[] 30)) := (Below.refl _ _).alloc (Nat.le_refl _) _
              clear hea heb hb2 hb3 hb2' hb1
              go_wp2_with (first
                | (at_builtin; refine list_append_from (by rfl) _ _ 22 rfl w3.heap.size 30 i0 (.agg #[.bool false, .bool false]) 2 2 Try.underlying22 hi hz0 hz1 hz2 rfl (by decide) _ 0 [] rfl (World.ownsRow_lit w3 #[] 0 (Nat.le_refl _) (by decide) rfl) _ _ (flatL l) rfl (Fa.below hba) (by rw [flatL_length, hn]) (flatL_one l) (by unfold maxLen; omega) (by omega) (by simp) ?_)
                | go_in)
              intro v1 w4 hown1 hg1
              have hb4 := hba.grown hg1 (by simp) (fun k hk => by cases hk; exact Nat.le_refl _)
              go_wp2_with (first
                | (at_builtin; refine list_append_from (by rfl) _ _ 22 rfl w3.heap.size 30 i0 (.agg #[.bool false, .bool false]) 2 2 Try.underlying22 hi hz0 hz1 hz2 rfl (by decide) _ _ _ rfl hown1 _ _ (flatL l') rfl (Fb.below hb4) (by rw [flatL_length, hn']) (flatL_one l') (by unfold maxLen; omega) (by omega) hb4.size ?_)
                | go_in)
              intro v2 w5 hown2 hg2
              have hb5 := hb4.grown hg2 hb4.size (fun k hk => (World.ownsRow.lt hown1 k hk).1)
              have hown2' : w5.ownsRow w3.heap.size 30 2 v2 ((ds.length + 1) + len') (flatL (l ++ l')) := by simpa [flatL_append] using hown2
              obtain ⟨A2, cap2, rfl, hL2, _⟩ := LvAt.of hown2' (by simp; omega)
              go_wp2_with fail
              go_at_call 13
              refine (HE2.out _ _ _ hL2).mono ?_
              rintro e w6 ⟨vc, rfl, hec, hb6⟩
              have hb6' := hb5.trans (hb6.mono hb5.size)
              have hb6a := hb3'.trans (hb6'.mono hb3'.size)
              have Ic := IntsAt.of hec
              have Ia6 := Ia.below hb6'
              have Ib6 := Ib.below hb6'
              have hbb : Below w6.heap.size w6 (w6.alloc (.cells #[] 3)) := (Below.refl _ _).alloc (Nat.le_refl _) _
              clear hown1 hg1 hown2 hg2 hb4 hb5 hL2 hec hb6 hb6' Ia Ib Fa Fb hba
              go_wp2_with (first
                | (at_builtin; refine list_append_from (by rfl) _ _ 24 rfl w6.heap.size 3 i1 (.int .i64 0) 1 8 Try.underlying24 hj hy0 hy1 hy2 rfl (by decide) _ 0 [] rfl (World.ownsRow_lit w6 #[] 0 (Nat.le_refl _) (by decide) rfl) _ _ ((tells (true, true) l).map (.int .i64)) rfl (From.ints (Ia6.below hbb)) (by simp) (ints_one _) (by unfold maxLen; omega) (by omega) (by simp) ?_)
                | go_in)
              intro v3 w7 hown3 hg3
              have hb7 := hbb.grown hg3 (by simp) (fun k hk => by cases hk; exact Nat.le_refl _)
              go_wp2_with (first
                | (at_builtin; refine list_append_from (by rfl) _ _ 24 rfl w6.heap.size 3 i1 (.int .i64 0) 1 8 Try.underlying24 hj hy0 hy1 hy2 rfl (by decide) _ _ _ rfl hown3 _ _ ((tells (true, true) l').map (.int .i64)) rfl (From.ints (Ib6.below hb7)) (by simp) (ints_one _) (by unfold maxLen; omega) (by omega) hb7.size ?_)
                | go_in)
              intro v4 w8 hown4 hg4
              have hb8 := hb7.grown hg4 hb7.size (fun k hk => (World.ownsRow.lt hown3 k hk).1)
              have Id : IntsAt w8 v4 (tells (true, true) (l ++ l')) := IntsAt.of (B := w6.heap.size) (by rw [happ, hlast]; simpa using hown4)
              have Ic8 := Ic.below hb8
              have hb8' := hb6a.trans (hb8.mono hb6a.size)
              clear hown3 hg3 hown4 hg4 hb7 hbb hb8
              go_wp2_with fail
              go_at_call 12
              refine (HI.out _ _ _ _ (by rw [tells_length]; simp; omega) Ic8 Id).mono ?_
              rintro e w9 ⟨rfl, hb9⟩
              go_wp2
              go_ret
              exact ⟨rfl, hb8'.trans (hb9.mono hb8'.size)⟩
    · have hi150 : (len : Int) ≤ 150 := by omega
      have hi150' : 150 < (len' : Int) := by omega
      go_enter Try.func7, Try.ntmps7
      go_wp2_with fail
      go_at_call 8
      refine HA.out.mono ?_
      rintro e w1 ⟨rfl, hb1⟩
      go_wp2
      go_ret
      exact ⟨rfl, hb1⟩
  · have hi150 : 150 < (len : Int) := by omega
    go_enter Try.func7, Try.ntmps7
    go_wp2_with fail
    go_at_call 8
    refine HA.out.mono ?_
    rintro e w1 ⟨rfl, hb1⟩
    go_wp2
    go_ret
    exact ⟨rfl, hb1⟩
end Go.Proofs.Ytdfdmgdielfhnaa.Own

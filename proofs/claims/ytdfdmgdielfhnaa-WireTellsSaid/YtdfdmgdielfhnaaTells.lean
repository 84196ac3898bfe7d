/- The walk of WireTells: true at any list of levels. Condition: the list is read as its cells. -/
import Derived.Test.YtdfdmgdielfhnaaRefRuns
namespace Go.Proofs.Ytdfdmgdielfhnaa.Own
open Go.RowKit

set_option maxHeartbeats 16000000 in
set_option maxRecDepth 100000 in
theorem wireTells_any (A : Option Addr) (len cap : Nat) (l : List (Bool × Bool)) (w : World) (hn : l.length = len) (hL : LvAt w A l) :
    Calls Try.prog 3 #[.slice A len cap] w fun e w' => e = .returned (.bool true) ∧ Below w.heap.size w w' := by
  have HA := Lib.hid (awake_any w)
  have HI := Lib.hid ints_any
  have HS := Lib.hid same_any
  have HT := Lib.hid step_any
  have HN := Lib.hid new_any
  by_cases h300 : len ≤ 300
  · have HE := Lib.hid (fun w hL => evR_any A len cap l w hn (by omega) hL)
    have HE2 := Lib.hid (fun w hL => events_any A len cap l w hn (by omega) hL)
    have HR := Lib.hid (fun w hL => runs_any A len cap l w hn (by omega) hL)
    have HR2 := Lib.hid (fun w hL => runsR_any A len cap l w hn (by omega) hL)
    have h300' : (len : Int) ≤ 300 := by omega
    go_enter Try.func3, Try.ntmps3
    go_wp2_with fail
    go_at_call 8
    refine HA.out.mono ?_
    rintro e w1 ⟨rfl, hb1⟩
    go_wp2_with fail
    go_at_call 9
    refine (HE.out _ (hL.below hb1)).mono ?_
    rintro e w2 ⟨ve, rfl, hev, hb2⟩
    have hL2 := (hL.below hb1).below hb2
    have hb2' := hb1.trans (hb2.mono hb1.size)
    have Ie := IntsAt.of hev
    have htl := tells_length l (true, true)
    rw [hn] at htl
    obtain ⟨a, ca, rfl, ha⟩ := IntsV.of Ie
    rw [htl] at Ie ⊢
    clear hev hL hb1 hb2
    have HC : Hid (∀ wx k, Below w2.heap.size w2 wx → k < len → ∃ ga b off, a = some ⟨ga, 0, none⟩ ∧ A = some ⟨b, off, none⟩ ∧ b < w2.heap.size ∧ ga < w2.heap.size ∧ wx.cell? ⟨ga, k, none⟩ = some (.int .i64 ((tells (true, true) l).getD k 0)) ∧ wx.cell? ⟨b, off + k * 2, none⟩ = some (.bool (l.getD k (false, false)).1) ∧ wx.cell? ⟨b, off + k * 2 + 1, none⟩ = some (.bool (l.getD k (false, false)).2)) :=
      Lib.hid (fun wx k h hk => by
        rcases ha with h0 | ⟨ga, h0, hga, hca⟩
        · rw [h0] at htl; simp at htl; omega
        · rcases hL2 with h2 | ⟨b, off, h2, hlt, hc⟩
          · rw [h2] at hn; simp at hn; omega
          · exact ⟨ga, b, off, h0, h2, hlt, hga, (h.cell hga).trans (hca k (by omega)), (h.cell hlt).trans (hc k (by omega)).1, (h.cell hlt).trans (hc k (by omega)).2⟩)
    clear ha
    go_wp2_with fail
    go_at_call 10
    refine (HN.out _).mono ?_
    rintro e w3 ⟨rfl, hw3⟩
    have HW : Wr w3 w2.heap.size (true, true) := by rw [hw3]; exact Blk.new w2 45 _
    have hb3 : Below w2.heap.size w2 w3 := by rw [hw3]; exact (Below.refl _ _).alloc (Nat.le_refl _) _
    clear hw3
    go_wp2
    go_loopw [6] (fun i wr => ∃ k : Nat, k ≤ len ∧ i = .int .i64 k ∧ Wr wr w2.heap.size (lastL (true, true) (l.take k)) ∧ Below w2.heap.size w2 wr) (fun i _ => len - (intOf i).toNat)
    case atStart => exact ⟨0, by omega, rfl, HW, hb3⟩
    case round =>
      clear HW hb3
      obtain ⟨k, hk, rfl, hwr, hb⟩ := hrel
      have hk0 : 0 ≤ (k : Int) := by omega
      by_cases hkn : k < len
      · have hk1 : (k : Int) < len := by omega
        have hl := lastL_take (true, true) l k (by omega)
        obtain ⟨ga, b, off, rfl, rfl, hlt, hga, ce, c0, c1⟩ := HC.out wr k hb hkn
        rw [tells_getD (true, true) l k (by omega)] at ce
        generalize l.getD k (false, false) = y at c0 c1 ce hl
        generalize lastL (true, true) (l.take k) = x at hwr ce
        have HT' := Lib.hid (fun w h => HT.out w2.heap.size x y w h)
        generalize tell x y = ty at ce HT'
        have hgl := Blk.lt hwr
        have hlt' : b < wr.heap.size := Nat.lt_of_lt_of_le hlt hb.size
        have hga' : ga < wr.heap.size := Nat.lt_of_lt_of_le hga hb.size
        have hne0 : some b ≠ some w2.heap.size := fun h => by injection h with h; omega
        have hne1 : some ga ≠ some w2.heap.size := fun h => by injection h with h; omega
        go_wp2_with fail
        go_region_held3 (fun w' => w'.cell? ⟨b, off + k * 2, none⟩ = some (.bool y.1) ∧ w'.cell? ⟨b, off + k * 2 + 1, none⟩ = some (.bool y.2) ∧ w'.cell? ⟨ga, k, none⟩ = some (.int .i64 ty))
          (first
            | exact ⟨c0, c1, ce⟩
            | exact ⟨(hg3.cell_far ⟨b, off + k * 2, none⟩ hlt' hne0).trans c0, (hg3.cell_far ⟨b, off + k * 2 + 1, none⟩ hlt' hne0).trans c1, (hg3.cell_far ⟨ga, k, none⟩ hga' hne1).trans ce⟩
            | go_keep)
          ((go_at_call 11; refine (HT'.out _ (Blk.drew hwr)).mono ?_; rintro e w3 ⟨rfl, hw3, hg3⟩))
        have hb3 := hb.drew.grown hg3 hb.size (fun j hj => by cases hj; exact Nat.le_refl _)
        clear hg3
        go_wp2
        go_roundw
        case rel => exact ⟨k + 1, by omega, by simp, by rw [hl]; exact hw3, hb3⟩
        case measure => simp [intOf]; omega
      · have hk1 : ¬ (k : Int) < len := by omega
        have hLr := hL2.below hb
        have Ir := Ie.below hb
        have hbr := hb2'.trans (hb.mono hb2'.size)
        clear hwr hb hL2 Ie HC
        go_wp2_with fail
        go_at_call 13
        refine (HE2.out _ hLr).mono ?_
        rintro e w4 ⟨v4, rfl, hev4, hb4⟩
        have I4 := IntsAt.of hev4
        have I4' := Ir.below hb4
        have hL4 := hLr.below hb4
        have hb4' := hbr.trans (hb4.mono hbr.size)
        clear hev4 hb4 hLr Ir hbr
        go_wp2_with fail
        go_at_call 12
        refine (HI.out _ _ _ _ (by rw [htl]; omega) I4 I4').mono ?_
        rintro e w5 ⟨rfl, hb5⟩
        have hL5 := hL4.below hb5
        have hb5' := hb4'.trans (hb5.mono hb4'.size)
        clear hb5 hL4 I4 I4' hb4'
        go_wp2_with fail
        go_at_call 15
        refine (HR.out _ hL5).mono ?_
        rintro e w6 ⟨v6, rfl, es, B, _, hr, hes, hb6⟩
        have V6 := RunsV.of hr hes
        have hL6 := hL5.below hb6
        have hb6' := hb5'.trans (hb6.mono hb5'.size)
        clear hr hes hb6 hL5 hb5'
        go_wp2_with fail
        go_at_call 16
        refine (HR2.out _ hL6).mono ?_
        rintro e w7 ⟨v7, rfl, V7, hb7⟩
        have V6' := V6.below hb7
        have hb7' := hb6'.trans (hb7.mono hb6'.size)
        clear hb7 hL6 hb6' V6
        go_wp2_with fail
        go_at_call 14
        refine (HS.out _ _ _ _ (by have := runs_length l (true, true) ([], false) 0 (by simp); omega) (fun r hr => by have := runs_bits l (true, true) ([], false) 0 (by simp) r hr; omega) V6' V7).mono ?_
        rintro e w8 ⟨rfl, hb8⟩
        go_wp2
        go_ret
        exact ⟨rfl, hb7'.trans (hb8.mono hb7'.size)⟩
  · have h300' : 300 < (len : Int) := by omega
    go_enter Try.func3, Try.ntmps3
    go_wp2_with fail
    go_at_call 8
    refine HA.out.mono ?_
    rintro e w1 ⟨rfl, hb1⟩
    go_wp2
    go_ret
    exact ⟨rfl, hb1⟩
end Go.Proofs.Ytdfdmgdielfhnaa.Own

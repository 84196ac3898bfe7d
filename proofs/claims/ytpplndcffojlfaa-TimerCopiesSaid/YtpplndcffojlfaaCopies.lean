/- A copy of a timer goes on by itself, and answers as the other one would: the walk. Conditions: the arguments read as lists of operations. -/
import Derived.Test.YtpplndcffojlfaaOpen
namespace Go.Proofs.Ytpplndcffojlfaa.Own
open Go.RowKit

def St.ticks : Nat → St → St
  | 0, S => S
  | n + 1, S => (St.ticks n S).tick
def St.act (S : St) (kd reg v : Int) : St := if kd = 0 then S.write reg v else if kd = 1 then S.readTo reg else if kd = 2 then St.ticks v.toNat S else S
def St.out (S : St) (kd reg : Int) : Int := if kd = 1 then S.read reg else 0
theorem St.ok_ticks {S : St} (h : S.ok) : ∀ n, (St.ticks n S).ok
  | 0 => h
  | n + 1 => St.ok_tick (St.ok_ticks h n)
theorem St.ok_act {S : St} (h : S.ok) (kd reg v : Int) (hv : 0 ≤ v ∧ v < 256) : (S.act kd reg v).ok := by
  unfold St.act
  split
  · exact St.ok_write h reg v hv
  · split
    · exact St.ok_readTo h reg
    · split
      · exact St.ok_ticks h _
      · exact h
theorem only_step {a w w' : World} {g : Nat} (h : a.grownBy w (some g)) (k : w.grownBy w' (some g)) : a.grownBy w' (some g) :=
  ⟨k.os.trans h.os, k.tape.trans h.tape, k.output.trans h.output, Nat.le_trans h.size k.size, fun i hi hne => (k.block i (Nat.lt_of_lt_of_le hi h.size) hne).trans (h.block i hi hne)⟩
theorem only_alloc {a w : World} {row : Option Nat} (h : a.grownBy w row) (o : Obj) : a.grownBy (w.alloc o) row :=
  ⟨h.os, h.tape, h.output, Nat.le_trans h.size (by simp), fun i hi hne => (Below.heap_alloc w o i (Nat.lt_of_lt_of_le hi h.size)).trans (h.block i hi hne)⟩

set_option maxHeartbeats 4000000 in
set_option maxRecDepth 100000 in
theorem do_any (g : Nat) (S : St) (kd reg v : Int) (w : World) (ht : TS w g S) (hS : S.ok) (hv : 0 ≤ v ∧ v < 256) :
    Calls Try.prog 20 #[.pointer (some ⟨g, 0, none⟩), .agg #[.int .u8 kd, .int .i64 reg, .int .u8 v]] w fun e w' => e = .returned (.int .u8 (S.out kd reg)) ∧ TS w' g (S.act kd reg v) ∧ w.grownBy w' (some g) := by
  have HV := Lib.hid hv
  have HS := Lib.hid hS
  have hlt := Blk.lt ht
  have hbo := only_alloc (World.grownBy.refl w (some g)) (.cells #[.int .u8 kd, .int .i64 reg, .int .u8 v] 30)
  have hto : TS (w.alloc (.cells #[.int .u8 kd, .int .i64 reg, .int .u8 v] 30)) g S := Blk.alloc ht _
  have hob : Blk (w.alloc (.cells #[.int .u8 kd, .int .i64 reg, .int .u8 v] 30)) w.heap.size 30 #[.int .u8 kd, .int .i64 reg, .int .u8 v] := Blk.new _ _ _
  have HOT := Lib.hid (show w.heap.size ≠ g by omega)
  clear hv hS ht hlt
  by_cases k0 : kd = 0
  · subst k0
    go_enter Try.func20, Try.ntmps20
    go_wp2_with fail
    generalize w.alloc (.cells #[.int .u8 0, .int .i64 reg, .int .u8 v] 30) = w4 at *
    generalize w.heap.size = og at *
    go_at_call 11
    refine (t_write _ _ _ _ _ hto HS.out HV.out).mono ?_
    rintro e w5 ⟨rfl, ht5, hg5⟩
    have hob5 := hob.grown hg5 (fun e => HOT.out (by injection e))
    have hb5 := only_step hbo hg5
    have q0 := (hob5.cell 0).trans (show (#[Value.int .u8 0, .int .i64 reg, .int .u8 v] : Array Value)[0]? = some (.int .u8 0) from rfl)
    go_wp2_with fail
    go_loopw [5] (fun jv wr => TS wr g (S.write reg v) ∧ wr.cell? ⟨og, 0, none⟩ = some (.int .u8 0) ∧ w.grownBy wr (some g)) (fun _ _ => 0)
    case atStart => exact ⟨ht5, q0, hb5⟩
    case round =>
      obtain ⟨ht, q0, hb⟩ := hrel
      go_wp2_with fail
      go_ret
      exact ⟨rfl, ht, hb⟩
  by_cases k1 : kd = 1
  · subst k1
    clear k0
    go_enter Try.func20, Try.ntmps20
    go_wp2_with fail
    generalize w.alloc (.cells #[.int .u8 1, .int .i64 reg, .int .u8 v] 30) = w4 at *
    generalize w.heap.size = og at *
    have q0 := (hob.cell 0).trans (show (#[Value.int .u8 1, .int .i64 reg, .int .u8 v] : Array Value)[0]? = some (.int .u8 1) from rfl)
    have q1 := (hob.cell 1).trans (show (#[Value.int .u8 1, .int .i64 reg, .int .u8 v] : Array Value)[1]? = some (.int .i64 reg) from rfl)
    go_loopw [5] (fun jv wr => TS wr g S ∧ wr.cell? ⟨og, 0, none⟩ = some (.int .u8 1) ∧ wr.cell? ⟨og, 1, none⟩ = some (.int .i64 reg) ∧ w.grownBy wr (some g)) (fun _ _ => 0)
    case atStart => exact ⟨hto, q0, q1, hbo⟩
    case round =>
      clear hto q0 q1
      obtain ⟨ht, q0, q1, hb⟩ := hrel
      go_wp2_with fail
      go_at_call 13
      refine (t_read _ _ _ _ ht HS.out).mono ?_
      rintro e w5 ⟨rfl, ht5, hg5⟩
      go_wp2
      go_ret
      exact ⟨rfl, ht5, only_step hb hg5⟩
  by_cases k2 : kd = 2
  · subst k2
    clear k0 k1
    go_enter Try.func20, Try.ntmps20
    go_wp2_with fail
    generalize w.alloc (.cells #[.int .u8 2, .int .i64 reg, .int .u8 v] 30) = w4 at *
    generalize w.heap.size = og at *
    go_loopw [5] (fun jv wr => ∃ j : Nat, (j : Int) ≤ v ∧ jv = .int .i64 j ∧ TS wr g (St.ticks j S) ∧ Blk wr og 30 #[.int .u8 2, .int .i64 reg, .int .u8 v] ∧ w.grownBy wr (some g)) (fun jv _ => v.toNat - (intOf jv).toNat)
    case atStart => exact ⟨0, by have := HV.out; omega, rfl, hto, hob, hbo⟩
    case round =>
      clear hto hob hbo
      obtain ⟨j, hj, rfl, ht, hob, hb⟩ := hrel
      have q0 := (hob.cell 0).trans (show (#[Value.int .u8 2, .int .i64 reg, .int .u8 v] : Array Value)[0]? = some (.int .u8 2) from rfl)
      have q2 := (hob.cell 2).trans (show (#[Value.int .u8 2, .int .i64 reg, .int .u8 v] : Array Value)[2]? = some (.int .u8 v) from rfl)
      by_cases hjv : (j : Int) < v
      · have hvb := HV.out
        obtain ⟨hv0, hv1⟩ := hvb
        go_wp2_with fail
        clear q0 q2
        go_at_call 15
        refine (t_tick _ _ _ ht (St.ok_ticks HS.out _)).mono ?_
        rintro e wi ⟨rfl, hti, hgi⟩
        have hobi := hob.grown hgi (fun e => HOT.out (by injection e))
        go_wp2
        exact ⟨⟨j + 1, by omega, by go_num, hti, hobi, only_step hb hgi⟩, by simp [intOf]; omega⟩
      · have hvb := HV.out
        obtain ⟨hv0, hv1⟩ := hvb
        go_wp2_with fail
        go_ret
        refine ⟨rfl, ?_, hb⟩
        have e : v.toNat = j := by omega
        show TS wr g (St.ticks v.toNat S)
        rw [e]
        exact ht
  · have k0b : (kd == 0) = false := by simpa using k0
    have k1b : (kd == 1) = false := by simpa using k1
    have k2b : (kd == 2) = false := by simpa using k2
    have ho : S.out kd reg = 0 := by unfold St.out; rw [if_neg k1]
    have ha : S.act kd reg v = S := by unfold St.act; rw [if_neg k0, if_neg k1, if_neg k2]
    rw [ho, ha]
    clear k0 k1 k2 ho ha
    go_enter Try.func20, Try.ntmps20
    go_wp2_with fail
    generalize w.alloc (.cells #[.int .u8 kd, .int .i64 reg, .int .u8 v] 30) = w4 at *
    generalize w.heap.size = og at *
    have q0 := (hob.cell 0).trans (show (#[Value.int .u8 kd, .int .i64 reg, .int .u8 v] : Array Value)[0]? = some (.int .u8 kd) from rfl)
    go_loopw [5] (fun jv wr => TS wr g S ∧ wr.cell? ⟨og, 0, none⟩ = some (.int .u8 kd) ∧ w.grownBy wr (some g)) (fun _ _ => 0)
    case atStart => exact ⟨hto, q0, hbo⟩
    case round =>
      clear hto q0
      obtain ⟨ht, q0, hb⟩ := hrel
      go_wp2_with fail
      go_ret
      exact ⟨rfl, ht, hb⟩

theorem TS.stays {w w' : World} {g : Nat} {S : St} (h : TS w g S) (hb : Below w.heap.size w w') : TS w' g S := Blk.below h hb (Blk.lt h)
theorem irq_read_0 (S : St) : S.readTo 0 = S := rfl

set_option maxHeartbeats 4000000 in
set_option maxRecDepth 100000 in
theorem copies_walk (A : Option Addr) (n cap : Nat) (l : List (Int × Int × Int)) (B : Option Addr) (m cap' : Nat) (l' : List (Int × Int × Int)) (w : World)
    (hl : l.length = n) (hA : OpsAt w A l) (hl' : l'.length = m) (hB : OpsAt w B l') :
    Calls Try.prog 8 #[.slice A n cap, .slice B m cap'] w fun e w' => e = .returned (.bool true) ∧ Below w.heap.size w w' := by
  have HA := Lib.hid hA
  have HL := Lib.hid hl
  have HB := Lib.hid hB
  have HM := Lib.hid hl'
  clear hA hl hB hl'
  by_cases hbig : 40 < n
  · go_enter Try.func8, Try.ntmps8
    go_wp2_with fail
    go_at_call 9
    refine (awake_any _).mono ?_
    rintro e w1 ⟨rfl, hb1⟩
    go_wp2
    go_ret
    exact ⟨rfl, hb1⟩
  by_cases hbig' : 40 < m
  · have hsm : decide ((40 : Int) < n) = false := by simp; omega
    go_enter Try.func8, Try.ntmps8
    go_wp2_with fail
    go_at_call 9
    refine (awake_any _).mono ?_
    rintro e w1 ⟨rfl, hb1⟩
    go_wp2
    go_ret
    exact ⟨rfl, hb1⟩
  · have hsm : decide ((40 : Int) < n) = false := by simp; omega
    have hsm' : decide ((40 : Int) < m) = false := by simp; omega
    go_enter Try.func8, Try.ntmps8
    go_wp2_with fail
    go_at_call 9
    refine (awake_any _).mono ?_
    rintro e w1 ⟨rfl, hb1⟩
    go_wp2_with fail
    go_at_call 10
    refine (new_any _).mono ?_
    rintro e w2 ⟨rfl, ht2, hb2⟩
    go_wp2
    have ht3 : TS w2 w1.heap.size ⟨0, 0, 0, false, false, false⟩ := ht2
    have hb3 := hb1.trans (hb2.mono hb1.size)
    have hs1 : w.heap.size ≤ w1.heap.size := hb1.size
    generalize w1.heap.size = gt at *
    clear hb2 hb1 ht2 hsm hsm'
    go_loopw [8] (fun iv wr => ∃ (k : Nat) (S : St), k ≤ n ∧ iv = .int .i64 k ∧ TS wr gt S ∧ S.ok ∧ Below w.heap.size w wr) (fun iv _ => n - (intOf iv).toNat)
    case atStart => exact ⟨0, _, Nat.zero_le _, rfl, ht3, by simp [St.ok], hb3⟩
    case round =>
      clear ht3 hb3
      obtain ⟨k, S, hk, rfl, ht, hS, hbr⟩ := hrel
      obtain ⟨wo, rfl⟩ : ∃ wo : World, wo = wr := ⟨_, rfl⟩
      have HS := Lib.hid hS
      clear hS
      by_cases hkn : k < n
      · obtain ⟨x, hx⟩ : ∃ x, l[k]? = some x := ⟨l[k]'(by have := HL.out; omega), List.getElem?_eq_getElem _⟩
        obtain ⟨b, off, rfl, hblt, hx0, hx1, hx2, _, hxv⟩ := HA.out k x hx
        clear hx
        obtain ⟨kd, reg, v⟩ := x
        have c0 := (hbr.cell (p := ⟨b, off + k * 3, none⟩) hblt).trans hx0
        have c1 := (hbr.cell (p := ⟨b, off + k * 3 + 1, none⟩) hblt).trans hx1
        have c2 := (hbr.cell (p := ⟨b, off + k * 3 + 2, none⟩) hblt).trans hx2
        clear hx0 hx1 hx2
        simp only at c0 c1 c2 hxv
        have HXV := Lib.hid hxv
        clear hxv
        go_wp2_with fail
        clear c0 c1 c2
        go_at_call 20
        refine (do_any _ _ _ _ _ _ ht HS.out HXV.out).mono ?_
        rintro e w4 ⟨rfl, ht4, hg4⟩
        have hb4 := below_own hbr hg4 hbr.size hs1
        go_wp2
        exact ⟨⟨k + 1, _, by omega, by go_num, ht4, St.ok_act HS.out _ _ _ HXV.out, hb4⟩, by simp [intOf]; omega⟩
      · obtain rfl : k = n := by omega
        go_wp2_with fail
        go_at_call 21
        refine (copy_any _ _ _ _ _ ht).mono ?_
        rintro e w4 ⟨rfl, hu4, hb4⟩
        have hu4' : TS w4 wo.heap.size S := hu4
        have ht4 := ht.stays hb4
        have hlt4 := Blk.lt ht
        go_wp2_with fail
        go_at_call 21
        refine (copy_any _ _ _ _ _ ht4).mono ?_
        rintro e w5 ⟨rfl, hv5, hb5⟩
        have hv5' : TS w5 w4.heap.size S := hv5
        have ht5 := ht4.stays hb5
        have hu5 := hu4'.stays hb5
        have hlt5 := Blk.lt hu4'
        have hbr5 := (hbr.trans (hb4.mono hbr.size)).trans (hb5.mono (Nat.le_trans hbr.size hb4.size))
        have hs2 : w.heap.size ≤ wo.heap.size := hbr.size
        have hs3 : w.heap.size ≤ w4.heap.size := Nat.le_trans hs2 hb4.size
        have HUT := Lib.hid (show wo.heap.size ≠ gt by omega)
        have HVT := Lib.hid (show w4.heap.size ≠ gt by omega)
        have HUV := Lib.hid (show wo.heap.size ≠ w4.heap.size by omega)
        generalize wo.heap.size = gu at *
        generalize w4.heap.size = gv at *
        clear hu4 hu4' ht4 hlt4 hlt5 hb4 hb5 hv5 ht hbr
        go_wp2_with fail
        go_at_call 17
        refine (t_irq _ _ _ ht5).mono ?_
        rintro e w6 ⟨rfl, ht6, hg6⟩
        have hu6 := hu5.keep hg6 HUT.out
        have hv6 := hv5'.keep hg6 HVT.out
        have hb6 := below_own hbr5 hg6 hbr5.size hs1
        go_wp2_with fail
        go_at_call 13
        refine (t_read _ _ _ _ ht6 HS.out).mono ?_
        rintro e w7 ⟨rfl, ht7, hg7⟩
        rw [irq_read_0] at ht7
        have hu7 := hu6.keep hg7 HUT.out
        have hv7 := hv6.keep hg7 HVT.out
        have hb7 := below_own hb6 hg7 hb6.size hs1
        clear ht5 ht6 hu5 hu6 hv5' hv6 hbr5 hb6 hg6 hg7
        go_wp2
        go_loopw [13] (fun iv wr => ∃ (q : Nat) (U : St), q ≤ m ∧ iv = .int .i64 q ∧ TS wr gt S ∧ TS wr gu U ∧ TS wr gv U ∧ U.ok ∧ Below w.heap.size w wr) (fun iv _ => m - (intOf iv).toNat)
        case atStart => exact ⟨0, _, Nat.zero_le _, rfl, ht7, hu7, hv7, HS.out, hb7⟩
        case round =>
          clear ht7 hu7 hv7 hb7
          obtain ⟨q, U, hq, rfl, ht, hu, hv, hU, hbr⟩ := hrel
          have HU := Lib.hid hU
          clear hU
          by_cases hqm : q < m
          · obtain ⟨x, hx⟩ : ∃ x, l'[q]? = some x := ⟨l'[q]'(by have := HM.out; omega), List.getElem?_eq_getElem _⟩
            obtain ⟨b, off, rfl, hblt, hx0, hx1, hx2, _, hxv⟩ := HB.out q x hx
            clear hx
            obtain ⟨kd, reg, v⟩ := x
            have c0 := (hbr.cell (p := ⟨b, off + q * 3, none⟩) hblt).trans hx0
            have c1 := (hbr.cell (p := ⟨b, off + q * 3 + 1, none⟩) hblt).trans hx1
            have c2 := (hbr.cell (p := ⟨b, off + q * 3 + 2, none⟩) hblt).trans hx2
            simp only at c0 c1 c2 hxv
            have HXV := Lib.hid hxv
            clear hxv
            have HX0 := Lib.hid hx0
            have HX1 := Lib.hid hx1
            have HX2 := Lib.hid hx2
            clear hx0 hx1 hx2
            go_wp2_with fail
            clear c0 c1 c2
            go_at_call 20
            refine (do_any _ _ _ _ _ _ hu HU.out HXV.out).mono ?_
            rintro e w8 ⟨rfl, hu8, hg8⟩
            have ht8 := ht.keep hg8 (fun e => HUT.out e.symm)
            have hv8 := hv.keep hg8 (fun e => HUV.out e.symm)
            have hb8 := below_own hbr hg8 hbr.size hs2
            have c0 := (hb8.cell (p := ⟨b, off + q * 3, none⟩) hblt).trans HX0.out
            have c1 := (hb8.cell (p := ⟨b, off + q * 3 + 1, none⟩) hblt).trans HX1.out
            have c2 := (hb8.cell (p := ⟨b, off + q * 3 + 2, none⟩) hblt).trans HX2.out
            go_wp2_with fail
            clear c0 c1 c2
            go_at_call 20
            refine (do_any _ _ _ _ _ _ hv8 HU.out HXV.out).mono ?_
            rintro e w9 ⟨rfl, hv9, hg9⟩
            have ht9 := ht8.keep hg9 (fun e => HVT.out e.symm)
            have hu9 := hu8.keep hg9 HUV.out
            have hb9 := below_own hb8 hg9 hb8.size hs3
            go_wp2_with fail
            go_at_call 17
            refine (t_irq _ _ _ hu9).mono ?_
            rintro e w10 ⟨rfl, hu10, hg10⟩
            have ht10 := ht9.keep hg10 (fun e => HUT.out e.symm)
            have hv10 := hv9.keep hg10 (fun e => HUV.out e.symm)
            have hb10 := below_own hb9 hg10 hb9.size hs2
            go_wp2_with fail
            go_at_call 17
            refine (t_irq _ _ _ hv10).mono ?_
            rintro e w11 ⟨rfl, hv11, hg11⟩
            have ht11 := ht10.keep hg11 (fun e => HVT.out e.symm)
            have hu11 := hu10.keep hg11 HUV.out
            have hb11 := below_own hb10 hg11 hb10.size hs3
            go_wp2
            exact ⟨⟨q + 1, _, by omega, by go_num, ht11, hu11, hv11, St.ok_act HU.out _ _ _ HXV.out, hb11⟩, by simp [intOf]; omega⟩
          · obtain rfl : q = m := by omega
            go_wp2_with fail
            go_at_call 17
            refine (t_irq _ _ _ ht).mono ?_
            rintro e w8 ⟨rfl, ht8, hg8⟩
            have hb8 := below_own hbr hg8 hbr.size hs1
            go_wp2_with fail
            go_at_call 13
            refine (t_read _ _ _ _ ht8 HS.out).mono ?_
            rintro e w9 ⟨rfl, ht9, hg9⟩
            have hb9 := below_own hb8 hg9 hb8.size hs1
            go_wp2
            go_ret
            exact ⟨rfl, hb9⟩
end Go.Proofs.Ytpplndcffojlfaa.Own

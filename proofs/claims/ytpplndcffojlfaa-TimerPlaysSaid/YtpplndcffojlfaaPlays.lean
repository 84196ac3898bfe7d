/- Whatever is done with a timer, each byte that is read, and whether it asks for an interrupt, is as the document says: the walk. Conditions: the argument reads as a list of operations. -/
import Derived.Test.YtpplndcffojlfaaOpen
namespace Go.Proofs.Ytpplndcffojlfaa.Own
open Go.RowKit

set_option maxHeartbeats 4000000 in
set_option maxRecDepth 100000 in
theorem plays_walk (A : Option Addr) (n cap : Nat) (l : List (Int × Int × Int)) (w : World) (hl : l.length = n) (hA : OpsAt w A l) :
    Calls Try.prog 3 #[.slice A n cap] w fun e w' => e = .returned (.bool true) ∧ Below w.heap.size w w' := by
  have HA := Lib.hid hA
  have HL := Lib.hid hl
  clear hA hl
  by_cases hbig : 80 < n
  · go_enter Try.func3, Try.ntmps3
    go_wp2_with fail
    go_at_call 9
    refine (awake_any _).mono ?_
    rintro e w1 ⟨rfl, hb1⟩
    go_wp2
    go_ret
    exact ⟨rfl, hb1⟩
  · have hsm : decide ((80 : Int) < n) = false := by simp; omega
    go_enter Try.func3, Try.ntmps3
    go_wp2_with fail
    go_at_call 9
    refine (awake_any _).mono ?_
    rintro e w1 ⟨rfl, hb1⟩
    go_wp2_with fail
    go_at_call 10
    refine (new_any _).mono ?_
    rintro e w2 ⟨rfl, ht2, hb2⟩
    go_wp2
    have hlt := ht2.lt
    have ht3 : TS (w2.alloc (.cells #[.int .i64 0, .int .i64 0, .int .i64 0, .bool false, .bool false, .bool false] 28)) w1.heap.size ⟨0, 0, 0, false, false, false⟩ := Blk.alloc ht2 _
    have hr3 : RS (w2.alloc (.cells #[.int .i64 0, .int .i64 0, .int .i64 0, .bool false, .bool false, .bool false] 28)) w2.heap.size ⟨0, 0, 0, false, false, false⟩ := Blk.new _ _ _
    have hb3 : Below w.heap.size w (w2.alloc (.cells #[.int .i64 0, .int .i64 0, .int .i64 0, .bool false, .bool false, .bool false] 28)) := (hb1.trans (hb2.mono hb1.size)).alloc (Nat.le_trans hb1.size hb2.size) _
    have hs1 : w.heap.size ≤ w1.heap.size := hb1.size
    have hs2 : w.heap.size ≤ w2.heap.size := Nat.le_trans hs1 hb2.size
    have HNE := Lib.hid (show w1.heap.size ≠ w2.heap.size by omega)
    generalize w2.alloc (.cells #[.int .i64 0, .int .i64 0, .int .i64 0, .bool false, .bool false, .bool false] 28) = w3 at *
    generalize w1.heap.size = gt at *
    generalize w2.heap.size = gu at *
    clear hb2 hb1 ht2 hlt hsm
    go_loopw [6] (fun iv wr => ∃ (k : Nat) (S : St), k ≤ n ∧ iv = .int .i64 k ∧ TS wr gt S ∧ RS wr gu S ∧ S.ok ∧ Below w.heap.size w wr) (fun iv _ => n - (intOf iv).toNat)
    case atStart => exact ⟨0, _, Nat.zero_le _, rfl, ht3, hr3, by simp [St.ok], hb3⟩
    case round =>
      clear ht3 hr3 hb3
      obtain ⟨k, S, hk, rfl, ht, hr, hS, hbr⟩ := hrel
      obtain ⟨wo, rfl⟩ : ∃ wo : World, wo = wr := ⟨_, rfl⟩
      by_cases hkn : k < n
      · obtain ⟨x, hx⟩ : ∃ x, l[k]? = some x := ⟨l[k]'(by have := HL.out; omega), List.getElem?_eq_getElem _⟩
        obtain ⟨b, off, rfl, hblt, hx0, hx1, hx2, hxk, hxv⟩ := HA.out k x hx
        clear hx
        obtain ⟨kd, reg, v⟩ := x
        have c0 := (hbr.cell (p := ⟨b, off + k * 3, none⟩) hblt).trans hx0
        have c1 := (hbr.cell (p := ⟨b, off + k * 3 + 1, none⟩) hblt).trans hx1
        have c2 := (hbr.cell (p := ⟨b, off + k * 3 + 2, none⟩) hblt).trans hx2
        clear hx0 hx1 hx2
        simp only at c0 c1 c2 hxk hxv
        have HXV := Lib.hid hxv
        have HXK := Lib.hid hxk
        have HS := Lib.hid hS
        clear hxv hxk hS
        by_cases k0 : kd = 0
        · subst k0
          have hbo := hbr.alloc hbr.size (.cells #[.int .u8 0, .int .i64 reg, .int .u8 v] 30)
          have hto : TS (wo.alloc (.cells #[.int .u8 0, .int .i64 reg, .int .u8 v] 30)) gt S := Blk.alloc ht _
          have hro : RS (wo.alloc (.cells #[.int .u8 0, .int .i64 reg, .int .u8 v] 30)) gu S := Blk.alloc hr _
          have hob : Blk (wo.alloc (.cells #[.int .u8 0, .int .i64 reg, .int .u8 v] 30)) wo.heap.size 30 #[.int .u8 0, .int .i64 reg, .int .u8 v] := Blk.new _ _ _
          have hgt := Blk.lt ht
          have hgu := Blk.lt hr
          go_wp2_with fail
          generalize wo.alloc (.cells #[.int .u8 0, .int .i64 reg, .int .u8 v] 30) = w4 at *
          have HOT := Lib.hid (show wo.heap.size ≠ gt by omega)
          have HOU := Lib.hid (show wo.heap.size ≠ gu by omega)
          generalize wo.heap.size = og at *
          clear ht hr hgt hgu c0 c1 c2 hbr
          have ht := hto
          clear hto
          have hr := hro
          clear hro
          have hb := hbo
          clear hbo
          go_at_call 11
          refine (t_write _ _ _ _ _ ht HS.out HXV.out).mono ?_
          rintro e w5 ⟨rfl, ht5, hg5⟩
          have hr5 := hr.keep hg5 (fun e => HNE.out e.symm)
          have hob5 := hob.grown hg5 (fun e => HOT.out (by injection e))
          have hb5 := below_own hb hg5 hb.size hs1
          have q1 := (hob5.cell 1).trans (show (#[Value.int .u8 0, .int .i64 reg, .int .u8 v] : Array Value)[1]? = some (.int .i64 reg) from rfl)
          have q2 := (hob5.cell 2).trans (show (#[Value.int .u8 0, .int .i64 reg, .int .u8 v] : Array Value)[2]? = some (.int .u8 v) from rfl)
          go_wp2_with fail
          clear q1 q2
          go_at_call 12
          refine (r_write _ _ _ _ _ hr5 HS.out HXV.out).mono ?_
          rintro e w6 ⟨rfl, hr6, hg6⟩
          have ht6 := ht5.keep hg6 HNE.out
          have hob6 := hob5.grown hg6 (fun e => HOU.out (by injection e))
          have hb6 := below_own hb5 hg6 hb5.size hs2
          have HS6 := Lib.hid (St.ok_write HS.out reg v HXV.out)
          clear ht hr hob hb HS ht5 hr5 hob5 hb5 hg5 hg6
          have ht := ht6
          clear ht6
          have hr := hr6
          clear hr6
          have hob := hob6
          clear hob6
          have hb := hb6
          clear hb6
          have HS := HS6
          clear HS6
          have q0 := (hob.cell 0).trans (show (#[Value.int .u8 0, .int .i64 reg, .int .u8 v] : Array Value)[0]? = some (.int .u8 0) from rfl)
          have q1 := (hob.cell 1).trans (show (#[Value.int .u8 0, .int .i64 reg, .int .u8 v] : Array Value)[1]? = some (.int .i64 reg) from rfl)
          have q2 := (hob.cell 2).trans (show (#[Value.int .u8 0, .int .i64 reg, .int .u8 v] : Array Value)[2]? = some (.int .u8 v) from rfl)
          go_wp2_with fail
          clear q0 q1 q2
          go_loopw [10] (fun jv wr => ∃ (j : Nat) (S : St), (j : Int) ≤ v ∧ jv = .int .i64 j ∧ TS wr gt S ∧ RS wr gu S ∧ S.ok ∧ Blk wr og 30 #[.int .u8 0, .int .i64 reg, .int .u8 v] ∧ Below w.heap.size w wr) (fun jv _ => v.toNat - (intOf jv).toNat)
          case atStart => exact ⟨0, _, by have := HXV.out; omega, rfl, ht, hr, HS.out, hob, hb⟩
          case round =>
            clear ht hr hob hb HS
            obtain ⟨j, S, hj, rfl, ht, hr, hS, hob, hb⟩ := hrel
            have HS := Lib.hid hS
            clear hS
            have q0 := (hob.cell 0).trans (show (#[Value.int .u8 0, .int .i64 reg, .int .u8 v] : Array Value)[0]? = some (.int .u8 0) from rfl)
            have q2 := (hob.cell 2).trans (show (#[Value.int .u8 0, .int .i64 reg, .int .u8 v] : Array Value)[2]? = some (.int .u8 v) from rfl)
            go_wp2_with fail
            clear q0 q2
            go_at_call 17
            refine (t_irq _ _ _ ht).mono ?_
            rintro e wi ⟨rfl, hti, hgi⟩
            have hri := hr.keep hgi (fun e => HNE.out e.symm)
            go_wp2_with fail
            go_at_call 18
            refine (r_irq _ _ _ hri).mono ?_
            rintro e wj ⟨rfl, hrj, hgj⟩
            have htj := hti.keep hgj HNE.out
            have hbi := below_own hb hgi hb.size hs1
            have hbj := below_own hbi hgj hbi.size hs2
            go_wp2
            exact ⟨⟨k + 1, S, by omega, by go_num, htj, hrj, HS.out, hbj⟩, by simp [intOf]; omega⟩
        by_cases k1 : kd = 1
        · subst k1
          clear k0
          have hbo := hbr.alloc hbr.size (.cells #[.int .u8 1, .int .i64 reg, .int .u8 v] 30)
          have hto : TS (wo.alloc (.cells #[.int .u8 1, .int .i64 reg, .int .u8 v] 30)) gt S := Blk.alloc ht _
          have hro : RS (wo.alloc (.cells #[.int .u8 1, .int .i64 reg, .int .u8 v] 30)) gu S := Blk.alloc hr _
          have hob : Blk (wo.alloc (.cells #[.int .u8 1, .int .i64 reg, .int .u8 v] 30)) wo.heap.size 30 #[.int .u8 1, .int .i64 reg, .int .u8 v] := Blk.new _ _ _
          have hgt := Blk.lt ht
          have hgu := Blk.lt hr
          go_wp2_with fail
          generalize wo.alloc (.cells #[.int .u8 1, .int .i64 reg, .int .u8 v] 30) = w4 at *
          have HOT := Lib.hid (show wo.heap.size ≠ gt by omega)
          have HOU := Lib.hid (show wo.heap.size ≠ gu by omega)
          generalize wo.heap.size = og at *
          clear ht hr hgt hgu c0 c1 c2 hbr
          have ht := hto
          clear hto
          have hr := hro
          clear hro
          have hb := hbo
          clear hbo
          go_at_call 13
          refine (t_read _ _ _ _ ht HS.out).mono ?_
          rintro e w5 ⟨rfl, ht5, hg5⟩
          have hr5 := hr.keep hg5 (fun e => HNE.out e.symm)
          have hob5 := hob.grown hg5 (fun e => HOT.out (by injection e))
          have hb5 := below_own hb hg5 hb.size hs1
          have q1 := (hob5.cell 1).trans (show (#[Value.int .u8 1, .int .i64 reg, .int .u8 v] : Array Value)[1]? = some (.int .i64 reg) from rfl)
          go_wp2_with fail
          clear q1
          go_at_call 14
          refine (r_read _ _ _ _ hr5 HS.out).mono ?_
          rintro e w6 ⟨rfl, hr6, hg6⟩
          have ht6 := ht5.keep hg6 HNE.out
          have hob6 := hob5.grown hg6 (fun e => HOU.out (by injection e))
          have hb6 := below_own hb5 hg6 hb5.size hs2
          have HS6 := Lib.hid (St.ok_readTo HS.out reg)
          clear ht hr hob hb HS ht5 hr5 hob5 hb5 hg5 hg6
          have ht := ht6
          clear ht6
          have hr := hr6
          clear hr6
          have hob := hob6
          clear hob6
          have hb := hb6
          clear hb6
          have HS := HS6
          clear HS6
          have q0 := (hob.cell 0).trans (show (#[Value.int .u8 1, .int .i64 reg, .int .u8 v] : Array Value)[0]? = some (.int .u8 1) from rfl)
          have q1 := (hob.cell 1).trans (show (#[Value.int .u8 1, .int .i64 reg, .int .u8 v] : Array Value)[1]? = some (.int .i64 reg) from rfl)
          have q2 := (hob.cell 2).trans (show (#[Value.int .u8 1, .int .i64 reg, .int .u8 v] : Array Value)[2]? = some (.int .u8 v) from rfl)
          go_wp2_with fail
          clear q0 q1 q2
          go_loopw [10] (fun jv wr => ∃ (j : Nat) (S : St), (j : Int) ≤ v ∧ jv = .int .i64 j ∧ TS wr gt S ∧ RS wr gu S ∧ S.ok ∧ Blk wr og 30 #[.int .u8 1, .int .i64 reg, .int .u8 v] ∧ Below w.heap.size w wr) (fun jv _ => v.toNat - (intOf jv).toNat)
          case atStart => exact ⟨0, _, by have := HXV.out; omega, rfl, ht, hr, HS.out, hob, hb⟩
          case round =>
            clear ht hr hob hb HS
            obtain ⟨j, S, hj, rfl, ht, hr, hS, hob, hb⟩ := hrel
            have HS := Lib.hid hS
            clear hS
            have q0 := (hob.cell 0).trans (show (#[Value.int .u8 1, .int .i64 reg, .int .u8 v] : Array Value)[0]? = some (.int .u8 1) from rfl)
            have q2 := (hob.cell 2).trans (show (#[Value.int .u8 1, .int .i64 reg, .int .u8 v] : Array Value)[2]? = some (.int .u8 v) from rfl)
            go_wp2_with fail
            clear q0 q2
            go_at_call 17
            refine (t_irq _ _ _ ht).mono ?_
            rintro e wi ⟨rfl, hti, hgi⟩
            have hri := hr.keep hgi (fun e => HNE.out e.symm)
            go_wp2_with fail
            go_at_call 18
            refine (r_irq _ _ _ hri).mono ?_
            rintro e wj ⟨rfl, hrj, hgj⟩
            have htj := hti.keep hgj HNE.out
            have hbi := below_own hb hgi hb.size hs1
            have hbj := below_own hbi hgj hbi.size hs2
            go_wp2
            exact ⟨⟨k + 1, S, by omega, by go_num, htj, hrj, HS.out, hbj⟩, by simp [intOf]; omega⟩
        by_cases k2 : kd = 2
        · subst k2
          clear k0 k1
          have hbo := hbr.alloc hbr.size (.cells #[.int .u8 2, .int .i64 reg, .int .u8 v] 30)
          have hto : TS (wo.alloc (.cells #[.int .u8 2, .int .i64 reg, .int .u8 v] 30)) gt S := Blk.alloc ht _
          have hro : RS (wo.alloc (.cells #[.int .u8 2, .int .i64 reg, .int .u8 v] 30)) gu S := Blk.alloc hr _
          have hob : Blk (wo.alloc (.cells #[.int .u8 2, .int .i64 reg, .int .u8 v] 30)) wo.heap.size 30 #[.int .u8 2, .int .i64 reg, .int .u8 v] := Blk.new _ _ _
          have hgt := Blk.lt ht
          have hgu := Blk.lt hr
          go_wp2_with fail
          generalize wo.alloc (.cells #[.int .u8 2, .int .i64 reg, .int .u8 v] 30) = w4 at *
          have HOT := Lib.hid (show wo.heap.size ≠ gt by omega)
          have HOU := Lib.hid (show wo.heap.size ≠ gu by omega)
          generalize wo.heap.size = og at *
          clear ht hr hgt hgu c0 c1 c2 hbr
          have ht := hto
          clear hto
          have hr := hro
          clear hro
          have hb := hbo
          clear hbo
          go_loopw [10] (fun jv wr => ∃ (j : Nat) (S : St), (j : Int) ≤ v ∧ jv = .int .i64 j ∧ TS wr gt S ∧ RS wr gu S ∧ S.ok ∧ Blk wr og 30 #[.int .u8 2, .int .i64 reg, .int .u8 v] ∧ Below w.heap.size w wr) (fun jv _ => v.toNat - (intOf jv).toNat)
          case atStart => exact ⟨0, _, by have := HXV.out; omega, rfl, ht, hr, HS.out, hob, hb⟩
          case round =>
            clear ht hr hob hb HS
            obtain ⟨j, S, hj, rfl, ht, hr, hS, hob, hb⟩ := hrel
            have HS := Lib.hid hS
            clear hS
            have q0 := (hob.cell 0).trans (show (#[Value.int .u8 2, .int .i64 reg, .int .u8 v] : Array Value)[0]? = some (.int .u8 2) from rfl)
            have q2 := (hob.cell 2).trans (show (#[Value.int .u8 2, .int .i64 reg, .int .u8 v] : Array Value)[2]? = some (.int .u8 v) from rfl)
            by_cases hjv : (j : Int) < v
            · have hvb := HXV.out
              obtain ⟨hv0, hv1⟩ := hvb
              go_wp2_with fail
              clear q0 q2
              go_at_call 15
              refine (t_tick _ _ _ ht HS.out).mono ?_
              rintro e wi ⟨rfl, hti, hgi⟩
              have hri := hr.keep hgi (fun e => HNE.out e.symm)
              go_wp2_with fail
              go_at_call 16
              refine (r_tick _ _ _ hri HS.out).mono ?_
              rintro e wj ⟨rfl, hrj, hgj⟩
              have htj := hti.keep hgj HNE.out
              have hbi := below_own hb hgi hb.size hs1
              have hbj := below_own hbi hgj hbi.size hs2
              have hobi := hob.grown hgi (fun e => HOT.out (by injection e))
              have hobj := hobi.grown hgj (fun e => HOU.out (by injection e))
              go_wp2
              exact ⟨⟨j + 1, _, by omega, by go_num, htj, hrj, St.ok_tick HS.out, hobj, hbj⟩, by simp [intOf]; omega⟩
            · have hvb := HXV.out
              obtain ⟨hv0, hv1⟩ := hvb
              go_wp2_with fail
              clear q0 q2
              go_at_call 17
              refine (t_irq _ _ _ ht).mono ?_
              rintro e wi ⟨rfl, hti, hgi⟩
              have hri := hr.keep hgi (fun e => HNE.out e.symm)
              go_wp2_with fail
              go_at_call 18
              refine (r_irq _ _ _ hri).mono ?_
              rintro e wj ⟨rfl, hrj, hgj⟩
              have htj := hti.keep hgj HNE.out
              have hbi := below_own hb hgi hb.size hs1
              have hbj := below_own hbi hgj hbi.size hs2
              go_wp2
              exact ⟨⟨k + 1, S, by omega, by go_num, htj, hrj, HS.out, hbj⟩, by simp [intOf]; omega⟩
        · have k0b : (kd == 0) = false := by simpa using k0
          have k1b : (kd == 1) = false := by simpa using k1
          have k2b : (kd == 2) = false := by simpa using k2
          clear k0 k1 k2
          have hbo := hbr.alloc hbr.size (.cells #[.int .u8 kd, .int .i64 reg, .int .u8 v] 30)
          have hto : TS (wo.alloc (.cells #[.int .u8 kd, .int .i64 reg, .int .u8 v] 30)) gt S := Blk.alloc ht _
          have hro : RS (wo.alloc (.cells #[.int .u8 kd, .int .i64 reg, .int .u8 v] 30)) gu S := Blk.alloc hr _
          have hob : Blk (wo.alloc (.cells #[.int .u8 kd, .int .i64 reg, .int .u8 v] 30)) wo.heap.size 30 #[.int .u8 kd, .int .i64 reg, .int .u8 v] := Blk.new _ _ _
          have hgt := Blk.lt ht
          have hgu := Blk.lt hr
          go_wp2_with fail
          generalize wo.alloc (.cells #[.int .u8 kd, .int .i64 reg, .int .u8 v] 30) = w4 at *
          have HOT := Lib.hid (show wo.heap.size ≠ gt by omega)
          have HOU := Lib.hid (show wo.heap.size ≠ gu by omega)
          generalize wo.heap.size = og at *
          clear ht hr hgt hgu c0 c1 c2 hbr
          have ht := hto
          clear hto
          have hr := hro
          clear hro
          have hb := hbo
          clear hbo
          go_loopw [10] (fun jv wr => ∃ (j : Nat) (S : St), (j : Int) ≤ v ∧ jv = .int .i64 j ∧ TS wr gt S ∧ RS wr gu S ∧ S.ok ∧ Blk wr og 30 #[.int .u8 kd, .int .i64 reg, .int .u8 v] ∧ Below w.heap.size w wr) (fun jv _ => v.toNat - (intOf jv).toNat)
          case atStart => exact ⟨0, _, by have := HXV.out; omega, rfl, ht, hr, HS.out, hob, hb⟩
          case round =>
            clear ht hr hob hb HS
            obtain ⟨j, S, hj, rfl, ht, hr, hS, hob, hb⟩ := hrel
            have HS := Lib.hid hS
            clear hS
            have q0 := (hob.cell 0).trans (show (#[Value.int .u8 kd, .int .i64 reg, .int .u8 v] : Array Value)[0]? = some (.int .u8 kd) from rfl)
            have q2 := (hob.cell 2).trans (show (#[Value.int .u8 kd, .int .i64 reg, .int .u8 v] : Array Value)[2]? = some (.int .u8 v) from rfl)
            go_wp2_with fail
            clear q0 q2
            go_at_call 17
            refine (t_irq _ _ _ ht).mono ?_
            rintro e wi ⟨rfl, hti, hgi⟩
            have hri := hr.keep hgi (fun e => HNE.out e.symm)
            go_wp2_with fail
            go_at_call 18
            refine (r_irq _ _ _ hri).mono ?_
            rintro e wj ⟨rfl, hrj, hgj⟩
            have htj := hti.keep hgj HNE.out
            have hbi := below_own hb hgi hb.size hs1
            have hbj := below_own hbi hgj hbi.size hs2
            go_wp2
            exact ⟨⟨k + 1, S, by omega, by go_num, htj, hrj, HS.out, hbj⟩, by simp [intOf]; omega⟩
      · obtain rfl : k = n := by omega
        have HS := Lib.hid hS
        clear hS
        go_wp2_with fail
        go_at_call 13
        refine (t_read _ _ _ _ ht HS.out).mono ?_
        rintro e w5 ⟨rfl, ht5, hg5⟩
        have hr5 := hr.keep hg5 (fun e => HNE.out e.symm)
        have hb5 := below_own hbr hg5 hbr.size hs1
        go_wp2_with fail
        go_at_call 14
        refine (r_read _ _ _ _ hr5 HS.out).mono ?_
        rintro e w6 ⟨rfl, hr6, hg6⟩
        have ht6 := ht5.keep hg6 HNE.out
        have hb6 := below_own hb5 hg6 hb5.size hs2
        have HS6 := Lib.hid (St.ok_readTo HS.out 0)
        clear ht hr hbr HS ht5 hr5 hb5 hg5 hg6
        have ht := ht6
        clear ht6
        have hr := hr6
        clear hr6
        have hbr := hb6
        clear hb6
        have HS := HS6
        clear HS6
        go_wp2_with fail
        go_at_call 13
        refine (t_read _ _ _ _ ht HS.out).mono ?_
        rintro e w5 ⟨rfl, ht5, hg5⟩
        have hr5 := hr.keep hg5 (fun e => HNE.out e.symm)
        have hb5 := below_own hbr hg5 hbr.size hs1
        go_wp2_with fail
        go_at_call 14
        refine (r_read _ _ _ _ hr5 HS.out).mono ?_
        rintro e w6 ⟨rfl, hr6, hg6⟩
        have ht6 := ht5.keep hg6 HNE.out
        have hb6 := below_own hb5 hg6 hb5.size hs2
        have HS6 := Lib.hid (St.ok_readTo HS.out 1)
        clear ht hr hbr HS ht5 hr5 hb5 hg5 hg6
        have ht := ht6
        clear ht6
        have hr := hr6
        clear hr6
        have hbr := hb6
        clear hb6
        have HS := HS6
        clear HS6
        go_wp2_with fail
        go_at_call 13
        refine (t_read _ _ _ _ ht HS.out).mono ?_
        rintro e w5 ⟨rfl, ht5, hg5⟩
        have hr5 := hr.keep hg5 (fun e => HNE.out e.symm)
        have hb5 := below_own hbr hg5 hbr.size hs1
        go_wp2_with fail
        go_at_call 14
        refine (r_read _ _ _ _ hr5 HS.out).mono ?_
        rintro e w6 ⟨rfl, hr6, hg6⟩
        have ht6 := ht5.keep hg6 HNE.out
        have hb6 := below_own hb5 hg6 hb5.size hs2
        have HS6 := Lib.hid (St.ok_readTo HS.out 2)
        clear ht hr hbr HS ht5 hr5 hb5 hg5 hg6
        have ht := ht6
        clear ht6
        have hr := hr6
        clear hr6
        have hbr := hb6
        clear hb6
        have HS := HS6
        clear HS6
        go_wp2
        go_ret
        exact ⟨rfl, hbr⟩
end Go.Proofs.Ytpplndcffojlfaa.Own

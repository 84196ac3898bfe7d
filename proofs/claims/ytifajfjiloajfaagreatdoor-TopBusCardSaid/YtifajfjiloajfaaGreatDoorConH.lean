/- A step of the console. Conditions: the console's state; no interrupt from outside. -/
import Derived.Test.YtifajfjiloajfaaGreatDoorMConG
import Derived.Test.YtifajfjiloajfaaGreatDoorMCon
import Derived.Test.YtifajfjiloajfaaGreatDoorMFlash
namespace Go.Proofs.YtifajfjiloajfaaGreatDoor.OwnCon
open Go.RowKit Go.Proofs.YtifajfjiloajfaaGreatDoor.Own Go.Proofs.YtifajfjiloajfaaGreatDoor.OwnChip Go.Proofs.YtifajfjiloajfaaGreatDoor.OwnCpu
section
variable {τ τ1 : Nat → Nat} {w w1 w2 : World} {K : KC} {c : C} {pl : List (Nat × Nat)} {q : Bool}
theorem con_garb (h : Con τ w K c pl q) (k : Below w.heap.size w w1) : Con (retag τ w.heap.size 10) w1 K c pl q ∧ Goes τ w (retag τ w.heap.size 10) w1 :=
  ⟨h.go 10 (by decide) (by decide) (Kept.below k) (same_banks h) (fun _ => rfl) (fun _ => ⟨rfl, rfl⟩) (fun _ => rfl) (by simp) (by simp) (by simp) (by simp) (by simp) (by simp) (by simp), Goes.below k⟩
theorem Goes.blk {b t : Nat} {cs : Array Value} (g : Goes τ w τ1 w1) (ht : τ b = 10) (h : Blk w b t cs) : Blk w1 b t cs ∧ τ1 b = 10 :=
  ⟨g.2.blk h (by rw [ht]; decide), (g.1 b h.lt).trans ht⟩
theorem press_any (v : Int) (hv : By v) (h : Con τ w K c pl q) : Calls Tryz.prog 37 #[.pointer (some ⟨K.pd, 0, none⟩), .int .u8 v] w.drew fun e w' => e = .returned (.tuple #[]) ∧ CR τ w K c pl q w' := by
  refine (pad_press K.pd v w.drew (Sh.kept (S := fun _ => False) (Kept.refl _ _).drew (fun h => h) h.pd) hv).mono ?_
  rintro e w' ⟨rfl, q1, q2⟩
  exact ⟨rfl, cr_pd h (drewK q2) q1⟩
theorem bel_drew {a b : World} (h : Below a.drew.heap.size a.drew b) : Below a.heap.size a b := ⟨h.os, h.tape, h.output, h.size, h.block⟩
theorem bel_alloc {a b : World} {o : Obj} (h : Below (a.alloc o).drew.heap.size (a.alloc o).drew b) : Below a.heap.size a b := bel_trans ((Below.refl _ a).alloc (Nat.le_refl _) o) (bel_drew h)
theorem wrK_same (K : KC) (r a v : Int) : (wrK K r a v).g = K.g ∧ (wrK K r a v).cpu = K.cpu ∧ (wrK K r a v).tm = K.tm := by
  unfold wrK
  split
  · exact ⟨rfl, rfl, rfl⟩
  · exact ⟨rfl, rfl, rfl⟩
section
variable {K' : KC}
theorem con_facts (h : Con τ w K' c pl q) (e : K'.g = K.g ∧ K'.cpu = K.cpu ∧ K'.tm = K.tm) : w.cell? ⟨K.g, 6, none⟩ = some (ptr K.cpu) ∧ w.cell? ⟨K.g, 2055, none⟩ = some (ptr K.tm) := by
  obtain ⟨e1, e2, e3⟩ := e
  rw [← e1, ← e2, ← e3]
  exact ⟨h.own.c6, h.own.tm⟩
theorem con_irq (h : Con τ w K' c pl q) (e : K'.tm = K.tm) : ∃ b, (q = true → b = false) ∧ Calls Tryz.prog 40 #[ptr K.tm] w.drew fun e w' => e = .returned (.bool b) ∧ w' = w.drew := by
  rw [← e]
  exact tq_irq q K'.tm w.drew (h.tm.kept (S := fun _ => False) (Kept.refl _ _).drew (fun h => h))
theorem con_cpu {i : Nat} (v : Int) (b : Bool) (hv : By v) (h : Con τ w K' c pl q) (e : K'.cpu = K.cpu) (hc : Cs i c pl) (hi : i ≤ 800) : Calls Tryz.prog 14 #[.pointer (some ⟨K.cpu, 0, none⟩), .int .u8 v, .agg #[.bool b, .bool false]] w.drew fun e w' => e = .returned (.tuple #[]) ∧ CR τ w K' (stepS c pl (pl[c.at_]'hc.lt).2 v b).1 (stepS c pl (pl[c.at_]'hc.lt).2 v b).2 q w' := by
  rw [← e]
  obtain ⟨m, hm⟩ := h.mx
  have hne : K'.cpu ≠ 1 := fun e => by
    have z := h.tc
    rw [e, h.t1] at z
    simp at z
  refine (cpu_step v b w.drew (h.cpu.kept (T := fun _ => False) (Kept.refl _ _).drew (fun _ _ h => h)) hc hi hv m hm hne).mono ?_
  rintro e w' ⟨rfl, q1, q2⟩
  exact ⟨rfl, cr_cpu h (drewK q2) q1⟩
theorem con_tick (h : Con τ w K' c pl q) (e : K'.tm = K.tm) : Calls Tryz.prog 41 #[.pointer (some ⟨K.tm, 0, none⟩)] w fun e w' => e = .returned (.tuple #[]) ∧ CR τ w K' c pl q w' := by
  rw [← e]
  refine (tq_tick q K'.tm w h.tm).mono ?_
  rintro e w' ⟨rfl, q1, q2⟩
  exact ⟨rfl, cr_tm h q2 q1⟩
theorem con_ticks' (h : Con τ w K' c pl q) (e : K'.g = K.g) : Calls Tryz.prog 42 #[.pointer (some ⟨K.g, 0, none⟩)] w fun e w' => e = .returned (.tuple #[]) ∧ CR τ w K' c pl q w' := by
  rw [← e]
  exact con_ticks h
/-- The result is written into a block of the call's own. -/
theorem con_end {τ8 : Nat → Nat} {w8 : World} {b4 : Nat} (x y z : Value) (h : Con τ8 w8 K' c pl q) (g : Goes τ w τ8 w8) (ht : τ8 b4 = 10) (hb : w.heap.size ≤ b4) (hl : b4 < w8.heap.size) :
    CR τ w K' c pl q (((w8.setCell ⟨b4, 0, none⟩ x).setCell ⟨b4, 1, none⟩ y).setCell ⟨b4, 2, none⟩ z) := by
  have k : Kept (· = b4) w8 (((w8.setCell ⟨b4, 0, none⟩ x).setCell ⟨b4, 1, none⟩ y).setCell ⟨b4, 2, none⟩ z) := kset (S := (· = b4)) (kset (S := (· = b4)) (Kept.set (S := (· = b4)) b4 0 _ rfl) rfl 1 _) rfl 2 _
  refine ⟨_, h.go 10 (by decide) (by decide) (one_own hl ht k) (same_banks h) (fun _ => rfl) (fun _ => ⟨rfl, rfl⟩) (fun _ => rfl) (by simp) (by simp) (by simp) (by simp) (by simp) (by simp) (by simp), ?_, ?_⟩
  · intro b hb2
    exact (retag_old (Nat.lt_of_lt_of_le hb2 g.2.size)).trans (g.1 b hb2)
  · exact g.2.trans (k.mono (by rintro j - rfl; exact Or.inr hb))
end
/-- What the console's cells are while it looks where an access lies. -/
def Looks (K : KC) (t : Nat) (wa : Int) (w : World) : Prop := w.cell? ⟨K.g, 0, none⟩ = some (.int .i64 8) ∧ w.cell? ⟨K.g, 1, none⟩ = some (.int .i64 K.nb) ∧ w.cell? ⟨K.g, 2, none⟩ = some (.int .i64 K.e) ∧ w.cell? ⟨K.g, 3, none⟩ = some (.int .i64 K.f) ∧ w.cell? ⟨K.g, 4, none⟩ = some (.int .i64 K.s) ∧ w.cell? ⟨K.g, 5, none⟩ = some (.slice (some ⟨K.rb, 0, none⟩) (K.nb * 256) K.rcap) ∧
  w.cell? ⟨K.g, 2057, none⟩ = some (.int .u8 K.br) ∧ w.cell? ⟨K.g, 2058, none⟩ = some (.int .u8 K.bf) ∧ w.cell? ⟨t, 0, none⟩ = some (.int .u16 wa)
theorem Looks.below {t : Nat} {wa : Int} (h : Looks K t wa w) (k : Below w.heap.size w w1) : Looks K t wa w1 := by
  have e : ∀ b j v, w.cell? ⟨b, j, none⟩ = some v → w1.cell? ⟨b, j, none⟩ = some v := fun b j v hv => (cell_of (k.block b (cell_lt hv))).trans hv
  obtain ⟨h0, h1, h2, h3, h4, h5, h6, h7, h8⟩ := h
  exact ⟨e _ _ _ h0, e _ _ _ h1, e _ _ _ h2, e _ _ _ h3, e _ _ _ h4, e _ _ _ h5, e _ _ _ h6, e _ _ _ h7, e _ _ _ h8⟩
theorem con_looks (h : Con τ w K c pl q) {t : Nat} {wa : Int} (ht : w.cell? ⟨t, 0, none⟩ = some (.int .u16 wa)) : Looks K t wa w := ⟨h.own.c0, h.own.c1, h.own.c2, h.own.c3, h.own.c4, h.own.c5, h.own.br, h.own.bf, ht⟩
/-- What a step comes to. -/
def StepRet (τ : Nat → Nat) (w : World) (K' : KC) (c : C) (pl : List (Nat × Nat)) (hlt : c.at_ < pl.length) (q' : Bool) (wa wd : Int) (ww : Bool) (sr : Int) (sa : Nat) (zs : List Int) (e : Ending) (w' : World) : Prop :=
  ∃ v, e = .returned (.tuple #[.agg #[.int .u16 wa, .int .u8 wd, .bool ww], .int .u8 v]) ∧ By v ∧ (ww = true → v = wd) ∧ (ww = false → sr = 5 → v = zs.getD sa 0) ∧ ∃ b, (q' = true → b = false) ∧ CR τ w K' (stepS c pl (pl[c.at_]'hlt).2 v b).1 (stepS c pl (pl[c.at_]'hlt).2 v b).2 q' w'
theorem StepRet.write {K' : KC} {q' : Bool} {hlt : c.at_ < pl.length} {wa wd sr : Int} {sa : Nat} {zs : List Int} (b : Bool) (hv : By wd) (hq : q' = true → b = false) (h : CR τ w K' (stepS c pl (pl[c.at_]'hlt).2 wd b).1 (stepS c pl (pl[c.at_]'hlt).2 wd b).2 q' w1) :
    StepRet τ w K' c pl hlt q' wa wd true sr sa zs (.returned (.tuple #[.agg #[.int .u16 wa, .int .u8 wd, .bool true], .int .u8 wd])) w1 := ⟨wd, rfl, hv, fun _ => rfl, fun h => by simp at h, b, hq, h⟩
theorem StepRet.read {K' : KC} {q' : Bool} {hlt : c.at_ < pl.length} {wa wd sr : Int} {sa : Nat} {zs : List Int} (v : Int) (b : Bool) (hv : By v) (hz : sr = 5 → v = zs.getD sa 0) (hq : q' = true → b = false) (h : CR τ w K' (stepS c pl (pl[c.at_]'hlt).2 v b).1 (stepS c pl (pl[c.at_]'hlt).2 v b).2 q' w1) :
    StepRet τ w K' c pl hlt q' wa wd false sr sa zs (.returned (.tuple #[.agg #[.int .u16 wa, .int .u8 wd, .bool false], .int .u8 v])) w1 := ⟨v, rfl, hv, fun h => by simp at h, fun _ => hz, b, hq, h⟩
set_option maxHeartbeats 6400000 in
set_option maxRecDepth 100000 in
theorem con_step {i : Nat} (u : Int) (hu : By u) (h : Con τ w K c pl q) (hc : Cs i c pl) (hi : i ≤ 800) (wa wd : Int) (ww : Bool) (hwant : wantS (pl[c.at_]'hc.lt).1 c = (wa, wd, ww)) (sr : Int) (sa : Nat) (hwh : OwnGeo.whereS K.nb K.f K.s K.br K.bf wa = (sr, (sa : Int)))
    (K' : KC) (q' : Bool) (hcase : (ww = true ∧ K' = wrK K sr sa wd ∧ q' = wrQ q sr sa wd) ∨ (ww = false ∧ K' = K ∧ q' = q)) :
    Calls Tryz.prog 11 #[.pointer (some ⟨K.g, 0, none⟩), .agg #[.int .u8 u, .bool false, .bool false]] w (StepRet τ w K' c pl hc.lt q' wa wd ww sr sa K.zs) := by
  have hspot : SpotOk K sr sa := by
    have z := OwnGeo.whereS_rng (nb := K.nb) (f := K.f) (s := K.s) (br := K.br) (bf := K.bf) (a := wa) (by have := h.ok.n0; omega) (by have := h.ok.n1; omega) (by omega) (by have := h.ok.f1; omega) (by omega) (by have := h.ok.s1; omega) h.ok.br (by have z := OwnCpu.want_ok (pl[c.at_]'hc.lt).1 hc.ids.1 c hc.ok; rw [hwant] at z; exact z.1.1)
    rw [hwh] at z
    simp only at z
    unfold SpotOk
    omega
  have HSP := Lib.hid hspot
  have hwok := OwnCpu.want_ok (pl[c.at_]'hc.lt).1 hc.ids.1 c hc.ok
  rw [hwant] at hwok
  have HWh : Hid (∀ W, Calls Tryz.prog 13 #[.agg #[.int .i64 8, .int .i64 K.nb, .int .i64 K.e, .int .i64 K.f, .int .i64 K.s, .slice (some ⟨K.rb, 0, none⟩) (K.nb * 256) K.rcap], .agg #[.int .u8 K.br, .int .u8 K.bf], .int .u16 wa] W fun x w' => x = .returned (.agg #[.int .i64 sr, .int .i64 sa]) ∧ Below W.heap.size W w') := Lib.hid (fun W => by
    have z := OwnGeo.where_any K.nb K.e K.f K.s K.br K.bf wa (some ⟨K.rb, 0, none⟩) (K.nb * 256) K.rcap W (by have := h.ok.n0; omega) (by have := h.ok.n1; omega) ⟨h.ok.e0, h.ok.e1, by omega, by have := h.ok.f1; omega, by omega, by have := h.ok.s1; omega⟩ h.ok.br h.ok.bf hwok.1.1 hwok.1.2
    rw [hwh] at z
    exact z)
  have HWOK := Lib.hid hwok
  obtain ⟨W, hW⟩ : ∃ W, W = (w.alloc (.cells #[.int .u8 u, .bool false, .bool false] 48)).alloc (.cells #[.int .u16 0, .int .u8 0, .bool false] 44) := ⟨_, rfl⟩
  have HW := Lib.hid hW
  have hbel : Below w.heap.size w W := by
    rw [hW]
    exact ((Below.refl _ w).alloc (Nat.le_refl _) _).alloc (by simp) _
  have B1 : Blk W w.heap.size 48 #[.int .u8 u, .bool false, .bool false] := by
    rw [hW]
    exact (Blk.new w 48 _).alloc _
  have B4 : Blk W (w.heap.size + 1) 44 #[.int .u16 0, .int .u8 0, .bool false] := by
    rw [hW]
    exact new_1 w _ 44 _
  have hszW : W.heap.size = w.heap.size + 2 := by
    rw [hW]
    simp
  clear hW
  obtain ⟨h0, g0⟩ := con_garb h hbel
  have e12 : W.cell? ⟨w.heap.size, 0, none⟩ = some (.int .u8 u) := (B1.cell 0).trans rfl
  have ep := h0.own.pd
  have H0 := Lib.hid h0
  have G0 := Lib.hid g0
  have HP := Lib.hid (press_any u hu h0)
  have hlt := Sh.lt h.own
  have LB1 := Lib.hid B1
  have LB4 := Lib.hid B4
  have T1 := Lib.hid (show retag τ w.heap.size 10 w.heap.size = 10 from if_neg (Nat.lt_irrefl _))
  have T4 := Lib.hid (show retag τ w.heap.size 10 (w.heap.size + 1) = 10 from if_neg (by omega))
  have HNn : Hid (∀ (S : Nat → Prop) w1, CpuIn S w1 K.cpu c pl → Calls Tryz.prog 12 #[.pointer (some ⟨K.cpu, 0, none⟩)] w1 fun e w' => e = .returned (.agg #[.int .u16 wa, .int .u8 wd, .bool ww]) ∧ Below w1.heap.size w1 w') := Lib.hid (fun S w1 hcpu => by
    have z := cpu_next w1 hcpu hc
    rw [hwant] at z
    exact z)
  have HCS := Lib.hid hc
  have HCASE := Lib.hid hcase
  have HCI := Lib.hid hi
  clear h h0 g0 hbel B1 B4 hwok hwant hwh hspot hcase hi
  go_enter Tryz.func11, Tryz.ntmps11
  go_wp2_with fail
  rw [← HW.out]
  refine wp_region_still_tail 6 (by kernel_rfl) (by kernel_rfl) ?_
  simp only [List.take_succ_cons, List.take_zero, List.drop_succ_cons, List.drop_zero]
  repeat still_step
  refine wpStill_nil ?_
  change wpList _ _ _ _ _ W.drew
  go_wp2_with (first
    | (go_at_call 37
       with_reducible refine HP.out.mono ?_
       rintro e w1 ⟨rfl, τ1, h1, g1⟩
       have p1 := g1.blk T1.out LB1.out
       have p4 := g1.blk T4.out LB4.out
       have H1 := Lib.hid h1
       have G1 := Lib.hid (G0.out.trans g1)
       have P1 := Lib.hid p1
       have P4 := Lib.hid p4
       have d6 := h1.own.c6
       have HN := Lib.hid (HNn.out _ w1 h1.cpu)
       clear h1 g1 p1 p4)
    | (go_at_call 12
       with_reducible refine HN.out.mono ?_
       rintro e w2 ⟨rfl, hb2⟩
       obtain ⟨W2, hW2⟩ : ∃ W2, W2 = w2.alloc (.cells #[.int .u16 wa, .int .u8 wd, .bool ww] 44) := ⟨_, rfl⟩
       have HW2 := Lib.hid hW2
       have hbel2 : Below w1.heap.size w1 W2 := by
         rw [hW2]
         exact hb2.alloc hb2.size _
       have B6 : Blk W2 w2.heap.size 44 #[.int .u16 wa, .int .u8 wd, .bool ww] := by
         rw [hW2]
         exact Blk.new w2 44 _
       have hsz2 : w1.heap.size ≤ w2.heap.size := hb2.size
       clear hW2 hb2
       obtain ⟨h2, g2⟩ := con_garb H1.out hbel2
       have P1' := Lib.hid (g2.blk P1.out.2 P1.out.1)
       have P4' := Lib.hid (g2.blk P4.out.2 P4.out.1)
       have T6 := Lib.hid (show retag τ1 w1.heap.size 10 w2.heap.size = 10 from if_neg (by omega))
       have LB6 := Lib.hid B6
       have H2 := Lib.hid h2
       have G2 := Lib.hid (G1.out.trans g2)
       have hlk := con_looks h2 ((B6.cell 0).trans rfl)
       clear h2 g2 hbel2 B6))
  rw [← HW2.out]
  have HL2 := Lib.hid hlk
  have HLB : Hid (∀ w3, Below W2.heap.size W2 w3 → Looks K w2.heap.size wa w3) := Lib.hid fun w3 k => HL2.out.below k
  have hs0 : Looks K w2.heap.size wa W2.drew := hlk
  have hsA : Looks K w2.heap.size wa (W2.alloc (.cells #[.int .i64 0, .int .i64 0] 51)).drew := HL2.out.below (((Below.refl _ W2).alloc (Nat.le_refl _) _).drew)
  unfold Looks at hs0 hsA
  have HKS : Hid (∀ (w' : World) (a b : Value), (w'.cell? ⟨K.g, 0, none⟩ = some (.int .i64 8) ∧ w'.cell? ⟨K.g, 1, none⟩ = some (.int .i64 K.nb) ∧ w'.cell? ⟨K.g, 2, none⟩ = some (.int .i64 K.e) ∧ w'.cell? ⟨K.g, 3, none⟩ = some (.int .i64 K.f) ∧ w'.cell? ⟨K.g, 4, none⟩ = some (.int .i64 K.s) ∧ w'.cell? ⟨K.g, 5, none⟩ = some (.slice (some ⟨K.rb, 0, none⟩) (K.nb * 256) K.rcap) ∧ w'.cell? ⟨K.g, 2057, none⟩ = some (.int .u8 K.br) ∧ w'.cell? ⟨K.g, 2058, none⟩ = some (.int .u8 K.bf) ∧ w'.cell? ⟨w2.heap.size, 0, none⟩ = some (.int .u16 wa)) → (((w'.setCell ⟨W2.heap.size, 0, none⟩ a).setCell ⟨W2.heap.size, 1, none⟩ b).cell? ⟨K.g, 0, none⟩ = some (.int .i64 8) ∧ ((w'.setCell ⟨W2.heap.size, 0, none⟩ a).setCell ⟨W2.heap.size, 1, none⟩ b).cell? ⟨K.g, 1, none⟩ = some (.int .i64 K.nb) ∧ ((w'.setCell ⟨W2.heap.size, 0, none⟩ a).setCell ⟨W2.heap.size, 1, none⟩ b).cell? ⟨K.g, 2, none⟩ = some (.int .i64 K.e) ∧ ((w'.setCell ⟨W2.heap.size, 0, none⟩ a).setCell ⟨W2.heap.size, 1, none⟩ b).cell? ⟨K.g, 3, none⟩ = some (.int .i64 K.f) ∧ ((w'.setCell ⟨W2.heap.size, 0, none⟩ a).setCell ⟨W2.heap.size, 1, none⟩ b).cell? ⟨K.g, 4, none⟩ = some (.int .i64 K.s) ∧ ((w'.setCell ⟨W2.heap.size, 0, none⟩ a).setCell ⟨W2.heap.size, 1, none⟩ b).cell? ⟨K.g, 5, none⟩ = some (.slice (some ⟨K.rb, 0, none⟩) (K.nb * 256) K.rcap) ∧ ((w'.setCell ⟨W2.heap.size, 0, none⟩ a).setCell ⟨W2.heap.size, 1, none⟩ b).cell? ⟨K.g, 2057, none⟩ = some (.int .u8 K.br) ∧ ((w'.setCell ⟨W2.heap.size, 0, none⟩ a).setCell ⟨W2.heap.size, 1, none⟩ b).cell? ⟨K.g, 2058, none⟩ = some (.int .u8 K.bf) ∧ ((w'.setCell ⟨W2.heap.size, 0, none⟩ a).setCell ⟨W2.heap.size, 1, none⟩ b).cell? ⟨w2.heap.size, 0, none⟩ = some (.int .u16 wa))) := Lib.hid (fun w' a b h => by
    have hg1 : K.g < W2.heap.size := Sh.lt H2.out.own
    have hg2 : w2.heap.size < W2.heap.size := LB6.out.lt
    have e : ∀ b' j, b' < W2.heap.size → ((w'.setCell ⟨W2.heap.size, 0, none⟩ a).setCell ⟨W2.heap.size, 1, none⟩ b).cell? ⟨b', j, none⟩ = w'.cell? ⟨b', j, none⟩ := fun b' j hb => by
      have hne : ∀ k, (⟨W2.heap.size, k, none⟩ : Addr) ≠ ⟨b', j, none⟩ := fun k e => by have := congrArg Addr.block e; simp at this; omega
      rw [World.cell?_setCell_other _ _ _ _ (hne _), World.cell?_setCell_other _ _ _ _ (hne _)]
    rw [e _ _ hg1, e _ _ hg1, e _ _ hg1, e _ _ hg1, e _ _ hg1, e _ _ hg1, e _ _ hg1, e _ _ hg1, e _ _ hg2]
    exact h)
  have HKA : Hid (∀ (w' : World) (o : Obj), (w'.cell? ⟨K.g, 0, none⟩ = some (.int .i64 8) ∧ w'.cell? ⟨K.g, 1, none⟩ = some (.int .i64 K.nb) ∧ w'.cell? ⟨K.g, 2, none⟩ = some (.int .i64 K.e) ∧ w'.cell? ⟨K.g, 3, none⟩ = some (.int .i64 K.f) ∧ w'.cell? ⟨K.g, 4, none⟩ = some (.int .i64 K.s) ∧ w'.cell? ⟨K.g, 5, none⟩ = some (.slice (some ⟨K.rb, 0, none⟩) (K.nb * 256) K.rcap) ∧ w'.cell? ⟨K.g, 2057, none⟩ = some (.int .u8 K.br) ∧ w'.cell? ⟨K.g, 2058, none⟩ = some (.int .u8 K.bf) ∧ w'.cell? ⟨w2.heap.size, 0, none⟩ = some (.int .u16 wa)) → ((w'.alloc o).cell? ⟨K.g, 0, none⟩ = some (.int .i64 8) ∧ (w'.alloc o).cell? ⟨K.g, 1, none⟩ = some (.int .i64 K.nb) ∧ (w'.alloc o).cell? ⟨K.g, 2, none⟩ = some (.int .i64 K.e) ∧ (w'.alloc o).cell? ⟨K.g, 3, none⟩ = some (.int .i64 K.f) ∧ (w'.alloc o).cell? ⟨K.g, 4, none⟩ = some (.int .i64 K.s) ∧ (w'.alloc o).cell? ⟨K.g, 5, none⟩ = some (.slice (some ⟨K.rb, 0, none⟩) (K.nb * 256) K.rcap) ∧ (w'.alloc o).cell? ⟨K.g, 2057, none⟩ = some (.int .u8 K.br) ∧ (w'.alloc o).cell? ⟨K.g, 2058, none⟩ = some (.int .u8 K.bf) ∧ (w'.alloc o).cell? ⟨w2.heap.size, 0, none⟩ = some (.int .u16 wa))) := Lib.hid (fun w' o h => by
    have z : Looks K w2.heap.size wa w' := h
    exact z.below ((Below.refl _ w').alloc (Nat.le_refl _) o))
  clear hlk
  go_region_held3 (fun w' => w'.cell? ⟨K.g, 0, none⟩ = some (.int .i64 8) ∧ w'.cell? ⟨K.g, 1, none⟩ = some (.int .i64 K.nb) ∧ w'.cell? ⟨K.g, 2, none⟩ = some (.int .i64 K.e) ∧ w'.cell? ⟨K.g, 3, none⟩ = some (.int .i64 K.f) ∧ w'.cell? ⟨K.g, 4, none⟩ = some (.int .i64 K.s) ∧ w'.cell? ⟨K.g, 5, none⟩ = some (.slice (some ⟨K.rb, 0, none⟩) (K.nb * 256) K.rcap) ∧
    w'.cell? ⟨K.g, 2057, none⟩ = some (.int .u8 K.br) ∧ w'.cell? ⟨K.g, 2058, none⟩ = some (.int .u8 K.bf) ∧ w'.cell? ⟨w2.heap.size, 0, none⟩ = some (.int .u16 wa)) (first | (with_reducible exact hs3) | (with_reducible exact hs0) | (with_reducible exact hsA) | (with_reducible exact HKA.out _ _ hs3) | (with_reducible exact HKS.out _ _ _ hs3) | go_keep)
    (first
      | (go_at_call 13; refine (HWh.out _).mono ?_; rintro e w3 ⟨rfl, hb3⟩; have hb4 := bel_drew hb3; have hs3 := HLB.out w3 hb4; unfold Looks at hs3; have HB4 := Lib.hid hb4; clear hb3 hb4)
      | (go_at_call 13; refine (HWh.out _).mono ?_; rintro e w3 ⟨rfl, hb3⟩; have hb4 := bel_alloc hb3; have hs3 := HLB.out w3 hb4; unfold Looks at hs3; have HB4 := Lib.hid hb4; have hb7 : Blk w3 W2.heap.size 51 #[.int .i64 0, .int .i64 0] := (Blk.new W2 51 #[.int .i64 0, .int .i64 0]).drew.below hb3 (by simp); have z0 : w3.cell? ⟨W2.heap.size, 0, none⟩ = some (.int .i64 0) := (hb7.cell 0).trans rfl; have z1 : w3.cell? ⟨W2.heap.size, 1, none⟩ = some (.int .i64 0) := (hb7.cell 1).trans rfl; have y0 := hb7.frozen 0; have y1 := hb7.frozen 1; have HB7 := Lib.hid hb7; clear hb3 hb4 hb7))
  · have hA4 : Below W2.heap.size W2 (w3.alloc (.cells #[.int .i64 sr, .int .i64 sa] 51)) := HB4.out.alloc HB4.out.size _
    have hA7 : Blk (w3.alloc (.cells #[.int .i64 sr, .int .i64 sa] 51)) w3.heap.size 51 #[.int .i64 sr, .int .i64 sa] := Blk.new _ _ _
    have hA8 : W2.heap.size ≤ w3.heap.size := HB4.out.size
    clear hs0 hsA hs3 HB4 HKS HKA HLB
    obtain ⟨W4, hW4⟩ : ∃ W4, W4 = w3.alloc (.cells #[.int .i64 sr, .int .i64 sa] 51) := ⟨_, rfl⟩
    rw [← hW4] at hA4 hA7 ⊢
    obtain ⟨t7, ht7⟩ : ∃ t7, t7 = w3.heap.size := ⟨_, rfl⟩
    rw [← ht7] at hA7 hA8 ⊢
    clear hW4 ht7
    obtain ⟨h4, g4⟩ := con_garb H2.out hA4
    have p1 := g4.blk P1'.out.2 P1'.out.1
    have p4 := g4.blk P4'.out.2 P4'.out.1
    have p6 := g4.blk T6.out LB6.out
    have m0 : W4.cell? ⟨t7, 0, none⟩ = some (.int .i64 sr) := (hA7.cell 0).trans rfl
    have m1 : W4.cell? ⟨t7, 1, none⟩ = some (.int .i64 sa) := (hA7.cell 1).trans rfl
    have m6 : W4.cell? ⟨w2.heap.size, 1, none⟩ = some (.int .u8 wd) := (p6.1.cell 1).trans rfl
    have m7 : W4.cell? ⟨w2.heap.size, 2, none⟩ = some (.bool ww) := (p6.1.cell 2).trans rfl
    have G4 := Lib.hid (G2.out.trans g4)
    have HWR := Lib.hid (con_write sr sa wd HWOK.out.2 h4 HSP.out)
    have HRD := Lib.hid (con_read sr sa h4 HSP.out)
    have P1x := Lib.hid p1
    have P4x := Lib.hid p4
    have P6x := Lib.hid p6
    clear h4 g4 p1 p4 p6 hA4 hA7 hA8
    rcases HCASE.out with ⟨hww, hK, hq⟩ | ⟨hww, hK, hq⟩
    · subst hww
      have HKQ := Lib.hid (And.intro hK hq)
      have HKG := Lib.hid (show K'.g = K.g ∧ K'.cpu = K.cpu ∧ K'.tm = K.tm by rw [hK]; exact wrK_same K sr sa wd)
      clear hK hq
      go_wp2_with (first
        | (go_at_call 38
           with_reducible refine HWR.out.mono ?_
           rintro e w5 ⟨rfl, τ5, h5', g5⟩
           have h5 : Con τ5 w5 K' c pl q' := by
             rw [HKQ.out.1, HKQ.out.2]
             exact h5'
           clear h5'
           have k1 := (g5.blk P1x.out.2 P1x.out.1)
           have k4 := (g5.blk P4x.out.2 P4x.out.1)
           have k6 := (g5.blk P6x.out.2 P6x.out.1)
           have n1 : w5.cell? ⟨w.heap.size, 1, none⟩ = some (.bool false) := (k1.1.cell 1).trans rfl
           have n2 : w5.cell? ⟨w.heap.size, 2, none⟩ = some (.bool false) := (k1.1.cell 2).trans rfl
           obtain ⟨n6, n55⟩ := con_facts h5 HKG.out
           obtain ⟨b, hqb, HI0⟩ := con_irq h5 HKG.out.2.2
           have HI := Lib.hid HI0
           have HQB := Lib.hid hqb
           have HCP := Lib.hid (con_cpu wd b HWOK.out.2 h5 HKG.out.2.1 HCS.out HCI.out)
           have K4 := Lib.hid k4
           have K6 := Lib.hid k6
           have G5 := Lib.hid (G4.out.trans g5)
           clear h5 g5 k1 k4 k6 hqb HI0))
      refine wp_region_still_tail 17 (by kernel_rfl) (by kernel_rfl) ?_
      simp only [List.take_succ_cons, List.take_zero, List.drop_succ_cons, List.drop_zero]
      repeat still_step
      still_call HI.out
      repeat still_step
      refine wpStill_nil ?_
      change wpList _ _ _ _ _ w5.drew
      go_wp2_with (first
        | (go_at_call 14
           with_reducible refine HCP.out.mono ?_
           rintro e w6 ⟨rfl, τ6, h6, g6⟩
           have k4 := (g6.blk K4.out.2 K4.out.1)
           have k6 := (g6.blk K6.out.2 K6.out.1)
           have HTK := Lib.hid (con_tick h6 HKG.out.2.2)
           have n55b := (con_facts h6 HKG.out).2
           have L4 := Lib.hid k4
           have L6 := Lib.hid k6
           have G6 := Lib.hid (G5.out.trans g6)
           clear h6 g6 k4 k6)
        | (go_at_call 41
           with_reducible refine HTK.out.mono ?_
           rintro e w7 ⟨rfl, τ7, h7, g7⟩
           have k4 := (g7.blk L4.out.2 L4.out.1)
           have k6 := (g7.blk L6.out.2 L6.out.1)
           have HTS := Lib.hid (con_ticks' h7 HKG.out.1)
           have M4 := Lib.hid k4
           have M6 := Lib.hid k6
           have G7 := Lib.hid (G6.out.trans g7)
           clear h7 g7 k4 k6)
        | (go_at_call 42
           with_reducible refine HTS.out.mono ?_
           rintro e w8 ⟨rfl, τ8, h8, g8⟩
           have k4 := (g8.blk M4.out.2 M4.out.1)
           have k6 := (g8.blk M6.out.2 M6.out.1)
           have s0 : w8.cell? ⟨w.heap.size + 1, 0, none⟩ = some (.int .u16 0) := (k4.1.cell 0).trans rfl
           have s1 : w8.cell? ⟨w.heap.size + 1, 1, none⟩ = some (.int .u8 0) := (k4.1.cell 1).trans rfl
           have s2 : w8.cell? ⟨w.heap.size + 1, 2, none⟩ = some (.bool false) := (k4.1.cell 2).trans rfl
           have fs0 := k4.1.frozen 0
           have fs1 := k4.1.frozen 1
           have fs2 := k4.1.frozen 2
           have r0 : w8.cell? ⟨w2.heap.size, 0, none⟩ = some (.int .u16 wa) := (k6.1.cell 0).trans rfl
           have r1 : w8.cell? ⟨w2.heap.size, 1, none⟩ = some (.int .u8 wd) := (k6.1.cell 1).trans rfl
           have r2 : w8.cell? ⟨w2.heap.size, 2, none⟩ = some (.bool true) := (k6.1.cell 2).trans rfl
           have HFIN := Lib.hid (con_end (.int .u16 wa) (.int .u8 wd) (.bool true) h8 (G7.out.trans g8) k4.2 (Nat.le_succ _) k4.1.lt)
           clear h8 g8 k4 k6))
      refine bodyPost_ret (v := .tuple #[.agg #[.int .u16 wa, .int .u8 wd, .bool true], .int .u8 wd]) ?_ rfl (StepRet.write b HWOK.out.2 HQB.out HFIN.out)
      simp [results, Tryz.results11, go_sem, *]
    · subst hww
      have HKG := Lib.hid (show K'.g = K.g ∧ K'.cpu = K.cpu ∧ K'.tm = K.tm by rw [hK]; exact ⟨rfl, rfl, rfl⟩)
      have HKQ := Lib.hid (And.intro hK hq)
      clear hK hq
      go_wp2_with (first
        | (go_at_call 39
           with_reducible refine HRD.out.mono ?_
           rintro e w5 ⟨⟨v, ⟨hvb, hvz⟩, rfl⟩, τ5, h5', g5⟩
           have HVB := Lib.hid hvb
           have HVZ := Lib.hid hvz
           clear hvz
           have h5 : Con τ5 w5 K' c pl q' := by
             rw [HKQ.out.1, HKQ.out.2]
             exact h5'
           clear h5'
           have k1 := (g5.blk P1x.out.2 P1x.out.1)
           have k4 := (g5.blk P4x.out.2 P4x.out.1)
           have k6 := (g5.blk P6x.out.2 P6x.out.1)
           have n1 : w5.cell? ⟨w.heap.size, 1, none⟩ = some (.bool false) := (k1.1.cell 1).trans rfl
           have n2 : w5.cell? ⟨w.heap.size, 2, none⟩ = some (.bool false) := (k1.1.cell 2).trans rfl
           obtain ⟨n6, n55⟩ := con_facts h5 HKG.out
           obtain ⟨b, hqb, HI0⟩ := con_irq h5 HKG.out.2.2
           have HI := Lib.hid HI0
           have HQB := Lib.hid hqb
           have HCP := Lib.hid (con_cpu v b HVB.out h5 HKG.out.2.1 HCS.out HCI.out)
           have K4 := Lib.hid k4
           have K6 := Lib.hid k6
           have G5 := Lib.hid (G4.out.trans g5)
           clear h5 g5 k1 k4 k6 hqb HI0))
      refine wp_region_still_tail 17 (by kernel_rfl) (by kernel_rfl) ?_
      simp only [List.take_succ_cons, List.take_zero, List.drop_succ_cons, List.drop_zero]
      repeat still_step
      still_call HI.out
      repeat still_step
      refine wpStill_nil ?_
      change wpList _ _ _ _ _ w5.drew
      go_wp2_with (first
        | (go_at_call 14
           with_reducible refine HCP.out.mono ?_
           rintro e w6 ⟨rfl, τ6, h6, g6⟩
           have k4 := (g6.blk K4.out.2 K4.out.1)
           have k6 := (g6.blk K6.out.2 K6.out.1)
           have HTK := Lib.hid (con_tick h6 HKG.out.2.2)
           have n55b := (con_facts h6 HKG.out).2
           have L4 := Lib.hid k4
           have L6 := Lib.hid k6
           have G6 := Lib.hid (G5.out.trans g6)
           clear h6 g6 k4 k6)
        | (go_at_call 41
           with_reducible refine HTK.out.mono ?_
           rintro e w7 ⟨rfl, τ7, h7, g7⟩
           have k4 := (g7.blk L4.out.2 L4.out.1)
           have k6 := (g7.blk L6.out.2 L6.out.1)
           have HTS := Lib.hid (con_ticks' h7 HKG.out.1)
           have M4 := Lib.hid k4
           have M6 := Lib.hid k6
           have G7 := Lib.hid (G6.out.trans g7)
           clear h7 g7 k4 k6)
        | (go_at_call 42
           with_reducible refine HTS.out.mono ?_
           rintro e w8 ⟨rfl, τ8, h8, g8⟩
           have k4 := (g8.blk M4.out.2 M4.out.1)
           have k6 := (g8.blk M6.out.2 M6.out.1)
           have s0 : w8.cell? ⟨w.heap.size + 1, 0, none⟩ = some (.int .u16 0) := (k4.1.cell 0).trans rfl
           have s1 : w8.cell? ⟨w.heap.size + 1, 1, none⟩ = some (.int .u8 0) := (k4.1.cell 1).trans rfl
           have s2 : w8.cell? ⟨w.heap.size + 1, 2, none⟩ = some (.bool false) := (k4.1.cell 2).trans rfl
           have fs0 := k4.1.frozen 0
           have fs1 := k4.1.frozen 1
           have fs2 := k4.1.frozen 2
           have r0 : w8.cell? ⟨w2.heap.size, 0, none⟩ = some (.int .u16 wa) := (k6.1.cell 0).trans rfl
           have r1 : w8.cell? ⟨w2.heap.size, 1, none⟩ = some (.int .u8 wd) := (k6.1.cell 1).trans rfl
           have r2 : w8.cell? ⟨w2.heap.size, 2, none⟩ = some (.bool false) := (k6.1.cell 2).trans rfl
           have HFIN := Lib.hid (con_end (.int .u16 wa) (.int .u8 wd) (.bool false) h8 (G7.out.trans g8) k4.2 (Nat.le_succ _) k4.1.lt)
           clear h8 g8 k4 k6))
      refine bodyPost_ret (v := .tuple #[.agg #[.int .u16 wa, .int .u8 wd, .bool false], .int .u8 v]) ?_ rfl (StepRet.read v b HVB.out HVZ.out HQB.out HFIN.out)
      simp [results, Tryz.results11, go_sem, *]
  · have hA4 : Below W2.heap.size W2 ((w3.setCell ⟨W2.heap.size, 0, none⟩ (.int .i64 sr)).setCell ⟨W2.heap.size, 1, none⟩ (.int .i64 sa)) := Kept.none_below ((Kept.below HB4.out).trans ((Kept.set (S := (· = W2.heap.size)) W2.heap.size 0 _ rfl |>.trans (Kept.set W2.heap.size 1 _ (Or.inl rfl))).mono (by rintro j - rfl; exact Or.inr (Nat.le_refl _))))
    have hA7 : Blk ((w3.setCell ⟨W2.heap.size, 0, none⟩ (.int .i64 sr)).setCell ⟨W2.heap.size, 1, none⟩ (.int .i64 sa)) W2.heap.size 51 #[.int .i64 sr, .int .i64 sa] := (HB7.out.set_ 0 _).set_ 1 _
    clear hs0 hsA hs3 HB4 HB7 HKS HKA HLB z0 z1 y0 y1
    obtain ⟨W4, hW4⟩ : ∃ W4, W4 = (w3.setCell ⟨W2.heap.size, 0, none⟩ (.int .i64 sr)).setCell ⟨W2.heap.size, 1, none⟩ (.int .i64 sa) := ⟨_, rfl⟩
    rw [← hW4] at hA4 hA7 ⊢
    obtain ⟨t7, ht7⟩ : ∃ t7, t7 = W2.heap.size := ⟨_, rfl⟩
    rw [← ht7] at hA7 ⊢
    have hA8 : W2.heap.size ≤ t7 := Nat.le_of_eq ht7.symm
    clear hW4 ht7
    obtain ⟨h4, g4⟩ := con_garb H2.out hA4
    have p1 := g4.blk P1'.out.2 P1'.out.1
    have p4 := g4.blk P4'.out.2 P4'.out.1
    have p6 := g4.blk T6.out LB6.out
    have m0 : W4.cell? ⟨t7, 0, none⟩ = some (.int .i64 sr) := (hA7.cell 0).trans rfl
    have m1 : W4.cell? ⟨t7, 1, none⟩ = some (.int .i64 sa) := (hA7.cell 1).trans rfl
    have m6 : W4.cell? ⟨w2.heap.size, 1, none⟩ = some (.int .u8 wd) := (p6.1.cell 1).trans rfl
    have m7 : W4.cell? ⟨w2.heap.size, 2, none⟩ = some (.bool ww) := (p6.1.cell 2).trans rfl
    have G4 := Lib.hid (G2.out.trans g4)
    have HWR := Lib.hid (con_write sr sa wd HWOK.out.2 h4 HSP.out)
    have HRD := Lib.hid (con_read sr sa h4 HSP.out)
    have P1x := Lib.hid p1
    have P4x := Lib.hid p4
    have P6x := Lib.hid p6
    clear h4 g4 p1 p4 p6 hA4 hA7 hA8
    rcases HCASE.out with ⟨hww, hK, hq⟩ | ⟨hww, hK, hq⟩
    · subst hww
      have HKQ := Lib.hid (And.intro hK hq)
      have HKG := Lib.hid (show K'.g = K.g ∧ K'.cpu = K.cpu ∧ K'.tm = K.tm by rw [hK]; exact wrK_same K sr sa wd)
      clear hK hq
      go_wp2_with (first
        | (go_at_call 38
           with_reducible refine HWR.out.mono ?_
           rintro e w5 ⟨rfl, τ5, h5', g5⟩
           have h5 : Con τ5 w5 K' c pl q' := by
             rw [HKQ.out.1, HKQ.out.2]
             exact h5'
           clear h5'
           have k1 := (g5.blk P1x.out.2 P1x.out.1)
           have k4 := (g5.blk P4x.out.2 P4x.out.1)
           have k6 := (g5.blk P6x.out.2 P6x.out.1)
           have n1 : w5.cell? ⟨w.heap.size, 1, none⟩ = some (.bool false) := (k1.1.cell 1).trans rfl
           have n2 : w5.cell? ⟨w.heap.size, 2, none⟩ = some (.bool false) := (k1.1.cell 2).trans rfl
           obtain ⟨n6, n55⟩ := con_facts h5 HKG.out
           obtain ⟨b, hqb, HI0⟩ := con_irq h5 HKG.out.2.2
           have HI := Lib.hid HI0
           have HQB := Lib.hid hqb
           have HCP := Lib.hid (con_cpu wd b HWOK.out.2 h5 HKG.out.2.1 HCS.out HCI.out)
           have K4 := Lib.hid k4
           have K6 := Lib.hid k6
           have G5 := Lib.hid (G4.out.trans g5)
           clear h5 g5 k1 k4 k6 hqb HI0))
      refine wp_region_still_tail 17 (by kernel_rfl) (by kernel_rfl) ?_
      simp only [List.take_succ_cons, List.take_zero, List.drop_succ_cons, List.drop_zero]
      repeat still_step
      still_call HI.out
      repeat still_step
      refine wpStill_nil ?_
      change wpList _ _ _ _ _ w5.drew
      go_wp2_with (first
        | (go_at_call 14
           with_reducible refine HCP.out.mono ?_
           rintro e w6 ⟨rfl, τ6, h6, g6⟩
           have k4 := (g6.blk K4.out.2 K4.out.1)
           have k6 := (g6.blk K6.out.2 K6.out.1)
           have HTK := Lib.hid (con_tick h6 HKG.out.2.2)
           have n55b := (con_facts h6 HKG.out).2
           have L4 := Lib.hid k4
           have L6 := Lib.hid k6
           have G6 := Lib.hid (G5.out.trans g6)
           clear h6 g6 k4 k6)
        | (go_at_call 41
           with_reducible refine HTK.out.mono ?_
           rintro e w7 ⟨rfl, τ7, h7, g7⟩
           have k4 := (g7.blk L4.out.2 L4.out.1)
           have k6 := (g7.blk L6.out.2 L6.out.1)
           have HTS := Lib.hid (con_ticks' h7 HKG.out.1)
           have M4 := Lib.hid k4
           have M6 := Lib.hid k6
           have G7 := Lib.hid (G6.out.trans g7)
           clear h7 g7 k4 k6)
        | (go_at_call 42
           with_reducible refine HTS.out.mono ?_
           rintro e w8 ⟨rfl, τ8, h8, g8⟩
           have k4 := (g8.blk M4.out.2 M4.out.1)
           have k6 := (g8.blk M6.out.2 M6.out.1)
           have s0 : w8.cell? ⟨w.heap.size + 1, 0, none⟩ = some (.int .u16 0) := (k4.1.cell 0).trans rfl
           have s1 : w8.cell? ⟨w.heap.size + 1, 1, none⟩ = some (.int .u8 0) := (k4.1.cell 1).trans rfl
           have s2 : w8.cell? ⟨w.heap.size + 1, 2, none⟩ = some (.bool false) := (k4.1.cell 2).trans rfl
           have fs0 := k4.1.frozen 0
           have fs1 := k4.1.frozen 1
           have fs2 := k4.1.frozen 2
           have r0 : w8.cell? ⟨w2.heap.size, 0, none⟩ = some (.int .u16 wa) := (k6.1.cell 0).trans rfl
           have r1 : w8.cell? ⟨w2.heap.size, 1, none⟩ = some (.int .u8 wd) := (k6.1.cell 1).trans rfl
           have r2 : w8.cell? ⟨w2.heap.size, 2, none⟩ = some (.bool true) := (k6.1.cell 2).trans rfl
           have HFIN := Lib.hid (con_end (.int .u16 wa) (.int .u8 wd) (.bool true) h8 (G7.out.trans g8) k4.2 (Nat.le_succ _) k4.1.lt)
           clear h8 g8 k4 k6))
      refine bodyPost_ret (v := .tuple #[.agg #[.int .u16 wa, .int .u8 wd, .bool true], .int .u8 wd]) ?_ rfl (StepRet.write b HWOK.out.2 HQB.out HFIN.out)
      simp [results, Tryz.results11, go_sem, *]
    · subst hww
      have HKG := Lib.hid (show K'.g = K.g ∧ K'.cpu = K.cpu ∧ K'.tm = K.tm by rw [hK]; exact ⟨rfl, rfl, rfl⟩)
      have HKQ := Lib.hid (And.intro hK hq)
      clear hK hq
      go_wp2_with (first
        | (go_at_call 39
           with_reducible refine HRD.out.mono ?_
           rintro e w5 ⟨⟨v, ⟨hvb, hvz⟩, rfl⟩, τ5, h5', g5⟩
           have HVB := Lib.hid hvb
           have HVZ := Lib.hid hvz
           clear hvz
           have h5 : Con τ5 w5 K' c pl q' := by
             rw [HKQ.out.1, HKQ.out.2]
             exact h5'
           clear h5'
           have k1 := (g5.blk P1x.out.2 P1x.out.1)
           have k4 := (g5.blk P4x.out.2 P4x.out.1)
           have k6 := (g5.blk P6x.out.2 P6x.out.1)
           have n1 : w5.cell? ⟨w.heap.size, 1, none⟩ = some (.bool false) := (k1.1.cell 1).trans rfl
           have n2 : w5.cell? ⟨w.heap.size, 2, none⟩ = some (.bool false) := (k1.1.cell 2).trans rfl
           obtain ⟨n6, n55⟩ := con_facts h5 HKG.out
           obtain ⟨b, hqb, HI0⟩ := con_irq h5 HKG.out.2.2
           have HI := Lib.hid HI0
           have HQB := Lib.hid hqb
           have HCP := Lib.hid (con_cpu v b HVB.out h5 HKG.out.2.1 HCS.out HCI.out)
           have K4 := Lib.hid k4
           have K6 := Lib.hid k6
           have G5 := Lib.hid (G4.out.trans g5)
           clear h5 g5 k1 k4 k6 hqb HI0))
      refine wp_region_still_tail 17 (by kernel_rfl) (by kernel_rfl) ?_
      simp only [List.take_succ_cons, List.take_zero, List.drop_succ_cons, List.drop_zero]
      repeat still_step
      still_call HI.out
      repeat still_step
      refine wpStill_nil ?_
      change wpList _ _ _ _ _ w5.drew
      go_wp2_with (first
        | (go_at_call 14
           with_reducible refine HCP.out.mono ?_
           rintro e w6 ⟨rfl, τ6, h6, g6⟩
           have k4 := (g6.blk K4.out.2 K4.out.1)
           have k6 := (g6.blk K6.out.2 K6.out.1)
           have HTK := Lib.hid (con_tick h6 HKG.out.2.2)
           have n55b := (con_facts h6 HKG.out).2
           have L4 := Lib.hid k4
           have L6 := Lib.hid k6
           have G6 := Lib.hid (G5.out.trans g6)
           clear h6 g6 k4 k6)
        | (go_at_call 41
           with_reducible refine HTK.out.mono ?_
           rintro e w7 ⟨rfl, τ7, h7, g7⟩
           have k4 := (g7.blk L4.out.2 L4.out.1)
           have k6 := (g7.blk L6.out.2 L6.out.1)
           have HTS := Lib.hid (con_ticks' h7 HKG.out.1)
           have M4 := Lib.hid k4
           have M6 := Lib.hid k6
           have G7 := Lib.hid (G6.out.trans g7)
           clear h7 g7 k4 k6)
        | (go_at_call 42
           with_reducible refine HTS.out.mono ?_
           rintro e w8 ⟨rfl, τ8, h8, g8⟩
           have k4 := (g8.blk M4.out.2 M4.out.1)
           have k6 := (g8.blk M6.out.2 M6.out.1)
           have s0 : w8.cell? ⟨w.heap.size + 1, 0, none⟩ = some (.int .u16 0) := (k4.1.cell 0).trans rfl
           have s1 : w8.cell? ⟨w.heap.size + 1, 1, none⟩ = some (.int .u8 0) := (k4.1.cell 1).trans rfl
           have s2 : w8.cell? ⟨w.heap.size + 1, 2, none⟩ = some (.bool false) := (k4.1.cell 2).trans rfl
           have fs0 := k4.1.frozen 0
           have fs1 := k4.1.frozen 1
           have fs2 := k4.1.frozen 2
           have r0 : w8.cell? ⟨w2.heap.size, 0, none⟩ = some (.int .u16 wa) := (k6.1.cell 0).trans rfl
           have r1 : w8.cell? ⟨w2.heap.size, 1, none⟩ = some (.int .u8 wd) := (k6.1.cell 1).trans rfl
           have r2 : w8.cell? ⟨w2.heap.size, 2, none⟩ = some (.bool false) := (k6.1.cell 2).trans rfl
           have HFIN := Lib.hid (con_end (.int .u16 wa) (.int .u8 wd) (.bool false) h8 (G7.out.trans g8) k4.2 (Nat.le_succ _) k4.1.lt)
           clear h8 g8 k4 k6))
      refine bodyPost_ret (v := .tuple #[.agg #[.int .u16 wa, .int .u8 wd, .bool false], .int .u8 v]) ?_ rfl (StepRet.read v b HVB.out HVZ.out HQB.out HFIN.out)
      simp [results, Tryz.results11, go_sem, *]
end
end Go.Proofs.YtifajfjiloajfaaGreatDoor.OwnCon

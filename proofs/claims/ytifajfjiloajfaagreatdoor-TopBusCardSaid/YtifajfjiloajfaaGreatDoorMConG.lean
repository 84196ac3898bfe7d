/- A cycle of the chips. Conditions: the console's state. · The console's registers, whether it is idle, whether it is jammed. Conditions: the console's state. -/
import Derived.Test.YtifajfjiloajfaaGreatDoorMCon
import Derived.Deep.RegionHeld3
namespace Go.Proofs.YtifajfjiloajfaaGreatDoor.OwnCon
open Go.RowKit Go.Proofs.YtifajfjiloajfaaGreatDoor.Own Go.Proofs.YtifajfjiloajfaaGreatDoor.OwnChip Go.Proofs.YtifajfjiloajfaaGreatDoor.OwnCpu
section
variable {τ : Nat → Nat} {w w1 : World} {K : KC} {c : C} {pl : List (Nat × Nat)} {q : Bool}
theorem Own.lt (i : Nat) : ∀ j, Own τ w i j → j < w.heap.size := fun _ h => h.1
theorem CR.bit (h : CR τ w K c pl q w1) (b : Bool) : CR τ w K c pl q (w1.setCell ⟨K.g, 2062, none⟩ (.bool b)) := by
  obtain ⟨τ1, h1, g1⟩ := h
  exact CR.after g1 (cr_same h1 (own_set 2062 _) (h1.own.setBit 2062 (by decide) (by decide) b))
theorem con_flash (x : Nat) (h : Con τ w K c pl q) (hx : K.fl = some x) : Calls Tryz.prog 69 #[.pointer (some ⟨x, 0, none⟩)] w fun e w' => e = .returned (.tuple #[]) ∧ CR τ w K c pl q w' := by
  refine (fl_tick (Own τ w 5) (K.f * 256) x w (h.fl x hx) (by have := h.ok.f1; omega) (Own.lt 5)).mono ?_
  rintro e w' ⟨rfl, q1, q2⟩
  exact ⟨rfl, cr_fl h hx (FlR.of q1 q2)⟩
theorem eeDrew {S : Nat → Prop} {k : Int} {n g : Nat} {w w' : World} (h : EeQ S k n w.drew w' g) : EeQ S k n w w' g := ⟨h.1, drewK h.2⟩
theorem con_wired (x : Nat) (a b d : Bool) (h : Con τ w K c pl q) (hx : K.wi = some x) : Calls Tryz.prog 68 #[.pointer (some ⟨x, 0, none⟩), .bool a, .bool b, .bool d] w.drew fun e w' => (∃ b, e = .returned (.bool b)) ∧ CR τ w K c pl q w' ∧ (∀ i, w'.cell? ⟨K.g, i, none⟩ = w.cell? ⟨K.g, i, none⟩) ∧ (∀ i, w'.frozen? ⟨K.g, i, none⟩ = false) := by
  obtain ⟨n, kd, he⟩ := h.ee x hx
  refine (ee_step (Own τ w 4) K.e n x w.drew a b d kd (he.kept (T := fun _ => False) (Kept.refl _ _).drew (fun _ _ h => h)) (fun _ h => h.1) (fun h0 => by have := h0.2; have := h.t9; omega) (h.geo.kept (S := fun _ => False) (Kept.refl _ _).drew (fun h => h))).mono ?_
  rintro e w' ⟨q1, q2⟩
  exact ⟨q1, cr_ee h hx kd (eeDrew q2), fun i => cell_of ((eeDrew q2).2.block K.g (Sh.lt h.own) (Own.one (Sh.lt h.own) h.t0 (by decide))), Sh.frozen (Sh.kept (eeDrew q2).2 (Own.one (Sh.lt h.own) h.t0 (by decide)) h.own)⟩
set_option maxHeartbeats 3200000 in
set_option maxRecDepth 100000 in
theorem con_ticks (h : Con τ w K c pl q) :
    Calls Tryz.prog 42 #[.pointer (some ⟨K.g, 0, none⟩)] w fun e w' => e = .returned (.tuple #[]) ∧ CR τ w K c pl q w' := by
  obtain ⟨b0, cb0⟩ := h.own.bit 2060 (by decide) (by decide)
  obtain ⟨b1, cb1⟩ := h.own.bit 2062 (by decide) (by decide)
  have f1 := Sh.frozen h.own 2062
  obtain ⟨W, hW⟩ : ∃ W, W = w.setCell ⟨K.g, 2062, none⟩ (.bool b0) := ⟨_, rfl⟩
  have HW := Lib.hid hW
  have hcr : CR τ w K c pl q W := by
    rw [hW]
    exact cr_same h (own_set 2062 _) (h.own.setBit 2062 (by decide) (by decide) b0)
  clear hW
  obtain ⟨τ1, h1, g1⟩ := hcr
  have H1 := Lib.hid h1
  have G1 := Lib.hid g1
  have cw := h.own.wi
  have cf := h.own.fl
  have dw := h1.own.wi
  have df := h1.own.fl
  obtain ⟨d0, e0⟩ := h1.own.bit 2059 (by decide) (by decide)
  obtain ⟨d1, e1⟩ := h1.own.bit 2060 (by decide) (by decide)
  obtain ⟨d2, e2⟩ := h1.own.bit 2061 (by decide) (by decide)
  obtain ⟨d3, e3⟩ := h1.own.bit 2062 (by decide) (by decide)
  have HF := Lib.hid (fun (τ : Nat → Nat) (W : World) x (h : Con τ W K c pl q) hx => con_flash x h hx)
  have HX := Lib.hid (fun x a b d hx => con_wired x a b d h1 hx)
  rcases hwi : K.wi with _ | x <;> rcases hfl : K.fl with _ | y
  · rw [hwi] at cw
    rw [hfl] at cf
    have cw' : w.cell? ⟨K.g, 2063, none⟩ = some (.pointer none) := cw
    have cf' : w.cell? ⟨K.g, 2064, none⟩ = some (.pointer none) := cf
    clear h h1 g1 cw cf dw df hwi hfl e0 e1 e2 e3
    go_enter Tryz.func42, Tryz.ntmps42
    go_wp2
    go_end0
    rw [← HW.out]
    exact ⟨rfl, ⟨τ1, H1.out, G1.out⟩⟩
  · rw [hwi] at cw
    rw [hfl] at cf
    have cw' : w.cell? ⟨K.g, 2063, none⟩ = some (.pointer none) := cw
    have cf' : w.cell? ⟨K.g, 2064, none⟩ = some (ptr y) := cf
    have HFL := Lib.hid hfl
    clear h h1 g1 cw cf dw df hwi hfl e0 e1 e2 e3
    go_enter Tryz.func42, Tryz.ntmps42
    go_wp2_with (go_at_call 69; rw [← HW.out]; refine (HF.out τ1 W y H1.out HFL.out).mono ?_; rintro e w1 ⟨rfl, q1⟩; have Q := Lib.hid q1; clear q1)
    go_end0
    exact ⟨rfl, CR.after G1.out Q.out⟩
  · rw [hwi] at cw
    rw [hfl] at cf
    rw [hwi] at dw
    rw [hfl] at df
    have df' : W.cell? ⟨K.g, 2064, none⟩ = some (.pointer none) := df
    have cw' : w.cell? ⟨K.g, 2063, none⟩ = some (ptr x) := cw
    have dw' : W.cell? ⟨K.g, 2063, none⟩ = some (ptr x) := dw
    have HX2 := Lib.hid (HX.out x d0 d1 d2 hwi)
    have HK : Hid (∀ (w' : World) (b : Bool), (w'.cell? ⟨K.g, 2063, none⟩ = some (ptr x) ∧ w'.cell? ⟨K.g, 2059, none⟩ = some (.bool d0) ∧ w'.cell? ⟨K.g, 2060, none⟩ = some (.bool d1) ∧ w'.cell? ⟨K.g, 2061, none⟩ = some (.bool d2)) → ((w'.setCell ⟨K.g, 2062, none⟩ (.bool b)).cell? ⟨K.g, 2063, none⟩ = some (ptr x) ∧ (w'.setCell ⟨K.g, 2062, none⟩ (.bool b)).cell? ⟨K.g, 2059, none⟩ = some (.bool d0) ∧ (w'.setCell ⟨K.g, 2062, none⟩ (.bool b)).cell? ⟨K.g, 2060, none⟩ = some (.bool d1) ∧ (w'.setCell ⟨K.g, 2062, none⟩ (.bool b)).cell? ⟨K.g, 2061, none⟩ = some (.bool d2))) := Lib.hid (fun w' b hs => by
      have e : ∀ i, i ≠ 2062 → (w'.setCell ⟨K.g, 2062, none⟩ (.bool b)).cell? ⟨K.g, i, none⟩ = w'.cell? ⟨K.g, i, none⟩ := fun i hi => World.cell?_setCell_other _ _ _ _ (fun e => hi (by have := congrArg Addr.off e; simpa using this.symm))
      rw [e _ (by decide), e _ (by decide), e _ (by decide), e _ (by decide)]
      exact hs)
    have hs0 : W.drew.cell? ⟨K.g, 2063, none⟩ = some (ptr x) ∧ W.drew.cell? ⟨K.g, 2059, none⟩ = some (.bool d0) ∧ W.drew.cell? ⟨K.g, 2060, none⟩ = some (.bool d1) ∧ W.drew.cell? ⟨K.g, 2061, none⟩ = some (.bool d2) := ⟨dw', e0, e1, e2⟩
    clear h h1 g1 cw cf dw df hwi hfl
    go_enter Tryz.func42, Tryz.ntmps42
    go_wp2_with fail
    rw [← HW.out]
    go_region_held3 (fun w' => w'.cell? ⟨K.g, 2063, none⟩ = some (ptr x) ∧ w'.cell? ⟨K.g, 2059, none⟩ = some (.bool d0) ∧ w'.cell? ⟨K.g, 2060, none⟩ = some (.bool d1) ∧ w'.cell? ⟨K.g, 2061, none⟩ = some (.bool d2)) (first | (with_reducible exact hs3) | (with_reducible exact hs0) | (with_reducible exact HK.out _ _ hs3) | go_keep)
      (first
        | (go_at_call 68; with_reducible refine HX2.out.mono ?_; rintro e w2 ⟨⟨b2, rfl⟩, hcr, hcell, hfr⟩; have hs3 : w2.cell? ⟨K.g, 2063, none⟩ = some (ptr x) ∧ w2.cell? ⟨K.g, 2059, none⟩ = some (.bool d0) ∧ w2.cell? ⟨K.g, 2060, none⟩ = some (.bool d1) ∧ w2.cell? ⟨K.g, 2061, none⟩ = some (.bool d2) := ⟨(hcell _).trans dw', (hcell _).trans e0, (hcell _).trans e1, (hcell _).trans e2⟩; have fz := hfr 2062; have cz := (hcell 2062).trans e3; have cfl := (hcell 2064).trans df'; have HCR := Lib.hid (hcr.bit b2); clear hcr hcell hfr))
    all_goals
      go_wp2
      go_end0
      exact ⟨rfl, CR.after G1.out HCR.out⟩
  · rw [hwi] at cw
    rw [hfl] at cf
    rw [hwi] at dw
    rw [hfl] at df
    have df' : W.cell? ⟨K.g, 2064, none⟩ = some (ptr y) := df
    have cw' : w.cell? ⟨K.g, 2063, none⟩ = some (ptr x) := cw
    have dw' : W.cell? ⟨K.g, 2063, none⟩ = some (ptr x) := dw
    have HF2 : Hid (∀ w3, CR τ1 W K c pl q w3 → Calls Tryz.prog 69 #[.pointer (some ⟨y, 0, none⟩)] w3 fun e w' => e = .returned (.tuple #[]) ∧ CR τ1 W K c pl q w') := Lib.hid (fun w3 ⟨τ3, h3, g3⟩ => (HF.out τ3 w3 y h3 hfl).mono fun _ _ z => ⟨z.1, CR.after g3 z.2⟩)
    have HX2 := Lib.hid (HX.out x d0 d1 d2 hwi)
    have HK : Hid (∀ (w' : World) (b : Bool), (w'.cell? ⟨K.g, 2063, none⟩ = some (ptr x) ∧ w'.cell? ⟨K.g, 2059, none⟩ = some (.bool d0) ∧ w'.cell? ⟨K.g, 2060, none⟩ = some (.bool d1) ∧ w'.cell? ⟨K.g, 2061, none⟩ = some (.bool d2)) → ((w'.setCell ⟨K.g, 2062, none⟩ (.bool b)).cell? ⟨K.g, 2063, none⟩ = some (ptr x) ∧ (w'.setCell ⟨K.g, 2062, none⟩ (.bool b)).cell? ⟨K.g, 2059, none⟩ = some (.bool d0) ∧ (w'.setCell ⟨K.g, 2062, none⟩ (.bool b)).cell? ⟨K.g, 2060, none⟩ = some (.bool d1) ∧ (w'.setCell ⟨K.g, 2062, none⟩ (.bool b)).cell? ⟨K.g, 2061, none⟩ = some (.bool d2))) := Lib.hid (fun w' b hs => by
      have e : ∀ i, i ≠ 2062 → (w'.setCell ⟨K.g, 2062, none⟩ (.bool b)).cell? ⟨K.g, i, none⟩ = w'.cell? ⟨K.g, i, none⟩ := fun i hi => World.cell?_setCell_other _ _ _ _ (fun e => hi (by have := congrArg Addr.off e; simpa using this.symm))
      rw [e _ (by decide), e _ (by decide), e _ (by decide), e _ (by decide)]
      exact hs)
    have hs0 : W.drew.cell? ⟨K.g, 2063, none⟩ = some (ptr x) ∧ W.drew.cell? ⟨K.g, 2059, none⟩ = some (.bool d0) ∧ W.drew.cell? ⟨K.g, 2060, none⟩ = some (.bool d1) ∧ W.drew.cell? ⟨K.g, 2061, none⟩ = some (.bool d2) := ⟨dw', e0, e1, e2⟩
    clear h h1 g1 cw cf dw df hwi hfl
    go_enter Tryz.func42, Tryz.ntmps42
    go_wp2_with fail
    rw [← HW.out]
    go_region_held3 (fun w' => w'.cell? ⟨K.g, 2063, none⟩ = some (ptr x) ∧ w'.cell? ⟨K.g, 2059, none⟩ = some (.bool d0) ∧ w'.cell? ⟨K.g, 2060, none⟩ = some (.bool d1) ∧ w'.cell? ⟨K.g, 2061, none⟩ = some (.bool d2)) (first | (with_reducible exact hs3) | (with_reducible exact hs0) | (with_reducible exact HK.out _ _ hs3) | go_keep)
      (first
        | (go_at_call 68; with_reducible refine HX2.out.mono ?_; rintro e w2 ⟨⟨b2, rfl⟩, hcr, hcell, hfr⟩; have hs3 : w2.cell? ⟨K.g, 2063, none⟩ = some (ptr x) ∧ w2.cell? ⟨K.g, 2059, none⟩ = some (.bool d0) ∧ w2.cell? ⟨K.g, 2060, none⟩ = some (.bool d1) ∧ w2.cell? ⟨K.g, 2061, none⟩ = some (.bool d2) := ⟨(hcell _).trans dw', (hcell _).trans e0, (hcell _).trans e1, (hcell _).trans e2⟩; have fz := hfr 2062; have cz := (hcell 2062).trans e3; have cfl := (hcell 2064).trans df'; have HCR := Lib.hid (hcr.bit b2); clear hcr hcell hfr))
    all_goals
      go_wp2_with (go_at_call 69; refine (HF2.out _ ?_).mono ?_; (focus exact HCR.out); rintro e w4 ⟨rfl, q1⟩; have Q := Lib.hid q1; clear q1)
      go_end0
      exact ⟨rfl, CR.after G1.out Q.out⟩
end
end Go.Proofs.YtifajfjiloajfaaGreatDoor.OwnCon
namespace Go.Proofs.YtifajfjiloajfaaGreatDoor.OwnCon
open Go.RowKit Go.Proofs.YtifajfjiloajfaaGreatDoor.Own Go.Proofs.YtifajfjiloajfaaGreatDoor.OwnChip Go.Proofs.YtifajfjiloajfaaGreatDoor.OwnCpu
section
variable {S : Nat → Prop} {τ : Nat → Nat} {w : World} {K : KC} {g : Nat} {c : C} {pl : List (Nat × Nat)} {q : Bool}
theorem cin_regs (h : CpuIn S w g c pl) : Calls Tryz.prog 16 #[.pointer (some ⟨g, 0, none⟩)] w fun e w' => e = .returned c.r.val ∧ Below w.heap.size w w' := by
  obtain ⟨v, h1, h2, -⟩ := h
  exact regs_any g c v w h1
theorem cin_jammed (h : CpuIn S w g c pl) : Calls Tryz.prog 20 #[.pointer (some ⟨g, 0, none⟩)] w fun e w' => e = .returned (.bool c.jammed) ∧ w' = w := by
  obtain ⟨v, h1, h2, -⟩ := h
  exact (jammed_any g c v w h1).mono fun _ _ z => ⟨z.1, z.2.symm⟩
theorem cin_idle (h : CpuIn S w g c pl) : Calls Tryz.prog 18 #[.pointer (some ⟨g, 0, none⟩)] w fun e w' => e = .returned (.bool (idleB c pl)) ∧ w' = w := by
  obtain ⟨v, h1, h2, -⟩ := h
  exact (idle_any g c v pl w h1 h2).mono fun _ _ z => ⟨z.1, z.2.symm⟩
set_option maxHeartbeats 1600000 in
theorem con_jammed (h : Con τ w K c pl q) : Calls Tryz.prog 19 #[.pointer (some ⟨K.g, 0, none⟩)] w fun e w' => e = .returned (.bool c.jammed) ∧ w' = w := by
  have c6 := h.own.c6
  have HJ := Lib.hid (cin_jammed h.cpu)
  clear h
  go_enter Tryz.func19, Tryz.ntmps19
  go_wp2_with (go_at_call 20; refine HJ.out.mono ?_; rintro e w1 ⟨rfl, rfl⟩)
  go_ret
  exact ⟨rfl, rfl⟩
set_option maxHeartbeats 1600000 in
theorem con_idle (h : Con τ w K c pl q) : Calls Tryz.prog 17 #[.pointer (some ⟨K.g, 0, none⟩)] w fun e w' => e = .returned (.bool (idleB c pl)) ∧ w' = w := by
  have c6 := h.own.c6
  have HJ := Lib.hid (cin_idle h.cpu)
  clear h
  go_enter Tryz.func17, Tryz.ntmps17
  go_wp2_with (go_at_call 18; refine HJ.out.mono ?_; rintro e w1 ⟨rfl, rfl⟩)
  go_ret
  exact ⟨rfl, rfl⟩
set_option maxHeartbeats 1600000 in
theorem con_regs (h : Con τ w K c pl q) : Calls Tryz.prog 15 #[.pointer (some ⟨K.g, 0, none⟩)] w fun e w' => e = .returned c.r.val ∧ Below w.heap.size w w' := by
  have hlt := Sh.lt h.own
  obtain ⟨W, hW⟩ : ∃ W, W = w.alloc (.cells #[.int .u8 0, .int .u8 0, .int .u8 0, .int .u8 0, .int .u8 0, .int .u16 0] 57) := ⟨_, rfl⟩
  have hbel : Below w.heap.size w W := by
    rw [hW]
    exact (Below.refl _ w).alloc (Nat.le_refl _) _
  obtain ⟨τ1, h1, g1⟩ := cr_below h hbel
  have c6 := h.own.c6
  have HR : Hid (Calls Tryz.prog 16 #[.pointer (some ⟨K.cpu, 0, none⟩)] (w.alloc (.cells #[.int .u8 0, .int .u8 0, .int .u8 0, .int .u8 0, .int .u8 0, .int .u16 0] 57)) fun e w' => e = .returned (.agg #[.int .u8 c.r.a, .int .u8 c.r.x, .int .u8 c.r.y, .int .u8 c.r.s, .int .u8 c.r.p, .int .u16 c.r.pc]) ∧ Below w.heap.size w w' ∧ Blk w' w.heap.size 57 #[.int .u8 0, .int .u8 0, .int .u8 0, .int .u8 0, .int .u8 0, .int .u16 0]) := by
    refine Lib.hid ?_
    have z := cin_regs h1.cpu
    rw [hW] at z
    refine z.mono fun e w' ⟨q1, q2⟩ => ⟨q1, ?_, (Blk.new w 57 _).below q2 (by simp)⟩
    exact bel_trans ((Below.refl _ w).alloc (Nat.le_refl _) _) q2
  clear h h1 g1 hbel hW
  go_enter Tryz.func15, Tryz.ntmps15
  go_wp2_with (go_at_call 16; with_reducible refine HR.out.mono ?_; rintro e w1 ⟨rfl, q1, q2⟩; have Q1 := Lib.hid q1; have s0 := q2.cell 0; have s1 := q2.cell 1; have s2 := q2.cell 2; have s3 := q2.cell 3; have s4 := q2.cell 4; have s5 := q2.cell 5; have f0 := q2.frozen 0; have f1 := q2.frozen 1; have f2 := q2.frozen 2; have f3 := q2.frozen 3; have f4 := q2.frozen 4; have f5 := q2.frozen 5; simp at s0 s1 s2 s3 s4 s5; clear q1 q2)
  refine bodyPost_ret (v := .agg #[.int .u8 c.r.a, .int .u8 c.r.x, .int .u8 c.r.y, .int .u8 c.r.s, .int .u8 c.r.p, .int .u16 c.r.pc]) ?_ rfl ⟨rfl, ?_⟩
  · simp [results, Tryz.results15, go_sem, *]
  · exact Kept.none_below ((Kept.below Q1.out).trans ((by (iterate 6 refine kset (S := (· = w.heap.size)) ?_ rfl _ _); exact Kept.refl _ _ : Kept (· = w.heap.size) w1 _).mono (by rintro j - rfl; exact Or.inr (Nat.le_refl _))))
end
end Go.Proofs.YtifajfjiloajfaaGreatDoor.OwnCon

/- The console is switched on. Conditions: as many bytes as its chips have; kinds up to three, sectors and units up to two; the table of kinds is as the program lays it. -/
import Derived.Test.YtifajfjiloajfaaGreatDoorMConM
import Derived.Test.YtifajfjiloajfaaGreatDoorUnp
import Derived.Test.YtifajfjiloajfaaGreatDoorCloneZ
import Derived.Test.YtifajfjiloajfaaGreatDoorMFlashE
namespace Go.Proofs.YtifajfjiloajfaaGreatDoor.OwnCon
open Go.RowKit Go.Proofs.YtifajfjiloajfaaGreatDoor.Own Go.Proofs.YtifajfjiloajfaaGreatDoor.OwnChip Go.Proofs.YtifajfjiloajfaaGreatDoor.OwnCpu Go.Proofs.YtifajfjiloajfaaGreatDoor.OwnGeo
def Six (a : Nat) (v0 v1 v2 v3 v4 v5 : Value) (w : World) : Prop := w.cell? ⟨a, 0, none⟩ = some v0 ∧ w.cell? ⟨a, 1, none⟩ = some v1 ∧ w.cell? ⟨a, 2, none⟩ = some v2 ∧ w.cell? ⟨a, 3, none⟩ = some v3 ∧ w.cell? ⟨a, 4, none⟩ = some v4 ∧ w.cell? ⟨a, 5, none⟩ = some v5
theorem cells6 {w w' : World} {a : Nat} {v0 v1 v2 v3 v4 v5 : Value} (k : Below w.heap.size w w') (h : w.cell? ⟨a, 0, none⟩ = some v0 ∧ w.cell? ⟨a, 1, none⟩ = some v1 ∧ w.cell? ⟨a, 2, none⟩ = some v2 ∧ w.cell? ⟨a, 3, none⟩ = some v3 ∧ w.cell? ⟨a, 4, none⟩ = some v4 ∧ w.cell? ⟨a, 5, none⟩ = some v5) :
    w'.cell? ⟨a, 0, none⟩ = some v0 ∧ w'.cell? ⟨a, 1, none⟩ = some v1 ∧ w'.cell? ⟨a, 2, none⟩ = some v2 ∧ w'.cell? ⟨a, 3, none⟩ = some v3 ∧ w'.cell? ⟨a, 4, none⟩ = some v4 ∧ w'.cell? ⟨a, 5, none⟩ = some v5 := by
  have e : ∀ j v, w.cell? ⟨a, j, none⟩ = some v → w'.cell? ⟨a, j, none⟩ = some v := fun j v hv => (cell_of (k.block a (cell_lt hv))).trans hv
  obtain ⟨h0, h1, h2, h3, h4, h5⟩ := h
  exact ⟨e _ _ h0, e _ _ h1, e _ _ h2, e _ _ h3, e _ _ h4, e _ _ h5⟩
theorem ee_call (e : Int) (xe c1 : Nat) (A : Option Addr) (W : World) (kd : Kd e xe) (h : SrcO xe W A) (hg : GeoAt W) : Calls Tryz.prog 29 #[.int .i64 e, .slice A xe c1] W fun x w' => (∃ g, x = .returned (.tuple #[.pointer (some ⟨g, 0, none⟩), .int .i64 0]) ∧ Ee (fun j => W.heap.size ≤ j ∧ j < w'.heap.size) e xe w' g) ∧ Below W.heap.size W w' := by
  rcases h with h | ⟨d, off, rfl, hs⟩
  · rcases kd with ⟨-, h2⟩ | ⟨-, h2⟩ | ⟨-, h2⟩ <;> omega
  · exact ee_new e xe d off c1 W kd hs hg
theorem fl_call (f c : Nat) (A : Option Addr) (W : World) (h0 : 1 ≤ f) (h1 : f ≤ 2) (h : SrcO (f * 256) W A) : Calls Tryz.prog 30 #[.int .i64 f, .slice A (f * 256) c] W fun x w' => (∃ g, x = .returned (.tuple #[.pointer (some ⟨g, 0, none⟩), .int .i64 0]) ∧ Fl (fun j => W.heap.size ≤ j ∧ j < w'.heap.size) (f * 256) w' g) ∧ Below W.heap.size W w' := by
  rcases h with h | ⟨d, off, rfl, hs⟩
  · omega
  · exact fl_new f d off c W h0 h1 hs
theorem sr_call (f c : Nat) (A : Option Addr) (W : World) (h0 : 1 ≤ f) (h1 : f ≤ 2) (h : SrcO (f * 64) W A) : Calls Tryz.prog 31 #[.int .i64 f, .slice A (f * 64) c] W fun x w' => (∃ g, x = .returned (.tuple #[.pointer (some ⟨g, 0, none⟩), .int .i64 0]) ∧ Sr (fun j => W.heap.size ≤ j ∧ j < w'.heap.size) (f * 64) w' g) ∧ Below W.heap.size W w' := by
  rcases h with h | ⟨d, off, rfl, hs⟩
  · omega
  · exact sr_new f d off c W h0 h1 hs
/-- What switching on comes to. -/
def OnRet (e : Int) (f s nb : Nat) (zs : List Int) (w : World) (x : Ending) (w' : World) : Prop :=
  ∃ K τ, x = .returned (.tuple #[.pointer (some ⟨K.g, 0, none⟩), .int .i64 0]) ∧ Con τ w' K newC resetL true ∧ (K.e = e ∧ K.f = f ∧ K.s = s ∧ K.nb = nb ∧ K.zs = zs ∧ K.br = 0 ∧ K.bf = 0) ∧ Below w.heap.size w w' ∧ ∀ b, b < w.heap.size → τ b = 9
set_option maxHeartbeats 6400000 in
set_option maxRecDepth 100000 in
theorem con_on (e : Int) (f s nb rb cap0 bb cap1 xe ye ze : Nat) (zs : List Int) (w : World) (h : GeoAt w) (hg : Gm e (f : Int) (s : Int)) (hn0 : 1 ≤ nb) (hn1 : nb ≤ 2) (hx : eepN e = xe) (hy : f * 256 = ye) (hz : s * 64 = ze) (hmx : ∃ m, w.cell? ⟨1, 0, none⟩ = some (.int .i64 m)) (hzb : ∀ x ∈ zs, By x) (hT : xe + ye + ze < 65536) (hS : Src (xe + ye + ze) w bb 0) (hzl : zs.length = nb * 256) (hzs : Rm zs w rb) :
    Calls Tryz.prog 7 #[.agg #[.int .i64 8, .int .i64 nb, .int .i64 e, .int .i64 f, .int .i64 s, .slice (some ⟨rb, 0, none⟩) (nb * 256) cap0], .slice (some ⟨bb, 0, none⟩) (xe + ye + ze) cap1] w (OnRet e f s nb zs w) := by
  have HB := Lib.hid (fun w => bright_any nb e f s (some ⟨rb, 0, none⟩) (nb * 256) cap0 w (by omega) (by omega) hg)
  have HL := Lib.hid (fun w => long_any nb e f s (some ⟨rb, 0, none⟩) (nb * 256) cap0 w (by omega) (by omega) hg)
  have HG : Hid (∀ w3, Below (w.heap.size + 1) (w.alloc (.cells #[.int .i64 8, .int .i64 nb, .int .i64 e, .int .i64 f, .int .i64 s, .slice (some ⟨rb, 0, none⟩) (nb * 256) cap0] 30)) w3 → (w3.cell? ⟨w.heap.size, 0, none⟩ = some (.int .i64 8) ∧ w3.cell? ⟨w.heap.size, 1, none⟩ = some (.int .i64 nb) ∧ w3.cell? ⟨w.heap.size, 2, none⟩ = some (.int .i64 e) ∧ w3.cell? ⟨w.heap.size, 3, none⟩ = some (.int .i64 f) ∧ w3.cell? ⟨w.heap.size, 4, none⟩ = some (.int .i64 s) ∧ w3.cell? ⟨w.heap.size, 5, none⟩ = some (.slice (some ⟨rb, 0, none⟩) (nb * 256) cap0)) ∧ Below w.heap.size w w3 ∧ Blk w3 w.heap.size 30 #[.int .i64 8, .int .i64 nb, .int .i64 e, .int .i64 f, .int .i64 s, .slice (some ⟨rb, 0, none⟩) (nb * 256) cap0]) := Lib.hid (fun w3 hb => by
    have B := (Blk.new w 30 #[.int .i64 8, .int .i64 nb, .int .i64 e, .int .i64 f, .int .i64 s, .slice (some ⟨rb, 0, none⟩) (nb * 256) cap0]).below hb (by omega)
    have hb2 : Below w.heap.size w w3 := ((Below.refl _ w).alloc (Nat.le_refl _) _).trans (hb.mono (by omega))
    exact ⟨⟨(B.cell 0).trans rfl, (B.cell 1).trans rfl, (B.cell 2).trans rfl, (B.cell 3).trans rfl, (B.cell 4).trans rfl, (B.cell 5).trans rfl⟩, hb2, B⟩)
  have g0 := HG.out _ (Below.refl _ _).drew
  have hs0 := g0.1
  have e5 : ((nb * 256 : Nat) : Int) = (nb : Int) * 256 := by omega
  obtain ⟨T, hTT⟩ : ∃ T, T = xe + ye + ze := ⟨_, rfl⟩
  have e1 : ((T : Nat) : Int) = (xe : Int) + ye + ze := by omega
  have HT : Hid (∀ W, Below w.heap.size w W → Calls Tryz.prog 9 #[.agg #[.int .i64 e, .int .i64 f, .int .i64 s]] W fun x w' => x = .returned (.int .i64 ((xe : Int) + ye + ze)) ∧ Below W.heap.size W w') := Lib.hid (fun W hW => by
    have z := total_any e f s W (h.below hW) hg
    unfold totalN at z
    rw [hx, show (f : Int) * 256 = (ye : Int) by omega, show (s : Int) * 64 = (ze : Int) by omega] at z
    exact z)
  have HU : Hid (∀ W, Below w.heap.size w W → Calls Tryz.prog 25 #[.agg #[.int .i64 e, .int .i64 f, .int .i64 s], .slice (some ⟨bb, 0, none⟩) T cap1] W (UnpRet xe ye ze W)) := Lib.hid (fun W hW => by
    rw [hTT]
    exact unpack_any e f s xe ye ze bb cap1 W (h.below hW) hg hx (by omega) (by omega) hT (hS.below hW))
  have HZ : Hid (∀ W, Below w.heap.size w W → Calls Tryz.prog 26 #[.slice (some ⟨rb, 0, none⟩) (nb * 256) cap0] W fun e w' => (∃ g cap, e = .returned (.slice (some ⟨g, 0, none⟩) (nb * 256) cap) ∧ W.heap.size ≤ g ∧ Rm zs w' g) ∧ Below W.heap.size W w') := Lib.hid (fun W hW => clone_zs zs (nb * 256) rb 0 cap0 W hzl (fun j hj => by
    have z := (hW.cell (p := ⟨rb, j, none⟩) hzs.1).trans (hzs.2 j (by omega))
    simpa using z) (by omega))
  rw [← hTT]
  have HGEO := Lib.hid h
  have HMX := Lib.hid hmx
  have hw1 : 1 < w.heap.size := by
    obtain ⟨m, hm⟩ := hmx
    exact cell_lt hm
  have HOK := Lib.hid (fun (K : KC) (h1 : K.e = e) (h2 : K.f = f) (h3 : K.s = s) (h4 : K.nb = nb) (h5 : K.br = 0) (h6 : K.bf = 0) (h7 : K.zs = zs) (h8 : K.f ≠ 0 → ∃ x, K.fl = some x) (h9 : K.s ≠ 0 → ∃ x, K.sr = some x) => (⟨by rw [h1]; exact hg.e0, by rw [h1]; exact hg.e1, by rw [h2]; have := hg.f1; omega, by rw [h3]; have := hg.s1; omega, by rw [h4]; exact hn0, by rw [h4]; exact hn1, by rw [h5]; exact by_0, by rw [h6]; exact by_0, by rw [h7, h4]; exact hzl, by rw [h7]; exact hzb, h8, h9⟩ : K.Ok))
  have hkind : (e = 0 ∧ xe = 0) ∨ Kd e xe := by
    have h0 := hg.e0
    have h1 := hg.e1
    rcases (by omega : e = 0 ∨ e = 1 ∨ e = 2 ∨ e = 3) with rfl | rfl | rfl | rfl
    · exact Or.inl ⟨rfl, by have : eepN 0 = 0 := rfl; omega⟩
    · exact Or.inr (Or.inl ⟨rfl, by have : eepN 1 = 128 := rfl; omega⟩)
    · exact Or.inr (Or.inr (Or.inl ⟨rfl, by have : eepN 2 = 256 := rfl; omega⟩))
    · exact Or.inr (Or.inr (Or.inr ⟨rfl, by have : eepN 3 = 512 := rfl; omega⟩))
  have hfl : (f = 0 ∧ ye = 0) ∨ (1 ≤ f ∧ f ≤ 2 ∧ ye = f * 256) := by have := hg.f1; omega
  have hsl : (s = 0 ∧ ze = 0) ∨ (1 ≤ s ∧ s ≤ 2 ∧ ze = s * 64) := by have := hg.s1; omega
  have HKF := Lib.hid (And.intro hkind (And.intro hfl hsl))
  clear g0 h hg hx hy hz hT hS hzs hTT hmx hzb hkind hfl hsl hn0 hn1 hzl
  go_enter Tryz.func7, Tryz.ntmps7
  go_wp2_with fail
  go_region_held3 (fun w' => w'.cell? ⟨w.heap.size, 0, none⟩ = some (.int .i64 8) ∧ w'.cell? ⟨w.heap.size, 1, none⟩ = some (.int .i64 nb) ∧ w'.cell? ⟨w.heap.size, 2, none⟩ = some (.int .i64 e) ∧ w'.cell? ⟨w.heap.size, 3, none⟩ = some (.int .i64 f) ∧ w'.cell? ⟨w.heap.size, 4, none⟩ = some (.int .i64 s) ∧ w'.cell? ⟨w.heap.size, 5, none⟩ = some (.slice (some ⟨rb, 0, none⟩) (nb * 256) cap0)) (first | (with_reducible exact hs4) | (with_reducible exact hs3) | (with_reducible exact hs0) | go_keep)
    (first
      | (go_at_call 23; refine (HB.out _).mono ?_; rintro x w3 ⟨rfl, hb3⟩; have g3 := HG.out w3 ⟨hb3.os, hb3.tape, hb3.output, by have := hb3.size; simpa using this, fun k hk => hb3.block k (by simpa using hk)⟩; have hs3 := g3.1; have GB3 := Lib.hid g3.2; clear g3)
      | (go_at_call 24; refine (HL.out _).mono ?_; rintro x w4 ⟨rfl, hb4⟩; have hs4 := cells6 hb4 hs3; have GB4 := Lib.hid (And.intro (bel_trans GB3.out.1 hb4) (GB3.out.2.below hb4 GB3.out.2.lt)); clear hb4))
  clear hs0 hs3
  have hs5 := hs4
  obtain ⟨a0, a1, a2, a3, a4, a5⟩ := hs5
  clear hs4
  go_wp2_with (first
    | (go_at_call 9
       refine (HT.out _ GB4.out.1).mono ?_
       rintro x w5 ⟨rfl, hb⟩
       have k := GB4.out.2.below hb GB4.out.2.lt
       have b0 := k.cell 0
       have b1 := k.cell 1
       have b2 := k.cell 2
       have b3 := k.cell 3
       have b4 := k.cell 4
       have b5 := k.cell 5
       simp at b0 b1 b2 b3 b4 b5
       have GB5 := Lib.hid (And.intro (bel_trans GB4.out.1 hb) k)
       clear hb k)
    | (go_at_call 25
       refine (HU.out _ GB5.out.1).mono ?_
       rintro x w6 ⟨A1, A2, A3, c1, c2, c3, rfl, s1, s2, s3, hb⟩
       have k := GB5.out.2.below hb GB5.out.2.lt
       have d0 := k.cell 0
       have d1 := k.cell 1
       have d2 := k.cell 2
       have d3 := k.cell 3
       have d4 := k.cell 4
       have d5 := k.cell 5
       simp at d0 d1 d2 d3 d4 d5
       have GB6 := Lib.hid (And.intro (bel_trans GB5.out.1 hb) k)
       have SS6 := Lib.hid (And.intro s1 (And.intro s2 s3))
       clear hb k s1 s2 s3)
    | (go_at_call 26
       refine (HZ.out _ GB6.out.1).mono ?_
       rintro x w7 ⟨⟨gr, capr, rfl, hgr, hrm⟩, hb⟩
       have k := GB6.out.2.below hb GB6.out.2.lt
       have i0 := k.cell 0
       have i1 := k.cell 1
       have i2 := k.cell 2
       have i3 := k.cell 3
       have i4 := k.cell 4
       have i5 := k.cell 5
       have j5 := k.frozen 5
       simp at i0 i1 i2 i3 i4 i5
       have GB7 := Lib.hid (And.intro (bel_trans GB6.out.1 hb) k)
       have RM7 := Lib.hid hrm
       have HB67 := Lib.hid hb
       clear hb k hrm))
  obtain ⟨W8, hW8⟩ : ∃ W8, W8 = w7.setCell ⟨w.heap.size, 5, none⟩ (.slice (some ⟨gr, 0, none⟩) (nb * 256) capr) := ⟨_, rfl⟩
  have B8 : Blk W8 w.heap.size 30 #[.int .i64 8, .int .i64 nb, .int .i64 e, .int .i64 f, .int .i64 s, .slice (some ⟨gr, 0, none⟩) (nb * 256) capr] := by
    rw [hW8]
    exact GB7.out.2.set_ 5 _
  have k8 : Kept (· = w.heap.size) w7 W8 := by
    rw [hW8]
    exact Kept.set (S := (· = w.heap.size)) w.heap.size 5 _ rfl
  rw [← hW8]
  have hs8 : W8.cell? ⟨w.heap.size, 0, none⟩ = some (.int .i64 8) ∧ W8.cell? ⟨w.heap.size, 1, none⟩ = some (.int .i64 nb) ∧ W8.cell? ⟨w.heap.size, 2, none⟩ = some (.int .i64 e) ∧ W8.cell? ⟨w.heap.size, 3, none⟩ = some (.int .i64 f) ∧ W8.cell? ⟨w.heap.size, 4, none⟩ = some (.int .i64 s) ∧ W8.cell? ⟨w.heap.size, 5, none⟩ = some (.slice (some ⟨gr, 0, none⟩) (nb * 256) capr) := ⟨(B8.cell 0).trans rfl, (B8.cell 1).trans rfl, (B8.cell 2).trans rfl, (B8.cell 3).trans rfl, (B8.cell 4).trans rfl, (B8.cell 5).trans rfl⟩
  have LB8 := Lib.hid B8
  have LK8 := Lib.hid k8
  have hW8s := Lib.hid hW8
  clear B8 k8 hW8 a0 a1 a2 a3 a4 a5 b0 b1 b2 b3 b4 b5 d0 d1 d2 d3 d4 d5 i0 i1 i2 i3 i4 i5 j5
  have HN1 := Lib.hid (fun w => OwnCpu.new_any w)
  have HN2 := Lib.hid (fun w => tq_new w)
  have HN3 := Lib.hid (fun w => pad_new w)
  go_region_held3 (fun w' => w'.cell? ⟨w.heap.size, 0, none⟩ = some (.int .i64 8) ∧ w'.cell? ⟨w.heap.size, 1, none⟩ = some (.int .i64 nb) ∧ w'.cell? ⟨w.heap.size, 2, none⟩ = some (.int .i64 e) ∧ w'.cell? ⟨w.heap.size, 3, none⟩ = some (.int .i64 f) ∧ w'.cell? ⟨w.heap.size, 4, none⟩ = some (.int .i64 s) ∧ w'.cell? ⟨w.heap.size, 5, none⟩ = some (.slice (some ⟨gr, 0, none⟩) (nb * 256) capr)) (first | (with_reducible exact hs11) | (with_reducible exact hs10) | (with_reducible exact hs9) | (with_reducible exact hs8) | go_keep)
    (first
      | (go_at_call 10; refine (HN1.out _).mono ?_; rintro x w9 ⟨rfl, hb9, hc9⟩; have hs9 := cells6 hb9 hs8; have LB9 := Lib.hid hb9; have LC9 := Lib.hid hc9; clear hb9 hc9)
      | (go_at_call 27; refine (HN2.out _).mono ?_; rintro x w10 ⟨rfl, ht10, hb10⟩; have hs10 := cells6 hb10 hs9; have LB10 := Lib.hid hb10; have LT10 := Lib.hid ht10; clear hb10 ht10)
      | (go_at_call 28; refine (HN3.out _).mono ?_; rintro x w11 ⟨rfl, hp11, hb11⟩; have hs11 := cells6 hb11 hs10; have LB11 := Lib.hid hb11; have LP11 := Lib.hid hp11; clear hb11 hp11))
  have s8 : w.heap.size < W8.heap.size := LB8.out.lt
  have hgr2 : w.heap.size < gr := by
    have := GB6.out.2.lt
    omega
  have LW8 : Below w.heap.size w W8 := Kept.none_below ((Kept.below GB7.out.1).trans (LK8.out.mono (by rintro j - rfl; exact Or.inr (Nat.le_refl _))))
  have hmade := made_first { g := w11.heap.size, cpu := W8.heap.size, tm := w9.heap.size, pd := w10.heap.size, rb := gr, wi := none, fl := none, sr := none, e := e, f := f, s := s, nb := nb, rcap := capr, zs := zs, br := 0, bf := 0 } W8 w9 w10 w11 rfl rfl rfl rfl rfl rfl rfl rfl rfl (HGEO.out.below LW8) (by
    obtain ⟨m, hm⟩ := HMX.out
    exact ⟨m, (cell_of (LW8.block 1 hw1)).trans hm⟩) (RM7.out.kept LK8.out (by show ¬ gr = w.heap.size; omega)) (by show 1 < gr; omega) (bel_drew LB9.out) LC9.out LB10.out LT10.out LB11.out LP11.out
  have hmade2 : Made W8 _ (w11.alloc (.cells (((((((((((((((Tryz.zeroCells83.setIfInBounds 0 (.int .i64 8)).setIfInBounds 1 (.int .i64 nb)).setIfInBounds 2 (.int .i64 e)).setIfInBounds 3 (.int .i64 f)).setIfInBounds 4 (.int .i64 s)).setIfInBounds 5 (.slice (some ⟨gr, 0, none⟩) (nb * 256) capr)).setIfInBounds 6 (.pointer (some ⟨W8.heap.size, 0, none⟩))).setIfInBounds 2055 (.pointer (some ⟨w9.heap.size, 0, none⟩))).setIfInBounds 2056 (.pointer (some ⟨w10.heap.size, 0, none⟩))).setIfInBounds 2059 (.bool true)).setIfInBounds 2060 (.bool true)).setIfInBounds 2062 (.bool true)).setIfInBounds 2066 (.iface 74 (.agg #[]))).setIfInBounds 2067 (.iface 74 (.agg #[])))) 83)) { g := w11.heap.size, cpu := W8.heap.size, tm := w9.heap.size, pd := w10.heap.size, rb := gr, wi := none, fl := none, sr := none, e := e, f := f, s := s, nb := nb, rcap := capr, zs := zs, br := 0, bf := 0 } := hmade
  clear hmade
  obtain ⟨τ0, hτ0⟩ : ∃ τ0, τ0 = retag (retag (retag (retag (fun b => if b = gr then 7 else 9) W8.heap.size 1) w9.heap.size 2) w10.heap.size 3) w11.heap.size 0 := ⟨_, rfl⟩
  obtain ⟨W12, hW12⟩ : ∃ W12, W12 = w11.alloc (.cells (((((((((((((((Tryz.zeroCells83.setIfInBounds 0 (.int .i64 8)).setIfInBounds 1 (.int .i64 nb)).setIfInBounds 2 (.int .i64 e)).setIfInBounds 3 (.int .i64 f)).setIfInBounds 4 (.int .i64 s)).setIfInBounds 5 (.slice (some ⟨gr, 0, none⟩) (nb * 256) capr)).setIfInBounds 6 (.pointer (some ⟨W8.heap.size, 0, none⟩))).setIfInBounds 2055 (.pointer (some ⟨w9.heap.size, 0, none⟩))).setIfInBounds 2056 (.pointer (some ⟨w10.heap.size, 0, none⟩))).setIfInBounds 2059 (.bool true)).setIfInBounds 2060 (.bool true)).setIfInBounds 2062 (.bool true)).setIfInBounds 2066 (.iface 74 (.agg #[]))).setIfInBounds 2067 (.iface 74 (.agg #[])))) 83) := ⟨_, rfl⟩
  rw [← hW12] at hmade2 ⊢
  have hbox : ∀ W, Below W8.heap.size W8 W → Blk W w.heap.size 30 #[.int .i64 8, .int .i64 nb, .int .i64 e, .int .i64 f, .int .i64 s, .slice (some ⟨gr, 0, none⟩) (nb * 256) capr] := fun W k => LB8.out.below k LB8.out.lt
  have HBX := Lib.hid hbox
  have hsrc : ∀ n A, SrcO n w6 A → ∀ W, Below W8.heap.size W8 W → SrcO n W A := by
    intro n A h W k
    rcases h with h | ⟨d, off, rfl, zs', z1, z2, z3⟩
    · exact Or.inl h
    · refine Or.inr ⟨d, off, rfl, zs', z1, z2, fun j hj => ?_⟩
      have c6 := z3 j hj
      have c7 := (cell_of (HB67.out.block d (cell_lt c6))).trans c6
      have hne : d ≠ w.heap.size := by
        rintro rfl
        have q := GB7.out.2.cell (off + j)
        rw [c7] at q
        have hlt : off + j < 6 := by
          by_cases hl : off + j < 6
          · exact hl
          · rw [Array.getElem?_eq_none (by simp; omega)] at q
            simp at q
        rcases (by omega : off + j = 0 ∨ off + j = 1 ∨ off + j = 2 ∨ off + j = 3 ∨ off + j = 4 ∨ off + j = 5) with e | e | e | e | e | e <;> rw [e] at q <;> simp at q
      have c8 := (cell_of (LK8.out.block d (cell_lt c7) hne)).trans c7
      exact (cell_of (k.block d (cell_lt c8))).trans c8
  have HSRC := Lib.hid (And.intro (hsrc xe A1 SS6.out.1) (And.intro (hsrc ye A2 SS6.out.2.1) (hsrc ze A3 SS6.out.2.2)))
  have HM0 := Lib.hid hmade2
  have hgw : w.heap.size < w11.heap.size := Nat.lt_of_lt_of_le s8 hmade2.2.2.1
  have x12 := hbox W12 hmade2.2.1
  have n2 := x12.cell 2
  simp at n2
  have HLW8 := Lib.hid LW8
  have HFIN : Hid (∀ τ W (K : KC), Made W8 τ W K → K.rb = gr → K.Ok → (K.e = e ∧ K.f = f ∧ K.s = s ∧ K.nb = nb ∧ K.zs = zs ∧ K.br = 0 ∧ K.bf = 0) → OnRet e f s nb zs w (.returned (.tuple #[.pointer (some ⟨K.g, 0, none⟩), .int .i64 0])) W) := Lib.hid (fun τ W K hm hrb hok hk => ⟨K, τ, rfl, hm.1.con hok, hk, bel_trans HLW8.out (hm.2.1), fun b hb => by
    rw [hm.2.2.2 b (by omega), hrb]
    exact if_neg (by omega)⟩)
  clear hmade2 hW12 hτ0 hbox hsrc x12 LW8 hs8 hs9 hs10 hs11 hw1
  have hne1 : ¬ w.heap.size = w11.heap.size := by omega
  have hne2 : ¬ w11.heap.size = w.heap.size := by omega
  rcases HKF.out with ⟨hke, hkf, hks⟩
  rcases hke with ⟨rfl, rfl⟩ | hke <;> rcases hkf with ⟨rfl, rfl⟩ | ⟨hf1, hf2, rfl⟩ <;> rcases hks with ⟨rfl, rfl⟩ | ⟨hs1, hs2, rfl⟩
  · have HEA := Lib.hid (ee_none A1 0 c1 W12 HM0.out.1.geo)
    have HFA := Lib.hid (fun W => fl_none A2 0 c2 W)
    have HSA := Lib.hid (fun W => sr_none A3 0 c3 W)
    go_wp2_with (first
      | (go_at_call 29
         with_reducible refine HEA.out.mono ?_
         rintro x w13 ⟨rfl, hb⟩
         have M1 := Lib.hid (HM0.out.below hb 10)
         have xb := HBX.out w13 M1.out.2.1
         have n3 : w13.cell? ⟨w.heap.size, 3, none⟩ = some (.int .i64 0) := (xb.cell 3).trans rfl
         have n4 : w13.cell? ⟨w.heap.size, 4, none⟩ = some (.int .i64 0) := (xb.cell 4).trans rfl
         clear hb xb)
      | (go_at_call 30
         with_reducible refine (HFA.out _).mono ?_
         rintro x w14 ⟨rfl, rfl⟩
         have M2 := Lib.hid M1.out)
      | (go_at_call 31
         with_reducible refine (HSA.out _).mono ?_
         rintro x w15 ⟨rfl, rfl⟩
         have M3 := Lib.hid M2.out))
    go_ret2
    exact HFIN.out _ _ _ M3.out rfl (HOK.out _ rfl rfl rfl rfl rfl rfl rfl (fun h => absurd rfl h) (fun h => absurd rfl h)) ⟨rfl, rfl, rfl, rfl, rfl, rfl, rfl⟩
  · have HEA := Lib.hid (ee_none A1 0 c1 W12 HM0.out.1.geo)
    have HFA := Lib.hid (fun W => fl_none A2 0 c2 W)
    have HSB := Lib.hid (fun W (k : Below W8.heap.size W8 W) => sr_call s c3 A3 W hs1 hs2 (HSRC.out.2.2 W k))
    go_wp2_with (first
      | (go_at_call 29
         with_reducible refine HEA.out.mono ?_
         rintro x w13 ⟨rfl, hb⟩
         have M1 := Lib.hid (HM0.out.below hb 10)
         have xb := HBX.out w13 M1.out.2.1
         have n3 : w13.cell? ⟨w.heap.size, 3, none⟩ = some (.int .i64 0) := (xb.cell 3).trans rfl
         have n4 : w13.cell? ⟨w.heap.size, 4, none⟩ = some (.int .i64 (s : Int)) := (xb.cell 4).trans rfl
         clear hb xb)
      | (go_at_call 30
         with_reducible refine (HFA.out _).mono ?_
         rintro x w14 ⟨rfl, rfl⟩
         have M2 := Lib.hid M1.out)
      | (go_at_call 31
         refine (HSB.out _ M2.out.2.1).mono ?_
         rintro x w15 ⟨⟨gz, rfl, hss⟩, hb⟩
         have M3 := Lib.hid (M2.out.sr hb gz hss)
         have mb := M2.out.below hb 10
         have z1 : w15.cell? ⟨w11.heap.size, 2065, none⟩ = some (.pointer none) := mb.1.own.sr
         have z3 : w15.frozen? ⟨w11.heap.size, 2065, none⟩ = false := Sh.frozen mb.1.own 2065
         clear hb hss mb))
    go_ret2
    exact HFIN.out _ _ _ M3.out rfl (HOK.out _ rfl rfl rfl rfl rfl rfl rfl (fun h => absurd rfl h) (fun _ => ⟨_, rfl⟩)) ⟨rfl, rfl, rfl, rfl, rfl, rfl, rfl⟩
  · have HEA := Lib.hid (ee_none A1 0 c1 W12 HM0.out.1.geo)
    have HFB := Lib.hid (fun W (k : Below W8.heap.size W8 W) => fl_call f c2 A2 W hf1 hf2 (HSRC.out.2.1 W k))
    have HSA := Lib.hid (fun W => sr_none A3 0 c3 W)
    go_wp2_with (first
      | (go_at_call 29
         with_reducible refine HEA.out.mono ?_
         rintro x w13 ⟨rfl, hb⟩
         have M1 := Lib.hid (HM0.out.below hb 10)
         have xb := HBX.out w13 M1.out.2.1
         have n3 : w13.cell? ⟨w.heap.size, 3, none⟩ = some (.int .i64 (f : Int)) := (xb.cell 3).trans rfl
         have n4 : w13.cell? ⟨w.heap.size, 4, none⟩ = some (.int .i64 0) := (xb.cell 4).trans rfl
         clear hb xb)
      | (go_at_call 30
         refine (HFB.out _ M1.out.2.1).mono ?_
         rintro x w14 ⟨⟨gy, rfl, hff⟩, hb⟩
         have M2 := Lib.hid (M1.out.fl hb gy (.iface 80 (ptr gy)) hff)
         have mb := M1.out.below hb 10
         have v1 : w14.cell? ⟨w11.heap.size, 2064, none⟩ = some (.pointer none) := mb.1.own.fl
         obtain ⟨u67, v2', -⟩ := Sh.cell mb.1.own 2067 (by decide)
         have v2 : w14.cell? ⟨w11.heap.size, 2067, none⟩ = some u67 := v2'
         have v3 : w14.frozen? ⟨w11.heap.size, 2064, none⟩ = false := Sh.frozen mb.1.own 2064
         have v4 : w14.frozen? ⟨w11.heap.size, 2067, none⟩ = false := Sh.frozen mb.1.own 2067
         have xb := HBX.out w14 mb.2.1
         have m4 : w14.cell? ⟨w.heap.size, 4, none⟩ = some (.int .i64 0) := (xb.cell 4).trans rfl
         clear hb hff mb v2' xb))
    go_region
    all_goals
      go_wp2_with (first
        | (go_at_call 31
           with_reducible refine (HSA.out _).mono ?_
           rintro x w15 ⟨rfl, rfl⟩
           have M3 := Lib.hid M2.out))
      go_ret2
      exact HFIN.out _ _ _ M3.out rfl (HOK.out _ rfl rfl rfl rfl rfl rfl rfl (fun _ => ⟨_, rfl⟩) (fun h => absurd rfl h)) ⟨rfl, rfl, rfl, rfl, rfl, rfl, rfl⟩
  · have HEA := Lib.hid (ee_none A1 0 c1 W12 HM0.out.1.geo)
    have HFB := Lib.hid (fun W (k : Below W8.heap.size W8 W) => fl_call f c2 A2 W hf1 hf2 (HSRC.out.2.1 W k))
    have HSB := Lib.hid (fun W (k : Below W8.heap.size W8 W) => sr_call s c3 A3 W hs1 hs2 (HSRC.out.2.2 W k))
    go_wp2_with (first
      | (go_at_call 29
         with_reducible refine HEA.out.mono ?_
         rintro x w13 ⟨rfl, hb⟩
         have M1 := Lib.hid (HM0.out.below hb 10)
         have xb := HBX.out w13 M1.out.2.1
         have n3 : w13.cell? ⟨w.heap.size, 3, none⟩ = some (.int .i64 (f : Int)) := (xb.cell 3).trans rfl
         have n4 : w13.cell? ⟨w.heap.size, 4, none⟩ = some (.int .i64 (s : Int)) := (xb.cell 4).trans rfl
         clear hb xb)
      | (go_at_call 30
         refine (HFB.out _ M1.out.2.1).mono ?_
         rintro x w14 ⟨⟨gy, rfl, hff⟩, hb⟩
         have M2 := Lib.hid (M1.out.fl hb gy (.iface 80 (ptr gy)) hff)
         have mb := M1.out.below hb 10
         have v1 : w14.cell? ⟨w11.heap.size, 2064, none⟩ = some (.pointer none) := mb.1.own.fl
         obtain ⟨u67, v2', -⟩ := Sh.cell mb.1.own 2067 (by decide)
         have v2 : w14.cell? ⟨w11.heap.size, 2067, none⟩ = some u67 := v2'
         have v3 : w14.frozen? ⟨w11.heap.size, 2064, none⟩ = false := Sh.frozen mb.1.own 2064
         have v4 : w14.frozen? ⟨w11.heap.size, 2067, none⟩ = false := Sh.frozen mb.1.own 2067
         have xb := HBX.out w14 mb.2.1
         have m4 : w14.cell? ⟨w.heap.size, 4, none⟩ = some (.int .i64 (s : Int)) := (xb.cell 4).trans rfl
         clear hb hff mb v2' xb))
    go_region
    all_goals
      go_wp2_with (first
        | (go_at_call 31
           refine (HSB.out _ M2.out.2.1).mono ?_
           rintro x w15 ⟨⟨gz, rfl, hss⟩, hb⟩
           have M3 := Lib.hid (M2.out.sr hb gz hss)
           have mb := M2.out.below hb 10
           have z1 : w15.cell? ⟨w11.heap.size, 2065, none⟩ = some (.pointer none) := mb.1.own.sr
           have z3 : w15.frozen? ⟨w11.heap.size, 2065, none⟩ = false := Sh.frozen mb.1.own 2065
           clear hb hss mb))
      go_ret2
      exact HFIN.out _ _ _ M3.out rfl (HOK.out _ rfl rfl rfl rfl rfl rfl rfl (fun _ => ⟨_, rfl⟩) (fun _ => ⟨_, rfl⟩)) ⟨rfl, rfl, rfl, rfl, rfl, rfl, rfl⟩
  · have HEB := Lib.hid (fun W (k : Below W8.heap.size W8 W) (hgeo : GeoAt W) => ee_call e xe c1 A1 W hke (HSRC.out.1 W k) hgeo)
    have HKD := Lib.hid hke
    clear hke
    have HFA := Lib.hid (fun W => fl_none A2 0 c2 W)
    have HSA := Lib.hid (fun W => sr_none A3 0 c3 W)
    go_wp2_with (first
      | (go_at_call 29
         refine (HEB.out _ HM0.out.2.1 HM0.out.1.geo).mono ?_
         rintro x w13 ⟨⟨gx, rfl, hee⟩, hb⟩
         have M1 := Lib.hid (HM0.out.ee hb gx xe (.iface 79 (ptr gx)) HKD.out hee)
         have mb := HM0.out.below hb 10
         have y1 : w13.cell? ⟨w11.heap.size, 2063, none⟩ = some (.pointer none) := mb.1.own.wi
         obtain ⟨u66, y2', -⟩ := Sh.cell mb.1.own 2066 (by decide)
         have y2 : w13.cell? ⟨w11.heap.size, 2066, none⟩ = some u66 := y2'
         have y3 : w13.frozen? ⟨w11.heap.size, 2063, none⟩ = false := Sh.frozen mb.1.own 2063
         have y4 : w13.frozen? ⟨w11.heap.size, 2066, none⟩ = false := Sh.frozen mb.1.own 2066
         have xb := HBX.out w13 mb.2.1
         have n3 : w13.cell? ⟨w.heap.size, 3, none⟩ = some (.int .i64 0) := (xb.cell 3).trans rfl
         have n4 : w13.cell? ⟨w.heap.size, 4, none⟩ = some (.int .i64 0) := (xb.cell 4).trans rfl
         clear hb hee mb y2' xb))
    go_region
    all_goals
      go_wp2_with (first
        | (go_at_call 30
           with_reducible refine (HFA.out _).mono ?_
           rintro x w14 ⟨rfl, rfl⟩
           have M2 := Lib.hid M1.out)
        | (go_at_call 31
           with_reducible refine (HSA.out _).mono ?_
           rintro x w15 ⟨rfl, rfl⟩
           have M3 := Lib.hid M2.out))
      go_ret2
      exact HFIN.out _ _ _ M3.out rfl (HOK.out _ rfl rfl rfl rfl rfl rfl rfl (fun h => absurd rfl h) (fun h => absurd rfl h)) ⟨rfl, rfl, rfl, rfl, rfl, rfl, rfl⟩
  · have HEB := Lib.hid (fun W (k : Below W8.heap.size W8 W) (hgeo : GeoAt W) => ee_call e xe c1 A1 W hke (HSRC.out.1 W k) hgeo)
    have HKD := Lib.hid hke
    clear hke
    have HFA := Lib.hid (fun W => fl_none A2 0 c2 W)
    have HSB := Lib.hid (fun W (k : Below W8.heap.size W8 W) => sr_call s c3 A3 W hs1 hs2 (HSRC.out.2.2 W k))
    go_wp2_with (first
      | (go_at_call 29
         refine (HEB.out _ HM0.out.2.1 HM0.out.1.geo).mono ?_
         rintro x w13 ⟨⟨gx, rfl, hee⟩, hb⟩
         have M1 := Lib.hid (HM0.out.ee hb gx xe (.iface 79 (ptr gx)) HKD.out hee)
         have mb := HM0.out.below hb 10
         have y1 : w13.cell? ⟨w11.heap.size, 2063, none⟩ = some (.pointer none) := mb.1.own.wi
         obtain ⟨u66, y2', -⟩ := Sh.cell mb.1.own 2066 (by decide)
         have y2 : w13.cell? ⟨w11.heap.size, 2066, none⟩ = some u66 := y2'
         have y3 : w13.frozen? ⟨w11.heap.size, 2063, none⟩ = false := Sh.frozen mb.1.own 2063
         have y4 : w13.frozen? ⟨w11.heap.size, 2066, none⟩ = false := Sh.frozen mb.1.own 2066
         have xb := HBX.out w13 mb.2.1
         have n3 : w13.cell? ⟨w.heap.size, 3, none⟩ = some (.int .i64 0) := (xb.cell 3).trans rfl
         have n4 : w13.cell? ⟨w.heap.size, 4, none⟩ = some (.int .i64 (s : Int)) := (xb.cell 4).trans rfl
         clear hb hee mb y2' xb))
    go_region
    all_goals
      go_wp2_with (first
        | (go_at_call 30
           with_reducible refine (HFA.out _).mono ?_
           rintro x w14 ⟨rfl, rfl⟩
           have M2 := Lib.hid M1.out)
        | (go_at_call 31
           refine (HSB.out _ M2.out.2.1).mono ?_
           rintro x w15 ⟨⟨gz, rfl, hss⟩, hb⟩
           have M3 := Lib.hid (M2.out.sr hb gz hss)
           have mb := M2.out.below hb 10
           have z1 : w15.cell? ⟨w11.heap.size, 2065, none⟩ = some (.pointer none) := mb.1.own.sr
           have z3 : w15.frozen? ⟨w11.heap.size, 2065, none⟩ = false := Sh.frozen mb.1.own 2065
           clear hb hss mb))
      go_ret2
      exact HFIN.out _ _ _ M3.out rfl (HOK.out _ rfl rfl rfl rfl rfl rfl rfl (fun h => absurd rfl h) (fun _ => ⟨_, rfl⟩)) ⟨rfl, rfl, rfl, rfl, rfl, rfl, rfl⟩
  · have HEB := Lib.hid (fun W (k : Below W8.heap.size W8 W) (hgeo : GeoAt W) => ee_call e xe c1 A1 W hke (HSRC.out.1 W k) hgeo)
    have HKD := Lib.hid hke
    clear hke
    have HFB := Lib.hid (fun W (k : Below W8.heap.size W8 W) => fl_call f c2 A2 W hf1 hf2 (HSRC.out.2.1 W k))
    have HSA := Lib.hid (fun W => sr_none A3 0 c3 W)
    go_wp2_with (first
      | (go_at_call 29
         refine (HEB.out _ HM0.out.2.1 HM0.out.1.geo).mono ?_
         rintro x w13 ⟨⟨gx, rfl, hee⟩, hb⟩
         have M1 := Lib.hid (HM0.out.ee hb gx xe (.iface 79 (ptr gx)) HKD.out hee)
         have mb := HM0.out.below hb 10
         have y1 : w13.cell? ⟨w11.heap.size, 2063, none⟩ = some (.pointer none) := mb.1.own.wi
         obtain ⟨u66, y2', -⟩ := Sh.cell mb.1.own 2066 (by decide)
         have y2 : w13.cell? ⟨w11.heap.size, 2066, none⟩ = some u66 := y2'
         have y3 : w13.frozen? ⟨w11.heap.size, 2063, none⟩ = false := Sh.frozen mb.1.own 2063
         have y4 : w13.frozen? ⟨w11.heap.size, 2066, none⟩ = false := Sh.frozen mb.1.own 2066
         have xb := HBX.out w13 mb.2.1
         have n3 : w13.cell? ⟨w.heap.size, 3, none⟩ = some (.int .i64 (f : Int)) := (xb.cell 3).trans rfl
         have n4 : w13.cell? ⟨w.heap.size, 4, none⟩ = some (.int .i64 0) := (xb.cell 4).trans rfl
         clear hb hee mb y2' xb))
    go_region
    all_goals
      go_wp2_with (first
        | (go_at_call 30
           refine (HFB.out _ M1.out.2.1).mono ?_
           rintro x w14 ⟨⟨gy, rfl, hff⟩, hb⟩
           have M2 := Lib.hid (M1.out.fl hb gy (.iface 80 (ptr gy)) hff)
           have mb := M1.out.below hb 10
           have v1 : w14.cell? ⟨w11.heap.size, 2064, none⟩ = some (.pointer none) := mb.1.own.fl
           obtain ⟨u67, v2', -⟩ := Sh.cell mb.1.own 2067 (by decide)
           have v2 : w14.cell? ⟨w11.heap.size, 2067, none⟩ = some u67 := v2'
           have v3 : w14.frozen? ⟨w11.heap.size, 2064, none⟩ = false := Sh.frozen mb.1.own 2064
           have v4 : w14.frozen? ⟨w11.heap.size, 2067, none⟩ = false := Sh.frozen mb.1.own 2067
           have xb := HBX.out w14 mb.2.1
           have m4 : w14.cell? ⟨w.heap.size, 4, none⟩ = some (.int .i64 0) := (xb.cell 4).trans rfl
           clear hb hff mb v2' xb))
      go_region
      all_goals
        go_wp2_with (first
          | (go_at_call 31
             with_reducible refine (HSA.out _).mono ?_
             rintro x w15 ⟨rfl, rfl⟩
             have M3 := Lib.hid M2.out))
        go_ret2
        exact HFIN.out _ _ _ M3.out rfl (HOK.out _ rfl rfl rfl rfl rfl rfl rfl (fun _ => ⟨_, rfl⟩) (fun h => absurd rfl h)) ⟨rfl, rfl, rfl, rfl, rfl, rfl, rfl⟩
  · have HEB := Lib.hid (fun W (k : Below W8.heap.size W8 W) (hgeo : GeoAt W) => ee_call e xe c1 A1 W hke (HSRC.out.1 W k) hgeo)
    have HKD := Lib.hid hke
    clear hke
    have HFB := Lib.hid (fun W (k : Below W8.heap.size W8 W) => fl_call f c2 A2 W hf1 hf2 (HSRC.out.2.1 W k))
    have HSB := Lib.hid (fun W (k : Below W8.heap.size W8 W) => sr_call s c3 A3 W hs1 hs2 (HSRC.out.2.2 W k))
    go_wp2_with (first
      | (go_at_call 29
         refine (HEB.out _ HM0.out.2.1 HM0.out.1.geo).mono ?_
         rintro x w13 ⟨⟨gx, rfl, hee⟩, hb⟩
         have M1 := Lib.hid (HM0.out.ee hb gx xe (.iface 79 (ptr gx)) HKD.out hee)
         have mb := HM0.out.below hb 10
         have y1 : w13.cell? ⟨w11.heap.size, 2063, none⟩ = some (.pointer none) := mb.1.own.wi
         obtain ⟨u66, y2', -⟩ := Sh.cell mb.1.own 2066 (by decide)
         have y2 : w13.cell? ⟨w11.heap.size, 2066, none⟩ = some u66 := y2'
         have y3 : w13.frozen? ⟨w11.heap.size, 2063, none⟩ = false := Sh.frozen mb.1.own 2063
         have y4 : w13.frozen? ⟨w11.heap.size, 2066, none⟩ = false := Sh.frozen mb.1.own 2066
         have xb := HBX.out w13 mb.2.1
         have n3 : w13.cell? ⟨w.heap.size, 3, none⟩ = some (.int .i64 (f : Int)) := (xb.cell 3).trans rfl
         have n4 : w13.cell? ⟨w.heap.size, 4, none⟩ = some (.int .i64 (s : Int)) := (xb.cell 4).trans rfl
         clear hb hee mb y2' xb))
    go_region
    all_goals
      go_wp2_with (first
        | (go_at_call 30
           refine (HFB.out _ M1.out.2.1).mono ?_
           rintro x w14 ⟨⟨gy, rfl, hff⟩, hb⟩
           have M2 := Lib.hid (M1.out.fl hb gy (.iface 80 (ptr gy)) hff)
           have mb := M1.out.below hb 10
           have v1 : w14.cell? ⟨w11.heap.size, 2064, none⟩ = some (.pointer none) := mb.1.own.fl
           obtain ⟨u67, v2', -⟩ := Sh.cell mb.1.own 2067 (by decide)
           have v2 : w14.cell? ⟨w11.heap.size, 2067, none⟩ = some u67 := v2'
           have v3 : w14.frozen? ⟨w11.heap.size, 2064, none⟩ = false := Sh.frozen mb.1.own 2064
           have v4 : w14.frozen? ⟨w11.heap.size, 2067, none⟩ = false := Sh.frozen mb.1.own 2067
           have xb := HBX.out w14 mb.2.1
           have m4 : w14.cell? ⟨w.heap.size, 4, none⟩ = some (.int .i64 (s : Int)) := (xb.cell 4).trans rfl
           clear hb hff mb v2' xb))
      go_region
      all_goals
        go_wp2_with (first
          | (go_at_call 31
             refine (HSB.out _ M2.out.2.1).mono ?_
             rintro x w15 ⟨⟨gz, rfl, hss⟩, hb⟩
             have M3 := Lib.hid (M2.out.sr hb gz hss)
             have mb := M2.out.below hb 10
             have z1 : w15.cell? ⟨w11.heap.size, 2065, none⟩ = some (.pointer none) := mb.1.own.sr
             have z3 : w15.frozen? ⟨w11.heap.size, 2065, none⟩ = false := Sh.frozen mb.1.own 2065
             clear hb hss mb))
        go_ret2
        exact HFIN.out _ _ _ M3.out rfl (HOK.out _ rfl rfl rfl rfl rfl rfl rfl (fun _ => ⟨_, rfl⟩) (fun _ => ⟨_, rfl⟩)) ⟨rfl, rfl, rfl, rfl, rfl, rfl, rfl⟩
end Go.Proofs.YtifajfjiloajfaaGreatDoor.OwnCon

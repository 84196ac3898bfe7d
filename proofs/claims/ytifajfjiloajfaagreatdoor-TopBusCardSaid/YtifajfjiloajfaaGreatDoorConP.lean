/- The console is switched on with no chips and no bytes. -/
import Derived.Test.YtifajfjiloajfaaGreatDoorConN
namespace Go.Proofs.YtifajfjiloajfaaGreatDoor.OwnCon
open Go.RowKit Go.Proofs.YtifajfjiloajfaaGreatDoor.Own Go.Proofs.YtifajfjiloajfaaGreatDoor.OwnChip Go.Proofs.YtifajfjiloajfaaGreatDoor.OwnCpu Go.Proofs.YtifajfjiloajfaaGreatDoor.OwnGeo
set_option maxHeartbeats 6400000 in
set_option maxRecDepth 100000 in
theorem con_on_nil (rb cap0 : Nat) (zs : List Int) (w : World) (h : GeoAt w) (hmx : ∃ m, w.cell? ⟨1, 0, none⟩ = some (.int .i64 m)) (hzb : ∀ x ∈ zs, By x) (hzl : zs.length = 256) (hzs : Rm zs w rb) :
    Calls Tryz.prog 7 #[.agg #[.int .i64 8, .int .i64 1, .int .i64 0, .int .i64 0, .int .i64 0, .slice (some ⟨rb, 0, none⟩) 256 cap0], .slice none 0 0] w (OnRet 0 0 0 1 zs w) := by
  have hg : Gm 0 0 0 := ⟨by decide, by decide, by decide, by decide, by decide, by decide⟩
  have HB := Lib.hid (fun w => bright_any 1 0 0 0 (some ⟨rb, 0, none⟩) 256 cap0 w (by decide) (by decide) hg)
  have HL := Lib.hid (fun w => long_any 1 0 0 0 (some ⟨rb, 0, none⟩) 256 cap0 w (by decide) (by decide) hg)
  have HG : Hid (∀ w3, Below (w.heap.size + 1) (w.alloc (.cells #[.int .i64 8, .int .i64 1, .int .i64 0, .int .i64 0, .int .i64 0, .slice (some ⟨rb, 0, none⟩) 256 cap0] 30)) w3 → (w3.cell? ⟨w.heap.size, 0, none⟩ = some (.int .i64 8) ∧ w3.cell? ⟨w.heap.size, 1, none⟩ = some (.int .i64 1) ∧ w3.cell? ⟨w.heap.size, 2, none⟩ = some (.int .i64 0) ∧ w3.cell? ⟨w.heap.size, 3, none⟩ = some (.int .i64 0) ∧ w3.cell? ⟨w.heap.size, 4, none⟩ = some (.int .i64 0) ∧ w3.cell? ⟨w.heap.size, 5, none⟩ = some (.slice (some ⟨rb, 0, none⟩) 256 cap0)) ∧ Below w.heap.size w w3 ∧ Blk w3 w.heap.size 30 #[.int .i64 8, .int .i64 1, .int .i64 0, .int .i64 0, .int .i64 0, .slice (some ⟨rb, 0, none⟩) 256 cap0]) := Lib.hid (fun w3 hb => by
    have B := (Blk.new w 30 #[.int .i64 8, .int .i64 1, .int .i64 0, .int .i64 0, .int .i64 0, .slice (some ⟨rb, 0, none⟩) 256 cap0]).below hb (by omega)
    have hb2 : Below w.heap.size w w3 := ((Below.refl _ w).alloc (Nat.le_refl _) _).trans (hb.mono (by omega))
    exact ⟨⟨(B.cell 0).trans rfl, (B.cell 1).trans rfl, (B.cell 2).trans rfl, (B.cell 3).trans rfl, (B.cell 4).trans rfl, (B.cell 5).trans rfl⟩, hb2, B⟩)
  have g0 := HG.out _ (Below.refl _ _).drew
  have hs0 := g0.1
  have HT : Hid (∀ W, Below w.heap.size w W → Calls Tryz.prog 9 #[.agg #[.int .i64 0, .int .i64 0, .int .i64 0]] W fun x w' => x = .returned (.int .i64 0) ∧ Below W.heap.size W w') := Lib.hid (fun W hW => total_any 0 0 0 W (h.below hW) hg)
  have HU : Hid (∀ W, Below w.heap.size w W → Calls Tryz.prog 25 #[.agg #[.int .i64 0, .int .i64 0, .int .i64 0], .slice none 0 0] W (UnpRet 0 0 0 W)) := Lib.hid (fun W hW => unpack_nil W (h.below hW))
  have HZ : Hid (∀ W, Below w.heap.size w W → Calls Tryz.prog 26 #[.slice (some ⟨rb, 0, none⟩) 256 cap0] W fun e w' => (∃ g cap, e = .returned (.slice (some ⟨g, 0, none⟩) 256 cap) ∧ W.heap.size ≤ g ∧ Rm zs w' g) ∧ Below W.heap.size W w') := Lib.hid (fun W hW => clone_zs zs 256 rb 0 cap0 W hzl (fun j hj => by
    have z := (hW.cell (p := ⟨rb, j, none⟩) hzs.1).trans (hzs.2 j (by omega))
    simpa using z) (by omega))
  have HGEO := Lib.hid h
  have HMX := Lib.hid hmx
  have hw1 : 1 < w.heap.size := by
    obtain ⟨m, hm⟩ := hmx
    exact cell_lt hm
  have HOK := Lib.hid (fun (K : KC) (h1 : K.e = 0) (h2 : K.f = 0) (h3 : K.s = 0) (h4 : K.nb = 1) (h5 : K.br = 0) (h6 : K.bf = 0) (h7 : K.zs = zs) => (⟨by rw [h1]; decide, by rw [h1]; decide, by rw [h2]; decide, by rw [h3]; decide, by rw [h4]; decide, by rw [h4]; decide, by rw [h5]; exact by_0, by rw [h6]; exact by_0, by rw [h7, h4]; exact hzl, by rw [h7]; exact hzb, fun h => absurd h2 h, fun h => absurd h3 h⟩ : K.Ok))
  clear g0 h hg hzs hmx hzb hzl
  go_enter Tryz.func7, Tryz.ntmps7
  go_wp2_with fail
  go_region_held3 (fun w' => w'.cell? ⟨w.heap.size, 0, none⟩ = some (.int .i64 8) ∧ w'.cell? ⟨w.heap.size, 1, none⟩ = some (.int .i64 1) ∧ w'.cell? ⟨w.heap.size, 2, none⟩ = some (.int .i64 0) ∧ w'.cell? ⟨w.heap.size, 3, none⟩ = some (.int .i64 0) ∧ w'.cell? ⟨w.heap.size, 4, none⟩ = some (.int .i64 0) ∧ w'.cell? ⟨w.heap.size, 5, none⟩ = some (.slice (some ⟨rb, 0, none⟩) 256 cap0)) (first | (with_reducible exact hs4) | (with_reducible exact hs3) | (with_reducible exact hs0) | go_keep)
    (first
      | (go_at_call 23; refine (HB.out _).mono ?_; rintro x w3 ⟨rfl, hb3⟩; have g3 := HG.out w3 ⟨hb3.os, hb3.tape, hb3.output, by have := hb3.size; simpa using this, fun k hk => hb3.block k (by simpa using hk)⟩; have hs3 := g3.1; have GB3 := Lib.hid g3.2; clear g3)
      | (go_at_call 24; refine (HL.out _).mono ?_; rintro x w4 ⟨rfl, hb4⟩; have hs4 := cells6 hb4 hs3; have GB4 := Lib.hid (And.intro (bel_trans GB3.out.1 hb4) (GB3.out.2.below hb4 GB3.out.2.lt)); clear hb4))
  clear hs0 hs3
  have hs5 := hs4
  obtain ⟨a0, a1, a2, a3, a4, a5⟩ := hs5
  clear hs4
  go_wp2_with (first
    | (go_at_call 9
       refine (HT.out _ GB4.out.1).mono ?_
       rintro x w5 ⟨rfl, hb⟩
       have k := GB4.out.2.below hb GB4.out.2.lt
       have b0 := k.cell 0
       have b1 := k.cell 1
       have b2 := k.cell 2
       have b3 := k.cell 3
       have b4 := k.cell 4
       have b5 := k.cell 5
       simp at b0 b1 b2 b3 b4 b5
       have GB5 := Lib.hid (And.intro (bel_trans GB4.out.1 hb) k)
       clear hb k)
    | (go_at_call 25
       refine (HU.out _ GB5.out.1).mono ?_
       rintro x w6 ⟨A1, A2, A3, c1, c2, c3, rfl, s1, s2, s3, hb⟩
       have k := GB5.out.2.below hb GB5.out.2.lt
       have d0 := k.cell 0
       have d1 := k.cell 1
       have d2 := k.cell 2
       have d3 := k.cell 3
       have d4 := k.cell 4
       have d5 := k.cell 5
       simp at d0 d1 d2 d3 d4 d5
       have GB6 := Lib.hid (And.intro (bel_trans GB5.out.1 hb) k)
       have SS6 := Lib.hid (And.intro s1 (And.intro s2 s3))
       clear hb k s1 s2 s3)
    | (go_at_call 26
       refine (HZ.out _ GB6.out.1).mono ?_
       rintro x w7 ⟨⟨gr, capr, rfl, hgr, hrm⟩, hb⟩
       have k := GB6.out.2.below hb GB6.out.2.lt
       have i0 := k.cell 0
       have i1 := k.cell 1
       have i2 := k.cell 2
       have i3 := k.cell 3
       have i4 := k.cell 4
       have i5 := k.cell 5
       have j5 := k.frozen 5
       simp at i0 i1 i2 i3 i4 i5
       have GB7 := Lib.hid (And.intro (bel_trans GB6.out.1 hb) k)
       have RM7 := Lib.hid hrm
       have HB67 := Lib.hid hb
       clear hb k hrm))
  obtain ⟨W8, hW8⟩ : ∃ W8, W8 = w7.setCell ⟨w.heap.size, 5, none⟩ (.slice (some ⟨gr, 0, none⟩) 256 capr) := ⟨_, rfl⟩
  have B8 : Blk W8 w.heap.size 30 #[.int .i64 8, .int .i64 1, .int .i64 0, .int .i64 0, .int .i64 0, .slice (some ⟨gr, 0, none⟩) 256 capr] := by
    rw [hW8]
    exact GB7.out.2.set_ 5 _
  have k8 : Kept (· = w.heap.size) w7 W8 := by
    rw [hW8]
    exact Kept.set (S := (· = w.heap.size)) w.heap.size 5 _ rfl
  rw [← hW8]
  have hs8 : W8.cell? ⟨w.heap.size, 0, none⟩ = some (.int .i64 8) ∧ W8.cell? ⟨w.heap.size, 1, none⟩ = some (.int .i64 1) ∧ W8.cell? ⟨w.heap.size, 2, none⟩ = some (.int .i64 0) ∧ W8.cell? ⟨w.heap.size, 3, none⟩ = some (.int .i64 0) ∧ W8.cell? ⟨w.heap.size, 4, none⟩ = some (.int .i64 0) ∧ W8.cell? ⟨w.heap.size, 5, none⟩ = some (.slice (some ⟨gr, 0, none⟩) 256 capr) := ⟨(B8.cell 0).trans rfl, (B8.cell 1).trans rfl, (B8.cell 2).trans rfl, (B8.cell 3).trans rfl, (B8.cell 4).trans rfl, (B8.cell 5).trans rfl⟩
  have LB8 := Lib.hid B8
  have LK8 := Lib.hid k8
  have hW8s := Lib.hid hW8
  clear B8 k8 hW8 a0 a1 a2 a3 a4 a5 b0 b1 b2 b3 b4 b5 d0 d1 d2 d3 d4 d5 i0 i1 i2 i3 i4 i5 j5
  have HN1 := Lib.hid (fun w => OwnCpu.new_any w)
  have HN2 := Lib.hid (fun w => tq_new w)
  have HN3 := Lib.hid (fun w => pad_new w)
  go_region_held3 (fun w' => w'.cell? ⟨w.heap.size, 0, none⟩ = some (.int .i64 8) ∧ w'.cell? ⟨w.heap.size, 1, none⟩ = some (.int .i64 1) ∧ w'.cell? ⟨w.heap.size, 2, none⟩ = some (.int .i64 0) ∧ w'.cell? ⟨w.heap.size, 3, none⟩ = some (.int .i64 0) ∧ w'.cell? ⟨w.heap.size, 4, none⟩ = some (.int .i64 0) ∧ w'.cell? ⟨w.heap.size, 5, none⟩ = some (.slice (some ⟨gr, 0, none⟩) 256 capr)) (first | (with_reducible exact hs11) | (with_reducible exact hs10) | (with_reducible exact hs9) | (with_reducible exact hs8) | go_keep)
    (first
      | (go_at_call 10; refine (HN1.out _).mono ?_; rintro x w9 ⟨rfl, hb9, hc9⟩; have hs9 := cells6 hb9 hs8; have LB9 := Lib.hid hb9; have LC9 := Lib.hid hc9; clear hb9 hc9)
      | (go_at_call 27; refine (HN2.out _).mono ?_; rintro x w10 ⟨rfl, ht10, hb10⟩; have hs10 := cells6 hb10 hs9; have LB10 := Lib.hid hb10; have LT10 := Lib.hid ht10; clear hb10 ht10)
      | (go_at_call 28; refine (HN3.out _).mono ?_; rintro x w11 ⟨rfl, hp11, hb11⟩; have hs11 := cells6 hb11 hs10; have LB11 := Lib.hid hb11; have LP11 := Lib.hid hp11; clear hb11 hp11))
  have s8 : w.heap.size < W8.heap.size := LB8.out.lt
  have hgr2 : w.heap.size < gr := by
    have := GB6.out.2.lt
    omega
  have LW8 : Below w.heap.size w W8 := Kept.none_below ((Kept.below GB7.out.1).trans (LK8.out.mono (by rintro j - rfl; exact Or.inr (Nat.le_refl _))))
  have hmade := made_first { g := w11.heap.size, cpu := W8.heap.size, tm := w9.heap.size, pd := w10.heap.size, rb := gr, wi := none, fl := none, sr := none, e := 0, f := 0, s := 0, nb := 1, rcap := capr, zs := zs, br := 0, bf := 0 } W8 w9 w10 w11 rfl rfl rfl rfl rfl rfl rfl rfl rfl (HGEO.out.below LW8) (by
    obtain ⟨m, hm⟩ := HMX.out
    exact ⟨m, (cell_of (LW8.block 1 hw1)).trans hm⟩) (RM7.out.kept LK8.out (by show ¬ gr = w.heap.size; omega)) (by show 1 < gr; omega) (bel_drew LB9.out) LC9.out LB10.out LT10.out LB11.out LP11.out
  have hmade2 : Made W8 _ (w11.alloc (.cells (((((((((((((((Tryz.zeroCells83.setIfInBounds 0 (.int .i64 8)).setIfInBounds 1 (.int .i64 1)).setIfInBounds 2 (.int .i64 0)).setIfInBounds 3 (.int .i64 0)).setIfInBounds 4 (.int .i64 0)).setIfInBounds 5 (.slice (some ⟨gr, 0, none⟩) 256 capr)).setIfInBounds 6 (.pointer (some ⟨W8.heap.size, 0, none⟩))).setIfInBounds 2055 (.pointer (some ⟨w9.heap.size, 0, none⟩))).setIfInBounds 2056 (.pointer (some ⟨w10.heap.size, 0, none⟩))).setIfInBounds 2059 (.bool true)).setIfInBounds 2060 (.bool true)).setIfInBounds 2062 (.bool true)).setIfInBounds 2066 (.iface 74 (.agg #[]))).setIfInBounds 2067 (.iface 74 (.agg #[])))) 83)) { g := w11.heap.size, cpu := W8.heap.size, tm := w9.heap.size, pd := w10.heap.size, rb := gr, wi := none, fl := none, sr := none, e := 0, f := 0, s := 0, nb := 1, rcap := capr, zs := zs, br := 0, bf := 0 } := hmade
  clear hmade
  obtain ⟨τ0, hτ0⟩ : ∃ τ0, τ0 = retag (retag (retag (retag (fun b => if b = gr then 7 else 9) W8.heap.size 1) w9.heap.size 2) w10.heap.size 3) w11.heap.size 0 := ⟨_, rfl⟩
  obtain ⟨W12, hW12⟩ : ∃ W12, W12 = w11.alloc (.cells (((((((((((((((Tryz.zeroCells83.setIfInBounds 0 (.int .i64 8)).setIfInBounds 1 (.int .i64 1)).setIfInBounds 2 (.int .i64 0)).setIfInBounds 3 (.int .i64 0)).setIfInBounds 4 (.int .i64 0)).setIfInBounds 5 (.slice (some ⟨gr, 0, none⟩) 256 capr)).setIfInBounds 6 (.pointer (some ⟨W8.heap.size, 0, none⟩))).setIfInBounds 2055 (.pointer (some ⟨w9.heap.size, 0, none⟩))).setIfInBounds 2056 (.pointer (some ⟨w10.heap.size, 0, none⟩))).setIfInBounds 2059 (.bool true)).setIfInBounds 2060 (.bool true)).setIfInBounds 2062 (.bool true)).setIfInBounds 2066 (.iface 74 (.agg #[]))).setIfInBounds 2067 (.iface 74 (.agg #[])))) 83) := ⟨_, rfl⟩
  rw [← hW12] at hmade2 ⊢
  have hbox : ∀ W, Below W8.heap.size W8 W → Blk W w.heap.size 30 #[.int .i64 8, .int .i64 1, .int .i64 0, .int .i64 0, .int .i64 0, .slice (some ⟨gr, 0, none⟩) 256 capr] := fun W k => LB8.out.below k LB8.out.lt
  have HBX := Lib.hid hbox
  have hsrc : ∀ n A, SrcO n w6 A → ∀ W, Below W8.heap.size W8 W → SrcO n W A := by
    intro n A h W k
    rcases h with h | ⟨d, off, rfl, zs', z1, z2, z3⟩
    · exact Or.inl h
    · refine Or.inr ⟨d, off, rfl, zs', z1, z2, fun j hj => ?_⟩
      have c6 := z3 j hj
      have c7 := (cell_of (HB67.out.block d (cell_lt c6))).trans c6
      have hne : d ≠ w.heap.size := by
        rintro rfl
        have q := GB7.out.2.cell (off + j)
        rw [c7] at q
        have hlt : off + j < 6 := by
          by_cases hl : off + j < 6
          · exact hl
          · rw [Array.getElem?_eq_none (by simp; omega)] at q
            simp at q
        rcases (by omega : off + j = 0 ∨ off + j = 1 ∨ off + j = 2 ∨ off + j = 3 ∨ off + j = 4 ∨ off + j = 5) with e | e | e | e | e | e <;> rw [e] at q <;> simp at q
      have c8 := (cell_of (LK8.out.block d (cell_lt c7) hne)).trans c7
      exact (cell_of (k.block d (cell_lt c8))).trans c8
  have HSRC := Lib.hid (And.intro (hsrc 0 A1 SS6.out.1) (And.intro (hsrc 0 A2 SS6.out.2.1) (hsrc 0 A3 SS6.out.2.2)))
  have HM0 := Lib.hid hmade2
  have hgw : w.heap.size < w11.heap.size := Nat.lt_of_lt_of_le s8 hmade2.2.2.1
  have x12 := hbox W12 hmade2.2.1
  have n2 := x12.cell 2
  simp at n2
  have HLW8 := Lib.hid LW8
  have HFIN : Hid (∀ τ W (K : KC), Made W8 τ W K → K.rb = gr → K.Ok → (K.e = 0 ∧ K.f = 0 ∧ K.s = 0 ∧ K.nb = 1 ∧ K.zs = zs ∧ K.br = 0 ∧ K.bf = 0) → OnRet 0 0 0 1 zs w (.returned (.tuple #[.pointer (some ⟨K.g, 0, none⟩), .int .i64 0])) W) := Lib.hid (fun τ W K hm hrb hok hk => ⟨K, τ, rfl, hm.1.con hok, hk, bel_trans HLW8.out (hm.2.1), fun b hb => by
    rw [hm.2.2.2 b (by omega), hrb]
    exact if_neg (by omega)⟩)
  clear hmade2 hW12 hτ0 hbox hsrc x12 LW8 hs8 hs9 hs10 hs11 hw1
  have hne1 : ¬ w.heap.size = w11.heap.size := by omega
  have hne2 : ¬ w11.heap.size = w.heap.size := by omega
  have HEA := Lib.hid (ee_none A1 0 c1 W12 HM0.out.1.geo)
  have HFA := Lib.hid (fun W => fl_none A2 0 c2 W)
  have HSA := Lib.hid (fun W => sr_none A3 0 c3 W)
  go_wp2_with (first
    | (go_at_call 29
       with_reducible refine HEA.out.mono ?_
       rintro x w13 ⟨rfl, hb⟩
       have M1 := Lib.hid (HM0.out.below hb 10)
       have xb := HBX.out w13 M1.out.2.1
       have n3 : w13.cell? ⟨w.heap.size, 3, none⟩ = some (.int .i64 0) := (xb.cell 3).trans rfl
       have n4 : w13.cell? ⟨w.heap.size, 4, none⟩ = some (.int .i64 0) := (xb.cell 4).trans rfl
       clear hb xb)
    | (go_at_call 30
       with_reducible refine (HFA.out _).mono ?_
       rintro x w14 ⟨rfl, rfl⟩
       have M2 := Lib.hid M1.out)
    | (go_at_call 31
       with_reducible refine (HSA.out _).mono ?_
       rintro x w15 ⟨rfl, rfl⟩
       have M3 := Lib.hid M2.out))
  go_ret2
  exact HFIN.out _ _ _ M3.out rfl (HOK.out _ rfl rfl rfl rfl rfl rfl rfl ) ⟨rfl, rfl, rfl, rfl, rfl, rfl, rfl⟩
end Go.Proofs.YtifajfjiloajfaaGreatDoor.OwnCon

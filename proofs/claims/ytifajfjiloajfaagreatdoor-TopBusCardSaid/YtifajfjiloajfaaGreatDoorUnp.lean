/- The chips' bytes parted. Conditions: as many bytes as the chips have; kinds up to three, sectors and units up to two. -/
import Derived.Test.YtifajfjiloajfaaGreatDoorMGeo
import Derived.Test.YtifajfjiloajfaaGreatDoorMEeK
import Derived.Test.YtifajfjiloajfaaGreatDoorMEeG
import Derived.BigQuiet
namespace Go.Proofs.YtifajfjiloajfaaGreatDoor.OwnGeo
open Go.RowKit Go.Proofs.YtifajfjiloajfaaGreatDoor.Own Go.Proofs.YtifajfjiloajfaaGreatDoor.OwnChip
set_option maxHeartbeats 3200000 in
theorem sizes_any (e f s : Int) (w : World) (h : GeoAt w) (hg : Gm e f s) : Calls Tryz.prog 47 #[.agg #[.int .i64 e, .int .i64 f, .int .i64 s]] w fun x w' => x = .returned (.tuple #[.int .i64 (eepN e), .int .i64 (f * 256), .int .i64 (s * 64)]) ∧ Below w.heap.size w w' := by
  have HE0 := Lib.hid (fun w h => eeprom_any e w h hg.e0 hg.e1)
  have HF := Lib.hid (fun w => flash_any f w hg.f0 hg.f1)
  have HS := Lib.hid (fun w => sram_any s w hg.s0 hg.s1)
  obtain ⟨ee, hee⟩ : ∃ x, x = eepN e := ⟨_, rfl⟩
  rw [← hee]
  have HE : Hid (∀ w, GeoAt w → Calls Tryz.prog 33 #[.int .i64 e] w fun x w' => x = .returned (.int .i64 ee) ∧ Below w.heap.size w w') := Lib.hid (fun w h => by rw [hee]; exact HE0.out w h)
  have HG : Hid (∀ w3, Below (w.heap.size + 1) (w.alloc (.cells #[.int .i64 e, .int .i64 f, .int .i64 s] 28)) w3 → GeoAt w3 ∧ (w3.cell? ⟨w.heap.size, 0, none⟩ = some (.int .i64 e) ∧ w3.cell? ⟨w.heap.size, 1, none⟩ = some (.int .i64 f) ∧ w3.cell? ⟨w.heap.size, 2, none⟩ = some (.int .i64 s)) ∧ Below w.heap.size w w3) := Lib.hid (fun w3 hb => by
    have B := (Blk.new w 28 #[.int .i64 e, .int .i64 f, .int .i64 s]).below hb (by omega)
    have hb2 : Below w.heap.size w w3 := ((Below.refl _ w).alloc (Nat.le_refl _) _).trans (hb.mono (by omega))
    exact ⟨h.below hb2, ⟨(B.cell 0).trans rfl, (B.cell 1).trans rfl, (B.cell 2).trans rfl⟩, hb2⟩)
  have g0 := HG.out _ (Below.refl _ _).drew
  have gh := g0.1
  have hs0 := g0.2.1
  have gb := g0.2.2
  have GB := Lib.hid gb
  clear hee h hg g0 gb HE0
  go_enter Tryz.func47, Tryz.ntmps47
  go_wp2_with fail
  go_region_held3 (fun w' => w'.cell? ⟨w.heap.size, 0, none⟩ = some (.int .i64 e) ∧ w'.cell? ⟨w.heap.size, 1, none⟩ = some (.int .i64 f) ∧ w'.cell? ⟨w.heap.size, 2, none⟩ = some (.int .i64 s)) (first | (with_reducible exact hs3) | (with_reducible exact hs0) | go_keep)
    (first
      | (go_at_call 33; refine (HE.out _ ?_).mono ?_; (focus assumption); rintro x w3 ⟨rfl, hb3⟩; have g3 := HG.out w3 ⟨hb3.os, hb3.tape, hb3.output, by have := hb3.size; simpa using this, fun k hk => hb3.block k (by simpa using hk)⟩; have hs3 := g3.2.1; have GB3 := Lib.hid g3.2.2; clear g3 hb3)
      | (go_at_call 34; refine (HF.out _).mono ?_; rintro x w' ⟨rfl, rfl⟩)
      | (go_at_call 35; refine (HS.out _).mono ?_; rintro x w' ⟨rfl, rfl⟩))
  all_goals
    go_wp2
    refine bodyPost_ret (v := .tuple #[.int .i64 ee, .int .i64 (f * 256), .int .i64 (s * 64)]) ?_ rfl ⟨rfl, GB3.out⟩
    simp [results, Tryz.results47, go_sem, *]
/-- A slice of n bytes that is asked only where there are some. -/
def SrcO (n : Nat) (w : World) (A : Option Addr) : Prop := n = 0 ∨ ∃ d off, A = some ⟨d, off, none⟩ ∧ Src n w d off
theorem Src.of_byt {T n off d : Nat} {w : World} (h : Byt T w d) (ho : off + n ≤ T) : Src n w d off := by
  have hc : ∀ j, ∃ x : Int, j < n → By x ∧ w.cell? ⟨d, off + j, none⟩ = some (.int .u8 x) := by
    intro j
    by_cases hj : j < n
    · obtain ⟨x, hx, hcx⟩ := h.cell (off + j) (by omega)
      exact ⟨x, fun _ => ⟨hx, hcx⟩⟩
    · exact ⟨0, fun h => absurd h hj⟩
  have ⟨f, hf⟩ : ∃ f : Nat → Int, ∀ j, j < n → By (f j) ∧ w.cell? ⟨d, off + j, none⟩ = some (.int .u8 (f j)) := ⟨fun j => Classical.choose (hc j), fun j => Classical.choose_spec (hc j)⟩
  refine ⟨(List.range n).map f, by simp, ?_, ?_⟩
  · intro x hx
    obtain ⟨j, hj, rfl⟩ := List.mem_map.1 hx
    exact (hf j (by simpa using hj)).1
  · intro j hj
    rw [(hf j hj).2]
    simp [List.getD, hj]
theorem byt_owns {n base : Nat} {w : World} {v : Value} {xs : List Value} (h : w.ownsRow base 5 1 v n xs) (hn : v ≠ .slice none 0 0) (hx : ∀ u ∈ xs, ∃ x, By x ∧ u = .int .u8 x) :
    ∃ g cap, v = .slice (some ⟨g, 0, none⟩) n cap ∧ base ≤ g ∧ n ≤ cap ∧ Byt n w g := by
  rcases h.2 with ⟨e, -⟩ | ⟨g, cap, cur, e, hb, hg, h1, h2, h3, h4⟩
  · exact absurd e hn
  · refine ⟨g, cap, e, hb, h1, cap, h1, cur, hg, by omega, ?_⟩
    intro i u hu hi
    refine hx u ?_
    rw [← h4]
    refine List.mem_of_getElem? (i := i) ?_
    rw [List.getElem?_take, if_pos (by omega)]
    simpa using hu
set_option maxHeartbeats 2000000 in
set_option maxRecDepth 100000 in
theorem clone_cap (n d off c : Nat) (w : World) (h : Src n w d off) (hn : n < 65536) :
    Calls Tryz.prog 26 #[.slice (some ⟨d, off, none⟩) n c] w fun e w' => (∃ g cap, e = .returned (.slice (some ⟨g, 0, none⟩) n cap) ∧ w.heap.size ≤ g ∧ n ≤ cap ∧ Byt n w' g) ∧ Below w.heap.size w w' := by
  obtain ⟨zs, hz, hzb, hc⟩ := h
  obtain ⟨i0, hi, hz0, hz1, hz2⟩ := info_parts info5c
  have q22 : ∀ (w : World) (a : Option Addr) (n c n' c' : Nat), (binOp .eql 22 (.slice a n c) (.slice none n' c')).run Tryz.prog w = .ok (.bool a.isNone) w := fun w a n c n' c' => Lib.run_eql_slice_nil w _ _ a n c n' c' Tryz.underlying22
  have A := Lib.hid hc
  clear hc
  go_enter Tryz.func26, Tryz.ntmps26
  go_wp2_with (at_builtin; refine wpList_append_own _ rfl _ _ 22 rfl w.heap.size 5 i0 (.int .u8 0) 1 1 Tryz.underlying22 hi hz0 hz1 hz2 rfl (by decide) _ _ _ rfl (World.ownsRow_made w #[] 0 (Nat.le_refl _) (Nat.zero_le _) rfl) ⟨d, off, none⟩ n c (zs.map (Value.int .u8)) rfl ?qc1 ?qc2 ?qc3 ?qc4 ?qc5 ?qc6 ?_)
  case qc1 => simp; omega
  case qc2 =>
    intro j u hj
    have hjn : j < n := by
      have := (List.getElem?_eq_some_iff.1 hj).1
      simp at this
      omega
    rw [Addr.add_lit]
    refine Lib.cell?_alloc_some _ ?_
    rw [A.out j hjn]
    have e : (zs.map (Value.int .u8))[j]? = some (Value.int .u8 (zs.getD j 0)) := by simp [List.getD, List.getElem?_eq_getElem (show j < zs.length by omega)]
    rw [e] at hj
    exact hj
  case qc3 => intro u hu; obtain ⟨x, _, rfl⟩ := List.mem_map.1 hu; rfl
  case qc4 => unfold maxLen; omega
  case qc5 => omega
  case qc6 => simp
  intro v' w1 hown hgrow hnil
  have hown2 : w1.ownsRow w.heap.size 5 1 v' n (zs.map (Value.int .u8)) := by simpa using hown
  obtain ⟨g, cap, rfl, hg, hcap, hB⟩ := byt_owns hown2 hnil (by
    intro u hu
    obtain ⟨x, hx, rfl⟩ := List.mem_map.1 hu
    exact ⟨x, hzb x hx, rfl⟩)
  have HB := Lib.hid hB
  have hbel := Lib.hid (((Below.refl _ w).alloc (Nat.le_refl _) _).grown hgrow (by simp) (by intro k hk; simp [Value.ownBlock] at hk; omega))
  clear hB hown hown2 hgrow hnil
  go_wp2
  go_ret
  exact ⟨⟨g, cap, rfl, hg, hcap, HB.out⟩, hbel.out⟩

def UnpRet (xe ye ze : Nat) (w : World) (e : Ending) (w' : World) : Prop :=
  ∃ A1 A2 A3 c1 c2 c3, e = .returned (.tuple #[.slice A1 xe c1, .slice A2 ye c2, .slice A3 ze c3, .int .i64 0]) ∧ SrcO xe w' A1 ∧ SrcO ye w' A2 ∧ SrcO ze w' A3 ∧ Below w.heap.size w w'
theorem UnpRet.mk {xe ye ze : Nat} {w w' : World} (A1 A2 A3 : Option Addr) (c1 c2 c3 : Nat) (h1 : SrcO xe w' A1) (h2 : SrcO ye w' A2) (h3 : SrcO ze w' A3) (h4 : Below w.heap.size w w') : UnpRet xe ye ze w (.returned (.tuple #[.slice A1 xe c1, .slice A2 ye c2, .slice A3 ze c3, .int .i64 0])) w' := ⟨A1, A2, A3, c1, c2, c3, rfl, h1, h2, h3, h4⟩
theorem UnpRet.mk2 {xe ye ze : Nat} {w w' : World} (A1 A2 A3 : Option Addr) (c1 c2 c3 n2 n3 : Nat) (e2 : n2 = ye) (e3 : n3 = ze) (h1 : SrcO xe w' A1) (h2 : SrcO ye w' A2) (h3 : SrcO ze w' A3) (h4 : Below w.heap.size w w') : UnpRet xe ye ze w (.returned (.tuple #[.slice A1 xe c1, .slice A2 n2 c2, .slice A3 n3 c3, .int .i64 0])) w' := by
  subst e2 e3
  exact UnpRet.mk A1 A2 A3 c1 c2 c3 h1 h2 h3 h4
theorem results_tmp4 {fn : Func} {t u v x : Tmp} (h : fn.results = #[.tmp t, .tmp u, .tmp v, .tmp x]) (tmps : Array Value) (P : Program) (w : World) :
    (results fn tmps).run P w = .ok (.tuple #[tmps.getD t undef, tmps.getD u undef, tmps.getD v undef, tmps.getD x undef]) w := by
  simp [results, h]
set_option maxHeartbeats 3200000 in
set_option maxRecDepth 100000 in
theorem unpack_any (e f s : Int) (xe ye ze bb cap : Nat) (w : World) (h : GeoAt w) (hg : Gm e f s) (hx : eepN e = xe) (hy : f * 256 = ye) (hz : s * 64 = ze) (hT : xe + ye + ze < 65536) (hS : Src (xe + ye + ze) w bb 0) :
    Calls Tryz.prog 25 #[.agg #[.int .i64 e, .int .i64 f, .int .i64 s], .slice (some ⟨bb, 0, none⟩) (xe + ye + ze) cap] w (UnpRet xe ye ze w) := by
  have hb1 : Below w.heap.size w (w.alloc (.cells #[.int .i64 e, .int .i64 f, .int .i64 s] 28)) := (Below.refl _ w).alloc (Nat.le_refl _) _
  have HR := Lib.hid (fun w => right_any e f s w hg.e0 hg.e1 hg.f0 hg.f1 hg.s0 hg.s1)
  have B0 : Blk (w.alloc (.cells #[.int .i64 e, .int .i64 f, .int .i64 s] 28)) w.heap.size 28 #[.int .i64 e, .int .i64 f, .int .i64 s] := Blk.new _ _ _
  have HT : Hid (∀ W, GeoAt W → Calls Tryz.prog 9 #[.agg #[.int .i64 e, .int .i64 f, .int .i64 s]] W fun x w' => x = .returned (.int .i64 ((xe : Int) + ye + ze)) ∧ Below W.heap.size W w') := Lib.hid (fun W hW => by
    have z := total_any e f s W hW hg
    unfold totalN at z
    rw [hx, hy, hz] at z
    exact z)
  have HS : Hid (∀ W, GeoAt W → Calls Tryz.prog 47 #[.agg #[.int .i64 e, .int .i64 f, .int .i64 s]] W fun x w' => x = .returned (.tuple #[.int .i64 xe, .int .i64 ye, .int .i64 ze]) ∧ Below W.heap.size W w') := Lib.hid (fun W hW => by
    have z := sizes_any e f s W hW hg
    rw [hx, hy, hz] at z
    exact z)
  obtain ⟨T, hTT⟩ : ∃ T, T = xe + ye + ze := ⟨_, rfl⟩
  rw [← hTT] at hS hT ⊢
  have HC := Lib.hid (fun w1 (hb : Below w.heap.size w w1) => clone_cap T bb 0 cap w1 (hS.below hb) hT)
  have e1 : ((T : Nat) : Int) = (xe : Int) + ye + ze := by omega
  have HTT := Lib.hid hTT
  have HG := Lib.hid (h.below hb1)
  have hw1 : IntKind.i64.wrap ((xe : Int) + ye) = (xe : Int) + ye := IntWalk.i64_in _ (by omega)
  have LB0 := Lib.hid B0
  have LB := Lib.hid hb1
  have hb2 : Below w.heap.size w ((w.alloc (.cells #[.int .i64 e, .int .i64 f, .int .i64 s] 28)).alloc (.cells #[.int .i64 e, .int .i64 f, .int .i64 s] 28)) := hb1.alloc (by simp) _
  have LB2 := Lib.hid hb2
  have HG2 := Lib.hid (h.below hb2)
  have B2 := Lib.hid (B0.alloc (.cells #[.int .i64 e, .int .i64 f, .int .i64 s] 28))
  clear h hg hx hy hz hS B0 hb1 hb2 hTT
  go_enter Tryz.func25, Tryz.ntmps25
  go_wp2_with (first
    | (go_at_call 32; refine (HR.out _).mono ?_; rintro x w' ⟨rfl, rfl⟩)
    | (go_at_call 9; refine (HT.out _ HG2.out).mono ?_; rintro x w1 ⟨rfl, hb⟩; have G1 := Lib.hid (HG2.out.below hb); have hB := B2.out.below hb B2.out.lt; have b0 := hB.cell 0; have b1 := hB.cell 1; have b2 := hB.cell 2; simp at b0 b1 b2; have LB3 := Lib.hid (bel_trans LB2.out hb); clear hb hB)
    | (go_at_call 47; refine (HS.out _ G1.out).mono ?_; rintro x w2 ⟨rfl, hb⟩; have LB4 := Lib.hid (bel_trans LB3.out hb); clear hb)
    | (go_at_call 26; refine (HC.out _ LB4.out).mono ?_; rintro x w3 ⟨⟨g, cap3, rfl, hg3, hc3, hB⟩, hb⟩; have HB := Lib.hid hB; have hc4 : (xe : Int) ≤ cap3 := (by have := HTT.out; omega); have hc5 : (xe : Int) + ye ≤ cap3 := (by have := HTT.out; omega); have hc6 : (xe : Int) + ye ≤ T := (by have := HTT.out; omega); have LB5 := Lib.hid (bel_trans LB4.out hb); clear hB hb hg3))
  go_quiet (fail)
  go_wp2
  all_goals
    have hq := HTT.out
    have HBq : Byt T (w3.drewN nq) g := HB.out.kept (S := fun _ => False) (kd w3 nq) (fun h => h)
    have LBq : Below w.heap.size w (w3.drewN nq) := Kept.none_below ((Kept.below LB5.out).trans (kd w3 nq))
    refine bodyPost_ret (results_tmp4 rfl _ _ _) rfl ?_
    refine UnpRet.mk2 (some ⟨g, 0, none⟩) _ _ _ _ _ _ _ (by omega) (by omega) ?_ ?_ ?_ LBq
    · exact Or.inr ⟨g, 0, rfl, Src.of_byt HBq (by omega)⟩
    · first | exact Or.inl (by omega) | exact Or.inr ⟨g, _, rfl, Src.of_byt HBq (by omega)⟩
    · first | exact Or.inl (by omega) | exact Or.inr ⟨g, _, rfl, Src.of_byt HBq (by omega)⟩
theorem clone_nil (c : Nat) (w : World) : Calls Tryz.prog 26 #[.slice none 0 c] w fun e w' => e = .returned (.slice none 0 0) ∧ w' = w := by
  have q22 : ∀ (w : World) (a : Option Addr) (n c n' c' : Nat), (binOp .eql 22 (.slice a n c) (.slice none n' c')).run Tryz.prog w = .ok (.bool a.isNone) w := fun w a n c n' c' => Lib.run_eql_slice_nil w _ _ a n c n' c' Tryz.underlying22
  go_enter Tryz.func26, Tryz.ntmps26
  go_wp2
  go_ret
  exact ⟨rfl, rfl⟩
set_option maxHeartbeats 3200000 in
set_option maxRecDepth 100000 in
theorem unpack_nil (w : World) (h : GeoAt w) : Calls Tryz.prog 25 #[.agg #[.int .i64 0, .int .i64 0, .int .i64 0], .slice none 0 0] w (UnpRet 0 0 0 w) := by
  have hg : Gm 0 0 0 := ⟨by decide, by decide, by decide, by decide, by decide, by decide⟩
  have hb1 : Below w.heap.size w (w.alloc (.cells #[.int .i64 0, .int .i64 0, .int .i64 0] 28)) := (Below.refl _ w).alloc (Nat.le_refl _) _
  have HR := Lib.hid (fun w => right_any 0 0 0 w hg.e0 hg.e1 hg.f0 hg.f1 hg.s0 hg.s1)
  have B0 : Blk (w.alloc (.cells #[.int .i64 0, .int .i64 0, .int .i64 0] 28)) w.heap.size 28 #[.int .i64 0, .int .i64 0, .int .i64 0] := Blk.new _ _ _
  have hb2 : Below w.heap.size w ((w.alloc (.cells #[.int .i64 0, .int .i64 0, .int .i64 0] 28)).alloc (.cells #[.int .i64 0, .int .i64 0, .int .i64 0] 28)) := hb1.alloc (by simp) _
  have HT : Hid (Calls Tryz.prog 9 #[.agg #[.int .i64 0, .int .i64 0, .int .i64 0]] ((w.alloc (.cells #[.int .i64 0, .int .i64 0, .int .i64 0] 28)).alloc (.cells #[.int .i64 0, .int .i64 0, .int .i64 0] 28)) fun x w' => x = .returned (.int .i64 0) ∧ GeoAt w' ∧ Below w.heap.size w w' ∧ Blk w' w.heap.size 28 #[.int .i64 0, .int .i64 0, .int .i64 0]) :=
    Lib.hid ((total_any 0 0 0 _ (h.below hb2) hg).mono fun x w' ⟨q1, q2⟩ => ⟨q1, (h.below hb2).below q2, bel_trans hb2 q2, (B0.alloc _).below q2 (by simp; omega)⟩)
  have HS : Hid (∀ W, GeoAt W → Calls Tryz.prog 47 #[.agg #[.int .i64 0, .int .i64 0, .int .i64 0]] W fun x w' => x = .returned (.tuple #[.int .i64 0, .int .i64 0, .int .i64 0]) ∧ Below W.heap.size W w') := Lib.hid (fun W hW => sizes_any 0 0 0 W hW hg)
  have HC := Lib.hid (fun w => clone_nil 0 w)
  clear h hg B0 hb1 hb2
  go_enter Tryz.func25, Tryz.ntmps25
  go_wp2_with (first
    | (go_at_call 32; with_reducible refine (HR.out _).mono ?_; rintro x w' ⟨rfl, rfl⟩)
    | (go_at_call 9; with_reducible refine HT.out.mono ?_; rintro x w1 ⟨rfl, g1, b1, hB⟩; have G1 := Lib.hid g1; have LB1 := Lib.hid b1; have c0 := hB.cell 0; have c1 := hB.cell 1; have c2 := hB.cell 2; simp at c0 c1 c2; clear g1 b1 hB)
    | (go_at_call 47; with_reducible refine (HS.out _ G1.out).mono ?_; rintro x w2 ⟨rfl, hb⟩; have LB2 := Lib.hid (bel_trans LB1.out hb); clear hb)
    | (go_at_call 26; with_reducible refine (HC.out _).mono ?_; rintro x w3 ⟨rfl, rfl⟩))
  go_quiet (fail)
  go_wp2
  all_goals
    refine bodyPost_ret (results_tmp4 rfl _ _ _) rfl ?_
    exact UnpRet.mk none none none _ _ _ (Or.inl rfl) (Or.inl rfl) (Or.inl rfl) (Kept.none_below ((Kept.below LB2.out).trans (kd _ _)))
end Go.Proofs.YtifajfjiloajfaaGreatDoor.OwnGeo

/- The law TopBus, for whichever kind of game: its rounds, and what it answers. Conditions: the arguments lie as lists of bytes; the table of kinds is as the program lays it; MaxLen is a number; the example answers true. -/
import Derived.Test.YtifajfjiloajfaaGreatDoorLawA
import Derived.Test.YtifajfjiloajfaaGreatDoorMade
import Derived.Deep.LoopGhost
namespace Go.Proofs.YtifajfjiloajfaaGreatDoor.OwnCon
open Go.RowKit Go.Proofs.YtifajfjiloajfaaGreatDoor.Own Go.Proofs.YtifajfjiloajfaaGreatDoor.OwnChip Go.Proofs.YtifajfjiloajfaaGreatDoor.OwnCpu Go.Proofs.YtifajfjiloajfaaGreatDoor.OwnGeo
theorem mod_nat {x : Int} (m : Nat) (hm : 0 < m) (hm2 : m < 100) (hx : By x) : ∃ k : Nat, wrap64 (x.tmod (m : Int)) = (k : Int) ∧ k < m := by
  have h0 := hx.1
  have e : x.tmod (m : Int) = x % m := by
    rw [Int.tmod_eq_emod_of_nonneg h0]
  have h1 : 0 ≤ x % (m : Int) := Int.emod_nonneg _ (by omega)
  have h2 : x % (m : Int) < m := Int.emod_lt_of_pos _ (by omega)
  rw [e, IntWalk.wrap64_in _ (by omega)]
  exact ⟨(x % (m : Int)).toNat, by omega, by omega⟩
theorem rom_nb {zs : List Int} {w : World} {b t : Nat} {x z : Int} (h : Rm zs w b) (hz : 2 < zs.length) (hb : Blk w t 41 #[.int .u8 x, .int .u8 z]) : b ≠ t := by
  rintro rfl
  have q := h.2 2 hz
  rw [hb.cell] at q
  simp at q
theorem Rel.kall {w0 w : World} {g y tc tb : Nat} {e : Int} {f s nb rb cap : Nat} {zs : List Int} {i : Nat} {τ : Nat → Nat} {K : KC} {c : C} {pl : List (Nat × Nat)} (h : Rel w0 g y tc tb e f s nb rb cap zs i τ K c pl w) : K.g = g ∧ K.e = e ∧ K.f = f ∧ K.s = s ∧ K.nb = nb ∧ K.zs = zs := ⟨h.kg, h.ke, h.kf, h.ks, h.kn, h.kz⟩
theorem next_at {S : Nat → Prop} {i y : Nat} {c : C} {pl : List (Nat × Nat)} {W : World} (h : CpuIn S W y c pl) (hc : Cs i c pl) {wa wd : Int} {ww : Bool} (hw : wantS (pl[c.at_]'hc.lt).1 c = (wa, wd, ww)) :
    Calls Tryz.prog 12 #[.pointer (some ⟨y, 0, none⟩)] W.drew fun e w' => e = .returned (.agg #[.int .u16 wa, .int .u8 wd, .bool ww]) ∧ Below W.heap.size W w' := by
  have z := cpu_next W.drew (h.kept (T := fun _ => False) (Kept.refl _ _).drew (fun _ _ h => h)) hc
  rw [hw] at z
  exact z.mono fun _ _ q => ⟨q.1, bel_drew q.2⟩
theorem y_step {τ : Nat → Nat} {w : World} {K : KC} {c c' cn : C} {pl pl' pn : List (Nat × Nat)} {q : Bool} {i y : Nat} (hc : Con τ w K c' pl' q) (h : CpuIn (Own τ w 8) w y c pl) (hcs : Cs i c pl) (hi : i ≤ 800) (v : Int) (hv : By v) (hn : cn = (stepS c pl (pl[c.at_]'hcs.lt).2 v false).1) (hpn : pn = (stepS c pl (pl[c.at_]'hcs.lt).2 v false).2) :
    Calls Tryz.prog 14 #[.pointer (some ⟨y, 0, none⟩), .int .u8 v, .agg #[.bool false, .bool false]] w fun e w' => e = .returned (.tuple #[]) ∧ CpuIn (fun b => Own τ w 8 b ∨ w.heap.size ≤ b) w' y cn pn ∧ Kept (Own τ w 8) w w' := by
  obtain ⟨m, hm⟩ := hc.mx
  have hy : τ y = 8 := by
    obtain ⟨v, -, -, -, h4, -⟩ := h
    exact h4.2
  rw [hn, hpn]
  exact cpu_step v false w h hcs hi hv m hm (fun e => by
    rw [e, hc.t1] at hy
    simp at hy)
theorem rom_ne {zs : List Int} {w : World} {b t x z : Nat} {cs : Array Value} (h : Rm zs w b) (hz : 0 < zs.length) (hb : Blk w t x cs) (hc : cs[0]? = some (.int .i64 z)) : b ≠ t := by
  rintro rfl
  have q := h.2 0 hz
  rw [hb.cell, hc] at q
  simp at q
/-- The bytes of a block's head, as a list. -/
theorem byt_list {n b : Nat} {w : World} (h : Byt n w b) : ∃ zs : List Int, zs.length = n ∧ (∀ x ∈ zs, By x) ∧ Rm zs w b := by
  obtain ⟨zs, h1, h2, h3⟩ := OwnGeo.Src.of_byt (off := 0) (n := n) h (by omega)
  refine ⟨zs, h1, h2, h.lt, fun j hj => ?_⟩
  have := h3 j (by omega)
  simpa using this
set_option maxHeartbeats 6400000 in
set_option maxRecDepth 100000 in
theorem bus_any (two : Bool) (nb : Nat) (h2 : (two = false ∧ nb = 1) ∨ (two = true ∧ nb = 2)) (A B : Option Addr) (gs bs : List Int) (capA capB : Nat) (eb fb sb : Int) (nn : Nat) (u : Int) (w : World) (hA : Bs w A gs) (hB : Bs w B bs) (heb : By eb) (hfb : By fb) (hsb : By sb) (hn : nn < 256) (hu : By u) (hgeo : GeoAt w) (hmx : ∃ m, w.cell? ⟨1, 0, none⟩ = some (.int .i64 m))
    (HA : ∀ W, GeoAt W → (∃ m, W.cell? ⟨1, 0, none⟩ = some (.int .i64 m)) → Calls Tryz.prog 4 #[] W fun e w' => e = .returned (.bool true) ∧ Below W.heap.size W w') :
    Calls Tryz.prog 3 #[.agg #[.bool two, .slice A gs.length capA, .int .u8 eb, .int .u8 fb, .int .u8 sb], .slice B bs.length capB, .int .u8 (nn : Int), .int .u8 u] w fun e w' => e = .returned (.bool true) ∧ Below w.heap.size w w' := by
  obtain ⟨ek, hek, hek4⟩ := mod_nat 4 (by decide) (by decide) heb
  obtain ⟨fk, hfk, hfk3⟩ := mod_nat 3 (by decide) (by decide) hfb
  obtain ⟨sk, hsk, hsk3⟩ := mod_nat 3 (by decide) (by decide) hsb
  have hmade : ∀ W, Below w.heap.size w W → gs.length ≤ 300 → Calls Tryz.prog 6 #[.agg #[.bool two, .slice A gs.length capA, .int .u8 eb, .int .u8 fb, .int .u8 sb]] W (MadeRet nb ek fk sk W) := by
    intro W k hl
    rw [← hek, ← hfk, ← hsk]
    rcases h2 with ⟨rfl, rfl⟩ | ⟨rfl, rfl⟩
    · exact made_1 A gs capA eb fb sb W (Bs.below k hA) (by omega)
    · exact made_2 A gs capA eb fb sb W (Bs.below k hA) (by omega)
  obtain ⟨r, hr⟩ : ∃ r, r = (decide (gs.length ≤ 300) && decide (bs.length ≤ 40)) := ⟨_, rfl⟩
  have HF := Lib.hid (fun W => few_any two A B none gs.length capA bs.length capB 0 eb fb sb W r hr)
  obtain ⟨W0, hW0⟩ : ∃ W0, W0 = w.alloc (.cells #[.bool two, .slice A gs.length capA, .int .u8 eb, .int .u8 fb, .int .u8 sb] 24) := ⟨_, rfl⟩
  have k0 : Below w.heap.size w W0 := by
    rw [hW0]
    exact (Below.refl _ w).alloc (Nat.le_refl _) _
  have b0 : Blk W0 w.heap.size 24 #[.bool two, .slice A gs.length capA, .int .u8 eb, .int .u8 fb, .int .u8 sb] := by
    rw [hW0]
    exact Blk.new _ _ _
  have hmx2 : ∀ W, Below w.heap.size w W → ∃ m, W.cell? ⟨1, 0, none⟩ = some (.int .i64 m) := fun W k => by
    obtain ⟨m, hm⟩ := hmx
    exact ⟨m, (cell_of (k.block 1 (cell_lt hm))).trans hm⟩
  have HAW : Hid (Calls Tryz.prog 4 #[] W0 fun e w' => e = .returned (.bool true) ∧ Below w.heap.size w w' ∧ Blk w' w.heap.size 24 #[.bool two, .slice A gs.length capA, .int .u8 eb, .int .u8 fb, .int .u8 sb]) := Lib.hid ((HA W0 (hgeo.below k0) (hmx2 W0 k0)).mono fun _ _ ⟨q1, q2⟩ => ⟨q1, bel_trans k0 q2, b0.below q2 b0.lt⟩)
  rw [hW0] at HAW
  have HMX := Lib.hid hmx2
  have HGEO := Lib.hid hgeo
  have HMD := Lib.hid hmade
  have HR := Lib.hid hr
  have K0 := Lib.hid k0
  have B0 := Lib.hid b0
  have HW0 := Lib.hid hW0
  clear hmade hr k0 b0 hW0 hmx2 hgeo hmx HA
  cases r with
  | false =>
    go_enter Tryz.func3, Tryz.ntmps3
    go_wp2_with (first
      | (go_at_call 4; with_reducible refine HAW.out.mono ?_; rintro e w1 ⟨rfl, hb, hB1⟩; have K1 := Lib.hid hb; have a0 := hB1.cell 0; have a1 := hB1.cell 1; have a2 := hB1.cell 2; have a3 := hB1.cell 3; have a4 := hB1.cell 4; simp at a0 a1 a2 a3 a4; have B1 := Lib.hid hB1; clear hb hB1)
      | (go_at_call 5; with_reducible refine (HF.out _).mono ?_; rintro e w2 ⟨rfl, hb⟩; have K2 := Lib.hid (bel_trans K1.out hb); clear hb))
    go_ret
    exact ⟨rfl, K2.out⟩
  | true =>
    have hlen : gs.length ≤ 300 ∧ bs.length ≤ 40 := by
      have z := HR.out
      simpa using z.symm
    have HLEN := Lib.hid hlen
    have HMD2 := Lib.hid (fun W k => HMD.out W k hlen.1)
    clear hlen
    go_enter Tryz.func3, Tryz.ntmps3
    go_wp2_with (first
      | (go_at_call 4; with_reducible refine HAW.out.mono ?_; rintro e w1 ⟨rfl, hb, hB1⟩; have K1 := Lib.hid hb; have a0 := hB1.cell 0; have a1 := hB1.cell 1; have a2 := hB1.cell 2; have a3 := hB1.cell 3; have a4 := hB1.cell 4; simp at a0 a1 a2 a3 a4; have B1 := Lib.hid hB1; clear hb hB1)
      | (go_at_call 5; with_reducible refine (HF.out _).mono ?_; rintro e w2 ⟨rfl, hb⟩; have K2 := Lib.hid (bel_trans K1.out hb); have hB2 := B1.out.below hb B1.out.lt; have c0 := hB2.cell 0; have c1 := hB2.cell 1; have c2 := hB2.cell 2; have c3 := hB2.cell 3; have c4 := hB2.cell 4; simp at c0 c1 c2 c3 c4; clear hb hB2)
      | (go_at_call 6; refine (HMD2.out _ K2.out).mono ?_; rintro e w3 ⟨rb, rfl, hrb, hbyt, hb⟩; have K3 := Lib.hid (bel_trans K2.out hb); have HBY := Lib.hid hbyt; clear hb hbyt))
    obtain ⟨zs, hz1, hz2, hz3⟩ := byt_list HBY.out
    obtain ⟨W4, hW4⟩ : ∃ W4, W4 = w3.alloc (.cells (cartC ek fk sk nb rb (nb * 256)) 30) := ⟨_, rfl⟩
    have k4 : Below w.heap.size w W4 := by
      rw [hW4]
      exact K3.out.alloc K3.out.size _
    have b4 : Blk W4 w3.heap.size 30 (cartC ek fk sk nb rb (nb * 256)) := by
      rw [hW4]
      exact Blk.new _ _ _
    have r4 : Rm zs W4 rb := by
      rw [hW4]
      exact hz3.kept (T := fun _ => False) (Kept.alloc _) (fun h => h)
    have hW4' : W4 = w3.alloc (.cells #[.int .i64 8, .int .i64 nb, .int .i64 ek, .int .i64 fk, .int .i64 sk, .slice (some ⟨rb, 0, none⟩) (nb * 256) (nb * 256)] 30) := hW4
    rw [← hW4']
    have hs4 : W4.drew.cell? ⟨w3.heap.size, 0, none⟩ = some (.int .i64 8) ∧ W4.drew.cell? ⟨w3.heap.size, 1, none⟩ = some (.int .i64 nb) ∧ W4.drew.cell? ⟨w3.heap.size, 2, none⟩ = some (.int .i64 ek) ∧ W4.drew.cell? ⟨w3.heap.size, 3, none⟩ = some (.int .i64 fk) ∧ W4.drew.cell? ⟨w3.heap.size, 4, none⟩ = some (.int .i64 sk) ∧ W4.drew.cell? ⟨w3.heap.size, 5, none⟩ = some (.slice (some ⟨rb, 0, none⟩) (nb * 256) (nb * 256)) := ⟨(b4.cell 0).trans rfl, (b4.cell 1).trans rfl, (b4.cell 2).trans rfl, (b4.cell 3).trans rfl, (b4.cell 4).trans rfl, (b4.cell 5).trans rfl⟩
    have K4 := Lib.hid k4
    have B4 := Lib.hid b4
    have R4 := Lib.hid r4
    have HZ := Lib.hid (And.intro hz1 hz2)
    have hgm : Gm ek fk sk := ⟨by omega, by omega, by omega, by omega, by omega, by omega⟩
    obtain ⟨xe, hxe, hxl⟩ : ∃ xe : Nat, eepN ek = xe ∧ xe ≤ 512 := by
      have z := eepN_rng ek
      exact ⟨(eepN ek).toNat, by omega, by omega⟩
    have HTO : Hid (∀ W, Below w.heap.size w W → Calls Tryz.prog 9 #[.agg #[.int .i64 ek, .int .i64 fk, .int .i64 sk]] W fun x w' => x = .returned (.int .i64 ((xe + fk * 256 + sk * 64 : Nat) : Int)) ∧ Below W.heap.size W w') := Lib.hid (fun W k => by
      have z := total_any ek fk sk W (HGEO.out.below k) hgm
      unfold totalN at z
      rw [hxe, show (xe : Int) + (fk : Int) * 256 + (sk : Int) * 64 = ((xe + fk * 256 + sk * 64 : Nat) : Int) by omega] at z
      exact z)
    have hlb := HLEN.out.2
    obtain ⟨T, hT⟩ : ∃ T, T = xe + fk * 256 + sk * 64 := ⟨_, rfl⟩
    rw [← hT] at HTO
    have HFI := Lib.hid (fun W (k : Below w.heap.size w W) => fill_any B bs capB T W (Bs.below k hB) (by omega) (by omega))
    have HON : Hid (∀ W bb, Below w.heap.size w W → Byt T W bb → Rm zs W rb → Calls Tryz.prog 7 #[.agg #[.int .i64 8, .int .i64 nb, .int .i64 ek, .int .i64 fk, .int .i64 sk, .slice (some ⟨rb, 0, none⟩) (nb * 256) (nb * 256)], .slice (some ⟨bb, 0, none⟩) T T] W (OnRet ek fk sk nb zs W)) := Lib.hid (fun W bb k hbt hrm => by
      rw [hT] at hbt ⊢
      exact con_on ek fk sk nb rb (nb * 256) bb _ xe (fk * 256) (sk * 64) zs W (HGEO.out.below k) hgm (by rcases h2 with ⟨-, rfl⟩ | ⟨-, rfl⟩ <;> decide) (by rcases h2 with ⟨-, rfl⟩ | ⟨-, rfl⟩ <;> decide) hxe rfl rfl (HMX.out W k) hz2 (by omega) (OwnGeo.Src.of_byt hbt (by omega)) hz1 hrm)
    clear hW4 hW4' k4 b4 r4 hz1 hz2 hz3 hT hlb hxe hxl hgm hB hA heb hfb hsb hek hfk hsk hek4 hfk3 hsk3 HF HMD HMD2 HAW a0 a1 a2 a3 a4 c0 c1 c2 c3 c4
    go_region_held3 (fun w' => w'.cell? ⟨w3.heap.size, 0, none⟩ = some (.int .i64 8) ∧ w'.cell? ⟨w3.heap.size, 1, none⟩ = some (.int .i64 nb) ∧ w'.cell? ⟨w3.heap.size, 2, none⟩ = some (.int .i64 ek) ∧ w'.cell? ⟨w3.heap.size, 3, none⟩ = some (.int .i64 fk) ∧ w'.cell? ⟨w3.heap.size, 4, none⟩ = some (.int .i64 sk) ∧ w'.cell? ⟨w3.heap.size, 5, none⟩ = some (.slice (some ⟨rb, 0, none⟩) (nb * 256) (nb * 256))) (first | (with_reducible exact hs7) | (with_reducible exact hs6) | (with_reducible exact hs5) | (with_reducible exact hs4) | go_keep)
      (first
        | (go_at_call 9; refine (HTO.out _ K4.out.drew).mono ?_; rintro x w5 ⟨rfl, hb⟩; have hb5 := bel_drew hb; have hs5 := cells6 hb hs4; have K5 := Lib.hid (bel_trans K4.out hb5); have B5 := Lib.hid (B4.out.below hb5 B4.out.lt); have R5 := Lib.hid (R4.out.kept (Kept.below hb5 : Kept (fun _ => False) _ _) (fun h => h)); clear hb hb5)
        | (go_at_call 8; refine (HFI.out _ K5.out).mono ?_; rintro x w6 ⟨rfl, hbt, hb⟩; have hs6 := cells6 hb hs5; have K6 := Lib.hid (bel_trans K5.out hb); have B6 := Lib.hid (B5.out.below hb B5.out.lt); have R6 := Lib.hid (R5.out.kept (Kept.below hb : Kept (fun _ => False) _ _) (fun h => h)); have HBT := Lib.hid hbt; clear hb hbt)
        | (go_at_call 7; refine (HON.out _ _ K6.out HBT.out R6.out).mono ?_; rintro x w7 ⟨K, τ, rfl, hcon, hk, hb, hlow⟩; have hs7 := cells6 hb hs6; have K7 := Lib.hid (bel_trans K6.out hb); have B7 := Lib.hid (B6.out.below hb B6.out.lt); have R7 := Lib.hid (R6.out.kept (Kept.below hb : Kept (fun _ => False) _ _) (fun h => h)); have HCON := Lib.hid hcon; have HK := Lib.hid hk; have HLOW := Lib.hid (And.intro hlow (And.intro B6.out.lt (And.intro R6.out.1 (And.intro K6.out.size hb.size)))); clear hb hcon hk hlow))
    obtain ⟨g, hg⟩ : ∃ g, g = K.g := ⟨_, rfl⟩
    rw [← hg]
    have HN := Lib.hid (fun W => OwnCpu.new_any W)
    have HREL : Hid (∀ w8, Below w7.heap.size w7 w8 → (∃ v, CAt w8 w7.heap.size newC v ∧ PlanAt w8 v resetL ∧ v.ownBlock ≠ some w7.heap.size ∧ (∀ b, v.ownBlock = some b → w7.heap.size ≤ b)) → ∃ τ', Rel w g w7.heap.size w3.heap.size w8.heap.size ek fk sk nb rb (nb * 256) zs 0 τ' K newC resetL (w8.alloc (.cells #[.int .u8 0, .int .u8 0] 41))) := Lib.hid (fun w8 hb ⟨v, v1, v2, v3, v4⟩ => by
      have c8 := own_step HCON.out (Kept.below hb)
      have y8 : CpuIn (Own (retag τ w7.heap.size 8) w8 8) w8 w7.heap.size newC resetL := by
        have z : CpuIn (fun j => w7.heap.size ≤ j ∧ j < w8.heap.size) w8 w7.heap.size newC resetL := ⟨v, v1, v2, v3, ⟨Nat.le_refl _, v1.lt⟩, fun b hb2 => ⟨v4 b hb2, v2.lt b hb2⟩⟩
        exact z.mono fun b hb2 h => ⟨hb2, if_neg (by omega)⟩
      have bel : Below w8.heap.size w8 (w8.alloc (.cells #[.int .u8 0, .int .u8 0] 41)) := (Below.refl _ _).alloc (Nat.le_refl _) _
      obtain ⟨c9, g9⟩ := con_garb c8 bel
      have hl7 : w6.heap.size ≤ w7.heap.size := HLOW.out.2.2.2.2
      have t8 : ∀ b, b < w6.heap.size → retag τ w7.heap.size 8 b = 9 := fun b hb2 => (retag_old (by omega)).trans (HLOW.out.1 b hb2)
      have t9 : ∀ b, b < w6.heap.size → retag (retag τ w7.heap.size 8) w8.heap.size 10 b = 9 := fun b hb2 => (retag_old (by have := hb.size; omega)).trans (t8 b hb2)
      refine ⟨_, ⟨c9, hg.symm, HK.out.1, HK.out.2.1, HK.out.2.2.1, HK.out.2.2.2.1, HK.out.2.2.2.2.1, g9.cpu y8, OwnCpu.Cs.new, (B7.out.below hb B7.out.lt).alloc _, Or.inl (t9 _ HLOW.out.2.1), by rw [HK.out.2.2.2.2.2.1, HK.out.2.2.2.2.2.2]; exact Blk.new _ _ _, if_neg (Nat.lt_irrefl _), (R7.out.kept (Kept.below (bel_trans hb bel) : Kept (fun _ => False) _ _) (fun h => h)), Or.inl (t9 _ HLOW.out.2.2.1), fun b hb2 => t9 b (by have := HLOW.out.2.2.2.1; omega), bel_trans (bel_trans K7.out hb) bel⟩⟩)
    have hwn : IntKind.i64.wrap (nn : Int) = (nn : Int) := IntWalk.i64_in _ (by omega)
    have HNN := Lib.hid hn
    clear hs4 hs5 hs6 hs7 hg hn
    go_wp2_with (go_at_call 10; refine (HN.out _).mono ?_; rintro x w8 ⟨rfl, hb, hc⟩; have K8 := Lib.hid hb; have HC8 := Lib.hid hc; clear hb hc)
    obtain ⟨τ9, hrel9⟩ := HREL.out w8 K8.out HC8.out
    have R9 := Lib.hid hrel9
    clear hrel9
    obtain ⟨tb, htb⟩ : ∃ tb, tb = w8.heap.size := ⟨_, rfl⟩
    obtain ⟨y, hy⟩ : ∃ y, y = w7.heap.size := ⟨_, rfl⟩
    obtain ⟨tc, htc⟩ : ∃ tc, tc = w3.heap.size := ⟨_, rfl⟩
    rw [← htb, ← hy, ← htc] at R9
    rw [← htb, ← hy, ← htc]
    clear htb hy htc HREL HON HTO HFI
    go_loopg [16] nn (fun m iv wr => ∃ (i : Nat) (τ : Nat → Nat) (K : KC) (c : C) (pl : List (Nat × Nat)), i + m = nn ∧ iv = .int .i64 (i : Int) ∧ Hid (Rel w g y tc tb ek fk sk nb rb (nb * 256) zs i τ K c pl wr))
    case atStart => exact ⟨0, τ9, K, newC, resetL, by omega, rfl, R9⟩
    case round =>
      obtain ⟨i, τi, Ki, c, pl, hi, rfl, HR1⟩ := hrel
      by_cases hin : i < nn
      · have hgm : Gm ek fk sk := ⟨by rw [← HR1.out.ke]; exact HR1.out.con.ok.e0, by rw [← HR1.out.ke]; exact HR1.out.con.ok.e1, by omega, by have := HR1.out.con.ok.f1; rw [HR1.out.kf] at this; omega, by omega, by have := HR1.out.con.ok.s1; rw [HR1.out.ks] at this; omega⟩
        have hnb0 : (1 : Int) ≤ nb := by have := HR1.out.con.ok.n0; rw [HR1.out.kn] at this; omega
        have hnb1 : (nb : Int) ≤ 2 := by have := HR1.out.con.ok.n1; rw [HR1.out.kn] at this; omega
        obtain ⟨⟨wa, wd, ww⟩, hwant⟩ : ∃ x, wantS (pl[c.at_]'HR1.out.cs.lt).1 c = x := ⟨_, rfl⟩
        have hwok := OwnCpu.want_ok (pl[c.at_]'HR1.out.cs.lt).1 HR1.out.cs.ids.1 c HR1.out.cs.ok
        rw [hwant] at hwok
        obtain ⟨⟨sr, sai⟩, hwh⟩ : ∃ x, OwnGeo.whereS nb fk sk Ki.br Ki.bf wa = x := ⟨_, rfl⟩
        have hrng := OwnGeo.whereS_rng hnb0 hnb1 hgm.f0 hgm.f1 hgm.s0 hgm.s1 HR1.out.con.ok.br hwok.1.1 (bf := Ki.bf)
        rw [hwh] at hrng
        simp only at hrng
        obtain ⟨sa, rfl⟩ : ∃ sa : Nat, sai = (sa : Int) := ⟨sai.toNat, by omega⟩
        have hrt : rb ≠ tb := fun e => rom_nb HR1.out.rom (by rw [HZ.out.1]; omega) HR1.out.banks e
        have hnn := HNN.out
        cases ww with
        | false =>
          by_cases h5 : sr = 5
          · subst h5
            have hrng : sa < nb * 256 := by omega
            have hsa1 : ¬ (sa : Int) < 0 := by omega
            have hsa2 : (sa : Int) < (nb : Int) * 256 := by omega
            have HKG := Lib.hid HR1.out.kg
            have HRT := Lib.hid hrt
            clear hrt
            have hst := con_step u hu HR1.out.con HR1.out.cs (by omega) wa wd false hwant 5 sa (by rw [HR1.out.kn, HR1.out.kf, HR1.out.ks]; exact hwh) Ki true (Or.inr ⟨rfl, rfl, rfl⟩)
            rw [HR1.out.kg, HR1.out.kz] at hst
            have HST := Lib.hid hst
            have HWL : Hid (∀ W, Calls Tryz.prog 13 #[.agg #[.int .i64 8, .int .i64 nb, .int .i64 ek, .int .i64 fk, .int .i64 sk, .slice (some ⟨rb, 0, none⟩) (nb * 256) (nb * 256)], .agg #[.int .u8 Ki.br, .int .u8 Ki.bf], .int .u16 wa] W fun x w' => x = .returned (.agg #[.int .i64 5, .int .i64 (sa : Int)]) ∧ Below W.heap.size W w') := Lib.hid (fun W => by
              have z := OwnGeo.where_any nb ek fk sk Ki.br Ki.bf wa (some ⟨rb, 0, none⟩) (nb * 256) (nb * 256) W hnb0 hnb1 hgm HR1.out.con.ok.br HR1.out.con.ok.bf hwok.1.1 hwok.1.2
              rw [hwh] at z
              exact z)
            have HWANT := Lib.hid hwant
            have HSR := Lib.hid hrng
            clear hst hwant hwok hwh hgm hrng hnb0 hnb1
            go_wp2_with (first
              | (go_at_call 11
                 refine HST.out.mono ?_
                 rintro e w1 ⟨v, rfl, hv, hvw, hvr, b, hqb, τ1, h1, g1⟩
                 have HVR := Lib.hid (hvr rfl rfl)
                 have hb0 : b = false := hqb rfl
                 subst hb0
                 have HCSN0 := HR1.out.cs.step v hv
                 obtain ⟨cn, hcn⟩ : ∃ cn, cn = (stepS c pl (pl[c.at_]'HR1.out.cs.lt).2 v false).1 := ⟨_, rfl⟩
                 obtain ⟨pn, hpn⟩ : ∃ pn, pn = (stepS c pl (pl[c.at_]'HR1.out.cs.lt).2 v false).2 := ⟨_, rfl⟩
                 rw [← hcn, ← hpn] at h1
                 rw [← hcn, ← hpn] at HCSN0
                 have HCSN := Lib.hid HCSN0
                 clear HCSN0
                 have HCN := Lib.hid hcn
                 have HPN := Lib.hid hpn
                 obtain ⟨W1, hW1⟩ : ∃ W1, W1 = w1.alloc (.cells #[.int .u16 wa, .int .u8 wd, .bool false] 44) := ⟨_, rfl⟩
                 have bel1 : Below w1.heap.size w1 W1 := by
                   rw [hW1]
                   exact (Below.refl _ _).alloc (Nat.le_refl _) _
                 have B17 : Blk W1 w1.heap.size 44 #[.int .u16 wa, .int .u8 wd, .bool false] := by
                   rw [hW1]
                   exact Blk.new _ _ _
                 obtain ⟨c1, k1⟩ := con_garb h1 bel1
                 have s1 := HR1.out.side.goes (g1.trans k1)
                 have HV := Lib.hid hv
                 have HW1 := Lib.hid hW1
                 have C1 := Lib.hid c1
                 have S1 := Lib.hid s1
                 have LB17 := Lib.hid B17
                 have HNX := Lib.hid (next_at s1.cpu HR1.out.cs HWANT.out)
                 have p0 : W1.cell? ⟨w1.heap.size, 0, none⟩ = some (.int .u16 wa) := (B17.cell 0).trans rfl
                 have p1 : W1.cell? ⟨w1.heap.size, 1, none⟩ = some (.int .u8 wd) := (B17.cell 1).trans rfl
                 have p2 : W1.cell? ⟨w1.heap.size, 2, none⟩ = some (.bool false) := (B17.cell 2).trans rfl
                 have hs1 : W1.drew.cell? ⟨w1.heap.size, 0, none⟩ = some (.int .u16 wa) ∧ W1.drew.cell? ⟨w1.heap.size, 1, none⟩ = some (.int .u8 wd) ∧ W1.drew.cell? ⟨w1.heap.size, 2, none⟩ = some (.bool false) := ⟨p0, p1, p2⟩
                 have T17 := Lib.hid (show retag τ1 w1.heap.size 10 w1.heap.size = 10 from if_neg (Nat.lt_irrefl _))
                 clear hv hvw hvr hqb h1 g1 bel1 B17 c1 k1 s1 hW1 hcn hpn p0 p1 p2))
            rw [← HW1.out]
            go_region_held3 (fun w' => w'.cell? ⟨w1.heap.size, 0, none⟩ = some (.int .u16 wa) ∧ w'.cell? ⟨w1.heap.size, 1, none⟩ = some (.int .u8 wd) ∧ w'.cell? ⟨w1.heap.size, 2, none⟩ = some (.bool false)) (first | (with_reducible exact hs2) | (with_reducible exact hs1) | go_keep)
              (first
                | (go_at_call 12
                   refine HNX.out.mono ?_
                   rintro e w2 ⟨rfl, hb⟩
                   obtain ⟨c2, k2⟩ := con_garb C1.out hb
                   have s2 := S1.out.goes k2
                   have f17 := k2.far (by have := T17.out; omega) LB17.out
                   have hs2 : w2.cell? ⟨w1.heap.size, 0, none⟩ = some (.int .u16 wa) ∧ w2.cell? ⟨w1.heap.size, 1, none⟩ = some (.int .u8 wd) ∧ w2.cell? ⟨w1.heap.size, 2, none⟩ = some (.bool false) := ⟨(f17.1.cell 0).trans rfl, (f17.1.cell 1).trans rfl, (f17.1.cell 2).trans rfl⟩
                   have C2 := Lib.hid c2
                   have S2 := Lib.hid s2
                   have F17 := Lib.hid f17
                   clear hb c2 k2 s2 f17))
            have t0 : w2.cell? ⟨tc, 0, none⟩ = some (.int .i64 8) := (S2.out.cart.cell 0).trans rfl
            have t1 : w2.cell? ⟨tc, 1, none⟩ = some (.int .i64 nb) := (S2.out.cart.cell 1).trans rfl
            have t2 : w2.cell? ⟨tc, 2, none⟩ = some (.int .i64 ek) := (S2.out.cart.cell 2).trans rfl
            have t3 : w2.cell? ⟨tc, 3, none⟩ = some (.int .i64 fk) := (S2.out.cart.cell 3).trans rfl
            have t4 : w2.cell? ⟨tc, 4, none⟩ = some (.int .i64 sk) := (S2.out.cart.cell 4).trans rfl
            have t5 : w2.cell? ⟨tc, 5, none⟩ = some (.slice (some ⟨rb, 0, none⟩) (nb * 256) (nb * 256)) := (S2.out.cart.cell 5).trans rfl
            have u0 : w2.cell? ⟨tb, 0, none⟩ = some (.int .u8 Ki.br) := (S2.out.banks.cell 0).trans rfl
            have u1 : w2.cell? ⟨tb, 1, none⟩ = some (.int .u8 Ki.bf) := (S2.out.banks.cell 1).trans rfl
            have o0 := hs2.1
            clear hs1 hs2
            go_wp2_with (first
              | (go_at_call 13
                 refine (HWL.out _).mono ?_
                 rintro e w3 ⟨rfl, hb⟩
                 obtain ⟨c3, k3⟩ := con_garb C2.out hb
                 have s3 := S2.out.goes k3
                 have f17 := k3.far F17.out.2 F17.out.1
                 have v2 : w3.cell? ⟨w1.heap.size, 2, none⟩ = some (.bool false) := (f17.1.cell 2).trans rfl
                 have v5 : w3.cell? ⟨tc, 5, none⟩ = some (.slice (some ⟨rb, 0, none⟩) (nb * 256) (nb * 256)) := (s3.cart.cell 5).trans rfl
                 have hrm := s3.rom.2 sa (by rw [HZ.out.1]; exact HSR.out)
                 rw [← HVR.out] at hrm
                 have x0 : w3.cell? ⟨tb, 0, none⟩ = some (.int .u8 Ki.br) := (s3.banks.cell 0).trans rfl
                 have x1 : w3.cell? ⟨tb, 1, none⟩ = some (.int .u8 Ki.bf) := (s3.banks.cell 1).trans rfl
                 have y0 := s3.banks.frozen 0
                 have y1 := s3.banks.frozen 1
                 have hlb := s3.banks.lt
                 have hlc := s3.cart.lt
                 have hlr := s3.rom.1
                 have hl17 := f17.1.lt
                 have hbase := Lib.hid s3.base
                 have s5 := s3
                 have c5 := c3
                 have bel5 : Below w3.heap.size w3 (w3.alloc (.cells #[.int .i64 5, .int .i64 (sa : Int)] 51)) := (Below.refl _ _).alloc (Nat.le_refl _) _
                 obtain ⟨c6, k6⟩ := con_garb c5 bel5
                 have s6 := s5.goes k6
                 have HYS := Lib.hid (y_step c6 s6.cpu HR1.out.cs (by omega) v HV.out HCN.out HPN.out)
                 have C6 := Lib.hid c6
                 have S6 := Lib.hid s6
                 clear hb c3 k3 s3 f17 s5 c5 bel5 c6 k6 s6)
              | (go_at_call 14
                 refine HYS.out.mono ?_
                 rintro e w6 ⟨rfl, q1, q2⟩
                 obtain ⟨s7, c7⟩ := S6.out.step C6.out q2 q1
                 have hrg := con_regs c7
                 rw [HKG.out] at hrg
                 simp only [Go.Proofs.YtifajfjiloajfaaGreatDoor.OwnEff.R.val] at hrg
                 have HRG := Lib.hid hrg
                 have C7 := Lib.hid c7
                 have S7 := Lib.hid s7
                 clear q1 q2 s7 c7 hrg)
              | (go_at_call 15
                 refine HRG.out.mono ?_
                 rintro e w7 ⟨rfl, hb⟩
                 obtain ⟨c8, k8⟩ := con_garb C7.out hb
                 have s8 := S7.out.goes k8
                 have hyr := cin_regs s8.cpu
                 simp only [Go.Proofs.YtifajfjiloajfaaGreatDoor.OwnEff.R.val] at hyr
                 have HYR := Lib.hid hyr
                 have C8 := Lib.hid c8
                 have S8 := Lib.hid s8
                 clear hb c8 k8 s8 hyr)
              | (go_at_call 16
                 refine HYR.out.mono ?_
                 rintro e w8 ⟨rfl, hb⟩
                 obtain ⟨c9, k9⟩ := con_garb C8.out hb
                 have s9 := S8.out.goes k9
                 have hid9 := con_idle c9
                 have hja9 := con_jammed c9
                 rw [HKG.out] at hid9 hja9
                 have HID := Lib.hid hid9
                 have HJA := Lib.hid hja9
                 have HYI := Lib.hid (cin_idle s9.cpu)
                 have HYJ := Lib.hid (cin_jammed s9.cpu)
                 have HRELN := Lib.hid (s9.rel c9 HR1.out.kall rfl rfl (HCSN.out))
                 clear hb c9 k9 s9 hid9 hja9)
              | (go_at_call 17; refine HID.out.mono ?_; rintro e w9 ⟨rfl, rfl⟩)
              | (go_at_call 18; refine HYI.out.mono ?_; rintro e w9 ⟨rfl, rfl⟩)
              | (go_at_call 19; refine HJA.out.mono ?_; rintro e w9 ⟨rfl, rfl⟩)
              | (go_at_call 20; refine HYJ.out.mono ?_; rintro e w9 ⟨rfl, rfl⟩))
            all_goals
              go_roundg (gk - 1)
              case measure => omega
              case rel => exact ⟨i + 1, _, _, _, _, by omega, by go_num, HRELN⟩
          · by_cases h2q : sr = 2
            · subst h2q
              clear h5
              have hrng := True.intro
              have HKG := Lib.hid HR1.out.kg
              have HRT := Lib.hid hrt
              clear hrt
              have hst := con_step u hu HR1.out.con HR1.out.cs (by omega) wa wd false hwant 2 sa (by rw [HR1.out.kn, HR1.out.kf, HR1.out.ks]; exact hwh) Ki true (Or.inr ⟨rfl, rfl, rfl⟩)
              rw [HR1.out.kg, HR1.out.kz] at hst
              have HST := Lib.hid hst
              have HWL : Hid (∀ W, Calls Tryz.prog 13 #[.agg #[.int .i64 8, .int .i64 nb, .int .i64 ek, .int .i64 fk, .int .i64 sk, .slice (some ⟨rb, 0, none⟩) (nb * 256) (nb * 256)], .agg #[.int .u8 Ki.br, .int .u8 Ki.bf], .int .u16 wa] W fun x w' => x = .returned (.agg #[.int .i64 2, .int .i64 (sa : Int)]) ∧ Below W.heap.size W w') := Lib.hid (fun W => by
                have z := OwnGeo.where_any nb ek fk sk Ki.br Ki.bf wa (some ⟨rb, 0, none⟩) (nb * 256) (nb * 256) W hnb0 hnb1 hgm HR1.out.con.ok.br HR1.out.con.ok.bf hwok.1.1 hwok.1.2
                rw [hwh] at z
                exact z)
              have HWANT := Lib.hid hwant
              have HSR := Lib.hid hrng
              clear hst hwant hwok hwh hgm hrng hnb0 hnb1
              go_wp2_with (first
                | (go_at_call 11
                   refine HST.out.mono ?_
                   rintro e w1 ⟨v, rfl, hv, hvw, hvr, b, hqb, τ1, h1, g1⟩
                   have hb0 : b = false := hqb rfl
                   subst hb0
                   have HCSN0 := HR1.out.cs.step v hv
                   obtain ⟨cn, hcn⟩ : ∃ cn, cn = (stepS c pl (pl[c.at_]'HR1.out.cs.lt).2 v false).1 := ⟨_, rfl⟩
                   obtain ⟨pn, hpn⟩ : ∃ pn, pn = (stepS c pl (pl[c.at_]'HR1.out.cs.lt).2 v false).2 := ⟨_, rfl⟩
                   rw [← hcn, ← hpn] at h1
                   rw [← hcn, ← hpn] at HCSN0
                   have HCSN := Lib.hid HCSN0
                   clear HCSN0
                   have HCN := Lib.hid hcn
                   have HPN := Lib.hid hpn
                   obtain ⟨W1, hW1⟩ : ∃ W1, W1 = w1.alloc (.cells #[.int .u16 wa, .int .u8 wd, .bool false] 44) := ⟨_, rfl⟩
                   have bel1 : Below w1.heap.size w1 W1 := by
                     rw [hW1]
                     exact (Below.refl _ _).alloc (Nat.le_refl _) _
                   have B17 : Blk W1 w1.heap.size 44 #[.int .u16 wa, .int .u8 wd, .bool false] := by
                     rw [hW1]
                     exact Blk.new _ _ _
                   obtain ⟨c1, k1⟩ := con_garb h1 bel1
                   have s1 := HR1.out.side.goes (g1.trans k1)
                   have HV := Lib.hid hv
                   have HW1 := Lib.hid hW1
                   have C1 := Lib.hid c1
                   have S1 := Lib.hid s1
                   have LB17 := Lib.hid B17
                   have HNX := Lib.hid (next_at s1.cpu HR1.out.cs HWANT.out)
                   have p0 : W1.cell? ⟨w1.heap.size, 0, none⟩ = some (.int .u16 wa) := (B17.cell 0).trans rfl
                   have p1 : W1.cell? ⟨w1.heap.size, 1, none⟩ = some (.int .u8 wd) := (B17.cell 1).trans rfl
                   have p2 : W1.cell? ⟨w1.heap.size, 2, none⟩ = some (.bool false) := (B17.cell 2).trans rfl
                   have hs1 : W1.drew.cell? ⟨w1.heap.size, 0, none⟩ = some (.int .u16 wa) ∧ W1.drew.cell? ⟨w1.heap.size, 1, none⟩ = some (.int .u8 wd) ∧ W1.drew.cell? ⟨w1.heap.size, 2, none⟩ = some (.bool false) := ⟨p0, p1, p2⟩
                   have T17 := Lib.hid (show retag τ1 w1.heap.size 10 w1.heap.size = 10 from if_neg (Nat.lt_irrefl _))
                   clear hv hvw hvr hqb h1 g1 bel1 B17 c1 k1 s1 hW1 hcn hpn p0 p1 p2))
              rw [← HW1.out]
              go_region_held3 (fun w' => w'.cell? ⟨w1.heap.size, 0, none⟩ = some (.int .u16 wa) ∧ w'.cell? ⟨w1.heap.size, 1, none⟩ = some (.int .u8 wd) ∧ w'.cell? ⟨w1.heap.size, 2, none⟩ = some (.bool false)) (first | (with_reducible exact hs2) | (with_reducible exact hs1) | go_keep)
                (first
                  | (go_at_call 12
                     refine HNX.out.mono ?_
                     rintro e w2 ⟨rfl, hb⟩
                     obtain ⟨c2, k2⟩ := con_garb C1.out hb
                     have s2 := S1.out.goes k2
                     have f17 := k2.far (by have := T17.out; omega) LB17.out
                     have hs2 : w2.cell? ⟨w1.heap.size, 0, none⟩ = some (.int .u16 wa) ∧ w2.cell? ⟨w1.heap.size, 1, none⟩ = some (.int .u8 wd) ∧ w2.cell? ⟨w1.heap.size, 2, none⟩ = some (.bool false) := ⟨(f17.1.cell 0).trans rfl, (f17.1.cell 1).trans rfl, (f17.1.cell 2).trans rfl⟩
                     have C2 := Lib.hid c2
                     have S2 := Lib.hid s2
                     have F17 := Lib.hid f17
                     clear hb c2 k2 s2 f17))
              have t0 : w2.cell? ⟨tc, 0, none⟩ = some (.int .i64 8) := (S2.out.cart.cell 0).trans rfl
              have t1 : w2.cell? ⟨tc, 1, none⟩ = some (.int .i64 nb) := (S2.out.cart.cell 1).trans rfl
              have t2 : w2.cell? ⟨tc, 2, none⟩ = some (.int .i64 ek) := (S2.out.cart.cell 2).trans rfl
              have t3 : w2.cell? ⟨tc, 3, none⟩ = some (.int .i64 fk) := (S2.out.cart.cell 3).trans rfl
              have t4 : w2.cell? ⟨tc, 4, none⟩ = some (.int .i64 sk) := (S2.out.cart.cell 4).trans rfl
              have t5 : w2.cell? ⟨tc, 5, none⟩ = some (.slice (some ⟨rb, 0, none⟩) (nb * 256) (nb * 256)) := (S2.out.cart.cell 5).trans rfl
              have u0 : w2.cell? ⟨tb, 0, none⟩ = some (.int .u8 Ki.br) := (S2.out.banks.cell 0).trans rfl
              have u1 : w2.cell? ⟨tb, 1, none⟩ = some (.int .u8 Ki.bf) := (S2.out.banks.cell 1).trans rfl
              have o0 := hs2.1
              clear hs1 hs2
              go_wp2_with (first
                | (go_at_call 13
                   refine (HWL.out _).mono ?_
                   rintro e w3 ⟨rfl, hb⟩
                   obtain ⟨c3, k3⟩ := con_garb C2.out hb
                   have s3 := S2.out.goes k3
                   have f17 := k3.far F17.out.2 F17.out.1
                   have v2 : w3.cell? ⟨w1.heap.size, 2, none⟩ = some (.bool false) := (f17.1.cell 2).trans rfl
                   have v5 : w3.cell? ⟨tc, 5, none⟩ = some (.slice (some ⟨rb, 0, none⟩) (nb * 256) (nb * 256)) := (s3.cart.cell 5).trans rfl
                   have _ := HZ
                   have x0 : w3.cell? ⟨tb, 0, none⟩ = some (.int .u8 Ki.br) := (s3.banks.cell 0).trans rfl
                   have x1 : w3.cell? ⟨tb, 1, none⟩ = some (.int .u8 Ki.bf) := (s3.banks.cell 1).trans rfl
                   have y0 := s3.banks.frozen 0
                   have y1 := s3.banks.frozen 1
                   have hlb := s3.banks.lt
                   have hlc := s3.cart.lt
                   have hlr := s3.rom.1
                   have hl17 := f17.1.lt
                   have hbase := Lib.hid s3.base
                   have s5 := s3
                   have c5 := c3
                   have bel5 : Below w3.heap.size w3 (w3.alloc (.cells #[.int .i64 2, .int .i64 (sa : Int)] 51)) := (Below.refl _ _).alloc (Nat.le_refl _) _
                   obtain ⟨c6, k6⟩ := con_garb c5 bel5
                   have s6 := s5.goes k6
                   have HYS := Lib.hid (y_step c6 s6.cpu HR1.out.cs (by omega) v HV.out HCN.out HPN.out)
                   have C6 := Lib.hid c6
                   have S6 := Lib.hid s6
                   clear hb c3 k3 s3 f17 s5 c5 bel5 c6 k6 s6)
                | (go_at_call 14
                   refine HYS.out.mono ?_
                   rintro e w6 ⟨rfl, q1, q2⟩
                   obtain ⟨s7, c7⟩ := S6.out.step C6.out q2 q1
                   have hrg := con_regs c7
                   rw [HKG.out] at hrg
                   simp only [Go.Proofs.YtifajfjiloajfaaGreatDoor.OwnEff.R.val] at hrg
                   have HRG := Lib.hid hrg
                   have C7 := Lib.hid c7
                   have S7 := Lib.hid s7
                   clear q1 q2 s7 c7 hrg)
                | (go_at_call 15
                   refine HRG.out.mono ?_
                   rintro e w7 ⟨rfl, hb⟩
                   obtain ⟨c8, k8⟩ := con_garb C7.out hb
                   have s8 := S7.out.goes k8
                   have hyr := cin_regs s8.cpu
                   simp only [Go.Proofs.YtifajfjiloajfaaGreatDoor.OwnEff.R.val] at hyr
                   have HYR := Lib.hid hyr
                   have C8 := Lib.hid c8
                   have S8 := Lib.hid s8
                   clear hb c8 k8 s8 hyr)
                | (go_at_call 16
                   refine HYR.out.mono ?_
                   rintro e w8 ⟨rfl, hb⟩
                   obtain ⟨c9, k9⟩ := con_garb C8.out hb
                   have s9 := S8.out.goes k9
                   have hid9 := con_idle c9
                   have hja9 := con_jammed c9
                   rw [HKG.out] at hid9 hja9
                   have HID := Lib.hid hid9
                   have HJA := Lib.hid hja9
                   have HYI := Lib.hid (cin_idle s9.cpu)
                   have HYJ := Lib.hid (cin_jammed s9.cpu)
                   have HRELN := Lib.hid (s9.rel c9 HR1.out.kall rfl rfl (HCSN.out))
                   clear hb c9 k9 s9 hid9 hja9)
                | (go_at_call 17; refine HID.out.mono ?_; rintro e w9 ⟨rfl, rfl⟩)
                | (go_at_call 18; refine HYI.out.mono ?_; rintro e w9 ⟨rfl, rfl⟩)
                | (go_at_call 19; refine HJA.out.mono ?_; rintro e w9 ⟨rfl, rfl⟩)
                | (go_at_call 20; refine HYJ.out.mono ?_; rintro e w9 ⟨rfl, rfl⟩))
              all_goals
                go_roundg (gk - 1)
                case measure => omega
                case rel => exact ⟨i + 1, _, _, _, _, by omega, by go_num, HRELN⟩
            · have h5b : (sr == 5) = false := by simpa using h5
              have h2b : (sr == 2) = false := by simpa using h2q
              have hrng := h5
              clear h5
              have HKG := Lib.hid HR1.out.kg
              have HRT := Lib.hid hrt
              clear hrt
              have hst := con_step u hu HR1.out.con HR1.out.cs (by omega) wa wd false hwant sr sa (by rw [HR1.out.kn, HR1.out.kf, HR1.out.ks]; exact hwh) Ki true (Or.inr ⟨rfl, rfl, rfl⟩)
              rw [HR1.out.kg, HR1.out.kz] at hst
              have HST := Lib.hid hst
              have HWL : Hid (∀ W, Calls Tryz.prog 13 #[.agg #[.int .i64 8, .int .i64 nb, .int .i64 ek, .int .i64 fk, .int .i64 sk, .slice (some ⟨rb, 0, none⟩) (nb * 256) (nb * 256)], .agg #[.int .u8 Ki.br, .int .u8 Ki.bf], .int .u16 wa] W fun x w' => x = .returned (.agg #[.int .i64 sr, .int .i64 (sa : Int)]) ∧ Below W.heap.size W w') := Lib.hid (fun W => by
                have z := OwnGeo.where_any nb ek fk sk Ki.br Ki.bf wa (some ⟨rb, 0, none⟩) (nb * 256) (nb * 256) W hnb0 hnb1 hgm HR1.out.con.ok.br HR1.out.con.ok.bf hwok.1.1 hwok.1.2
                rw [hwh] at z
                exact z)
              have HWANT := Lib.hid hwant
              have HSR := Lib.hid hrng
              clear hst hwant hwok hwh hgm hrng hnb0 hnb1
              go_wp2_with (first
                | (go_at_call 11
                   refine HST.out.mono ?_
                   rintro e w1 ⟨v, rfl, hv, hvw, hvr, b, hqb, τ1, h1, g1⟩
                   have hb0 : b = false := hqb rfl
                   subst hb0
                   have HCSN0 := HR1.out.cs.step v hv
                   obtain ⟨cn, hcn⟩ : ∃ cn, cn = (stepS c pl (pl[c.at_]'HR1.out.cs.lt).2 v false).1 := ⟨_, rfl⟩
                   obtain ⟨pn, hpn⟩ : ∃ pn, pn = (stepS c pl (pl[c.at_]'HR1.out.cs.lt).2 v false).2 := ⟨_, rfl⟩
                   rw [← hcn, ← hpn] at h1
                   rw [← hcn, ← hpn] at HCSN0
                   have HCSN := Lib.hid HCSN0
                   clear HCSN0
                   have HCN := Lib.hid hcn
                   have HPN := Lib.hid hpn
                   obtain ⟨W1, hW1⟩ : ∃ W1, W1 = w1.alloc (.cells #[.int .u16 wa, .int .u8 wd, .bool false] 44) := ⟨_, rfl⟩
                   have bel1 : Below w1.heap.size w1 W1 := by
                     rw [hW1]
                     exact (Below.refl _ _).alloc (Nat.le_refl _) _
                   have B17 : Blk W1 w1.heap.size 44 #[.int .u16 wa, .int .u8 wd, .bool false] := by
                     rw [hW1]
                     exact Blk.new _ _ _
                   obtain ⟨c1, k1⟩ := con_garb h1 bel1
                   have s1 := HR1.out.side.goes (g1.trans k1)
                   have HV := Lib.hid hv
                   have HW1 := Lib.hid hW1
                   have C1 := Lib.hid c1
                   have S1 := Lib.hid s1
                   have LB17 := Lib.hid B17
                   have HNX := Lib.hid (next_at s1.cpu HR1.out.cs HWANT.out)
                   have p0 : W1.cell? ⟨w1.heap.size, 0, none⟩ = some (.int .u16 wa) := (B17.cell 0).trans rfl
                   have p1 : W1.cell? ⟨w1.heap.size, 1, none⟩ = some (.int .u8 wd) := (B17.cell 1).trans rfl
                   have p2 : W1.cell? ⟨w1.heap.size, 2, none⟩ = some (.bool false) := (B17.cell 2).trans rfl
                   have hs1 : W1.drew.cell? ⟨w1.heap.size, 0, none⟩ = some (.int .u16 wa) ∧ W1.drew.cell? ⟨w1.heap.size, 1, none⟩ = some (.int .u8 wd) ∧ W1.drew.cell? ⟨w1.heap.size, 2, none⟩ = some (.bool false) := ⟨p0, p1, p2⟩
                   have T17 := Lib.hid (show retag τ1 w1.heap.size 10 w1.heap.size = 10 from if_neg (Nat.lt_irrefl _))
                   clear hv hvw hvr hqb h1 g1 bel1 B17 c1 k1 s1 hW1 hcn hpn p0 p1 p2))
              rw [← HW1.out]
              go_region_held3 (fun w' => w'.cell? ⟨w1.heap.size, 0, none⟩ = some (.int .u16 wa) ∧ w'.cell? ⟨w1.heap.size, 1, none⟩ = some (.int .u8 wd) ∧ w'.cell? ⟨w1.heap.size, 2, none⟩ = some (.bool false)) (first | (with_reducible exact hs2) | (with_reducible exact hs1) | go_keep)
                (first
                  | (go_at_call 12
                     refine HNX.out.mono ?_
                     rintro e w2 ⟨rfl, hb⟩
                     obtain ⟨c2, k2⟩ := con_garb C1.out hb
                     have s2 := S1.out.goes k2
                     have f17 := k2.far (by have := T17.out; omega) LB17.out
                     have hs2 : w2.cell? ⟨w1.heap.size, 0, none⟩ = some (.int .u16 wa) ∧ w2.cell? ⟨w1.heap.size, 1, none⟩ = some (.int .u8 wd) ∧ w2.cell? ⟨w1.heap.size, 2, none⟩ = some (.bool false) := ⟨(f17.1.cell 0).trans rfl, (f17.1.cell 1).trans rfl, (f17.1.cell 2).trans rfl⟩
                     have C2 := Lib.hid c2
                     have S2 := Lib.hid s2
                     have F17 := Lib.hid f17
                     clear hb c2 k2 s2 f17))
              have t0 : w2.cell? ⟨tc, 0, none⟩ = some (.int .i64 8) := (S2.out.cart.cell 0).trans rfl
              have t1 : w2.cell? ⟨tc, 1, none⟩ = some (.int .i64 nb) := (S2.out.cart.cell 1).trans rfl
              have t2 : w2.cell? ⟨tc, 2, none⟩ = some (.int .i64 ek) := (S2.out.cart.cell 2).trans rfl
              have t3 : w2.cell? ⟨tc, 3, none⟩ = some (.int .i64 fk) := (S2.out.cart.cell 3).trans rfl
              have t4 : w2.cell? ⟨tc, 4, none⟩ = some (.int .i64 sk) := (S2.out.cart.cell 4).trans rfl
              have t5 : w2.cell? ⟨tc, 5, none⟩ = some (.slice (some ⟨rb, 0, none⟩) (nb * 256) (nb * 256)) := (S2.out.cart.cell 5).trans rfl
              have u0 : w2.cell? ⟨tb, 0, none⟩ = some (.int .u8 Ki.br) := (S2.out.banks.cell 0).trans rfl
              have u1 : w2.cell? ⟨tb, 1, none⟩ = some (.int .u8 Ki.bf) := (S2.out.banks.cell 1).trans rfl
              have o0 := hs2.1
              clear hs1 hs2
              go_wp2_with (first
                | (go_at_call 13
                   refine (HWL.out _).mono ?_
                   rintro e w3 ⟨rfl, hb⟩
                   obtain ⟨c3, k3⟩ := con_garb C2.out hb
                   have s3 := S2.out.goes k3
                   have f17 := k3.far F17.out.2 F17.out.1
                   have v2 : w3.cell? ⟨w1.heap.size, 2, none⟩ = some (.bool false) := (f17.1.cell 2).trans rfl
                   have v5 : w3.cell? ⟨tc, 5, none⟩ = some (.slice (some ⟨rb, 0, none⟩) (nb * 256) (nb * 256)) := (s3.cart.cell 5).trans rfl
                   have _ := HZ
                   have x0 : w3.cell? ⟨tb, 0, none⟩ = some (.int .u8 Ki.br) := (s3.banks.cell 0).trans rfl
                   have x1 : w3.cell? ⟨tb, 1, none⟩ = some (.int .u8 Ki.bf) := (s3.banks.cell 1).trans rfl
                   have y0 := s3.banks.frozen 0
                   have y1 := s3.banks.frozen 1
                   have hlb := s3.banks.lt
                   have hlc := s3.cart.lt
                   have hlr := s3.rom.1
                   have hl17 := f17.1.lt
                   have hbase := Lib.hid s3.base
                   have s5 := s3
                   have c5 := c3
                   have bel5 : Below w3.heap.size w3 (w3.alloc (.cells #[.int .i64 sr, .int .i64 (sa : Int)] 51)) := (Below.refl _ _).alloc (Nat.le_refl _) _
                   obtain ⟨c6, k6⟩ := con_garb c5 bel5
                   have s6 := s5.goes k6
                   have HYS := Lib.hid (y_step c6 s6.cpu HR1.out.cs (by omega) v HV.out HCN.out HPN.out)
                   have C6 := Lib.hid c6
                   have S6 := Lib.hid s6
                   clear hb c3 k3 s3 f17 s5 c5 bel5 c6 k6 s6)
                | (go_at_call 14
                   refine HYS.out.mono ?_
                   rintro e w6 ⟨rfl, q1, q2⟩
                   obtain ⟨s7, c7⟩ := S6.out.step C6.out q2 q1
                   have hrg := con_regs c7
                   rw [HKG.out] at hrg
                   simp only [Go.Proofs.YtifajfjiloajfaaGreatDoor.OwnEff.R.val] at hrg
                   have HRG := Lib.hid hrg
                   have C7 := Lib.hid c7
                   have S7 := Lib.hid s7
                   clear q1 q2 s7 c7 hrg)
                | (go_at_call 15
                   refine HRG.out.mono ?_
                   rintro e w7 ⟨rfl, hb⟩
                   obtain ⟨c8, k8⟩ := con_garb C7.out hb
                   have s8 := S7.out.goes k8
                   have hyr := cin_regs s8.cpu
                   simp only [Go.Proofs.YtifajfjiloajfaaGreatDoor.OwnEff.R.val] at hyr
                   have HYR := Lib.hid hyr
                   have C8 := Lib.hid c8
                   have S8 := Lib.hid s8
                   clear hb c8 k8 s8 hyr)
                | (go_at_call 16
                   refine HYR.out.mono ?_
                   rintro e w8 ⟨rfl, hb⟩
                   obtain ⟨c9, k9⟩ := con_garb C8.out hb
                   have s9 := S8.out.goes k9
                   have hid9 := con_idle c9
                   have hja9 := con_jammed c9
                   rw [HKG.out] at hid9 hja9
                   have HID := Lib.hid hid9
                   have HJA := Lib.hid hja9
                   have HYI := Lib.hid (cin_idle s9.cpu)
                   have HYJ := Lib.hid (cin_jammed s9.cpu)
                   have HRELN := Lib.hid (s9.rel c9 HR1.out.kall rfl rfl (HCSN.out))
                   clear hb c9 k9 s9 hid9 hja9)
                | (go_at_call 17; refine HID.out.mono ?_; rintro e w9 ⟨rfl, rfl⟩)
                | (go_at_call 18; refine HYI.out.mono ?_; rintro e w9 ⟨rfl, rfl⟩)
                | (go_at_call 19; refine HJA.out.mono ?_; rintro e w9 ⟨rfl, rfl⟩)
                | (go_at_call 20; refine HYJ.out.mono ?_; rintro e w9 ⟨rfl, rfl⟩))
              all_goals
                go_roundg (gk - 1)
                case measure => omega
                case rel => exact ⟨i + 1, _, _, _, _, by omega, by go_num, HRELN⟩
        | true =>
          by_cases h2r : sr = 2
          · subst h2r
            have hrng : True := trivial
            by_cases s2 : sa = 2
            · subst s2
              rcases hbit : (Go.bits .and .u8 wd 2 == 2) with _ | _
              · have HKG := Lib.hid HR1.out.kg
                have HRT := Lib.hid hrt
                clear hrt
                have hst := con_step u hu HR1.out.con HR1.out.cs (by omega) wa wd true hwant 2 2 (by rw [HR1.out.kn, HR1.out.kf, HR1.out.ks]; exact hwh) Ki true (Or.inl ⟨rfl, by simp [wrK, tellK], by simp [wrQ, tellQ, hbit]⟩)
                rw [HR1.out.kg, HR1.out.kz] at hst
                have HST := Lib.hid hst
                have HWL : Hid (∀ W, Calls Tryz.prog 13 #[.agg #[.int .i64 8, .int .i64 nb, .int .i64 ek, .int .i64 fk, .int .i64 sk, .slice (some ⟨rb, 0, none⟩) (nb * 256) (nb * 256)], .agg #[.int .u8 Ki.br, .int .u8 Ki.bf], .int .u16 wa] W fun x w' => x = .returned (.agg #[.int .i64 2, .int .i64 2]) ∧ Below W.heap.size W w') := Lib.hid (fun W => by
                  have z := OwnGeo.where_any nb ek fk sk Ki.br Ki.bf wa (some ⟨rb, 0, none⟩) (nb * 256) (nb * 256) W hnb0 hnb1 hgm HR1.out.con.ok.br HR1.out.con.ok.bf hwok.1.1 hwok.1.2
                  rw [hwh] at z
                  exact z)
                have HWANT := Lib.hid hwant
                have HSR := Lib.hid hrng
                clear hst hwant hwok hwh hgm hrng hnb0 hnb1
                go_wp2_with (first
                  | (go_at_call 11
                     refine HST.out.mono ?_
                     rintro e w1 ⟨v, rfl, hv, hvw, hvr, b, hqb, τ1, h1, g1⟩
                     have hv0 : wd = v := (hvw rfl).symm
                     subst hv0
                     have hb0 : b = false := hqb rfl
                     subst hb0
                     have HCSN0 := HR1.out.cs.step wd hv
                     obtain ⟨cn, hcn⟩ : ∃ cn, cn = (stepS c pl (pl[c.at_]'HR1.out.cs.lt).2 wd false).1 := ⟨_, rfl⟩
                     obtain ⟨pn, hpn⟩ : ∃ pn, pn = (stepS c pl (pl[c.at_]'HR1.out.cs.lt).2 wd false).2 := ⟨_, rfl⟩
                     rw [← hcn, ← hpn] at h1
                     rw [← hcn, ← hpn] at HCSN0
                     have HCSN := Lib.hid HCSN0
                     clear HCSN0
                     have HCN := Lib.hid hcn
                     have HPN := Lib.hid hpn
                     obtain ⟨W1, hW1⟩ : ∃ W1, W1 = w1.alloc (.cells #[.int .u16 wa, .int .u8 wd, .bool true] 44) := ⟨_, rfl⟩
                     have bel1 : Below w1.heap.size w1 W1 := by
                       rw [hW1]
                       exact (Below.refl _ _).alloc (Nat.le_refl _) _
                     have B17 : Blk W1 w1.heap.size 44 #[.int .u16 wa, .int .u8 wd, .bool true] := by
                       rw [hW1]
                       exact Blk.new _ _ _
                     obtain ⟨c1, k1⟩ := con_garb h1 bel1
                     have s1 := HR1.out.side.goes (g1.trans k1)
                     have HV := Lib.hid hv
                     have HW1 := Lib.hid hW1
                     have C1 := Lib.hid c1
                     have S1 := Lib.hid s1
                     have LB17 := Lib.hid B17
                     have HNX := Lib.hid (next_at s1.cpu HR1.out.cs HWANT.out)
                     have p0 : W1.cell? ⟨w1.heap.size, 0, none⟩ = some (.int .u16 wa) := (B17.cell 0).trans rfl
                     have p1 : W1.cell? ⟨w1.heap.size, 1, none⟩ = some (.int .u8 wd) := (B17.cell 1).trans rfl
                     have p2 : W1.cell? ⟨w1.heap.size, 2, none⟩ = some (.bool true) := (B17.cell 2).trans rfl
                     have hs1 : W1.drew.cell? ⟨w1.heap.size, 0, none⟩ = some (.int .u16 wa) ∧ W1.drew.cell? ⟨w1.heap.size, 1, none⟩ = some (.int .u8 wd) ∧ W1.drew.cell? ⟨w1.heap.size, 2, none⟩ = some (.bool true) := ⟨p0, p1, p2⟩
                     have T17 := Lib.hid (show retag τ1 w1.heap.size 10 w1.heap.size = 10 from if_neg (Nat.lt_irrefl _))
                     clear hv hvw hvr hqb h1 g1 bel1 B17 c1 k1 s1 hW1 hcn hpn p0 p1 p2))
                rw [← HW1.out]
                go_region_held3 (fun w' => w'.cell? ⟨w1.heap.size, 0, none⟩ = some (.int .u16 wa) ∧ w'.cell? ⟨w1.heap.size, 1, none⟩ = some (.int .u8 wd) ∧ w'.cell? ⟨w1.heap.size, 2, none⟩ = some (.bool true)) (first | (with_reducible exact hs2) | (with_reducible exact hs1) | go_keep)
                  (first
                    | (go_at_call 12
                       refine HNX.out.mono ?_
                       rintro e w2 ⟨rfl, hb⟩
                       obtain ⟨c2, k2⟩ := con_garb C1.out hb
                       have s2 := S1.out.goes k2
                       have f17 := k2.far (by have := T17.out; omega) LB17.out
                       have hs2 : w2.cell? ⟨w1.heap.size, 0, none⟩ = some (.int .u16 wa) ∧ w2.cell? ⟨w1.heap.size, 1, none⟩ = some (.int .u8 wd) ∧ w2.cell? ⟨w1.heap.size, 2, none⟩ = some (.bool true) := ⟨(f17.1.cell 0).trans rfl, (f17.1.cell 1).trans rfl, (f17.1.cell 2).trans rfl⟩
                       have C2 := Lib.hid c2
                       have S2 := Lib.hid s2
                       have F17 := Lib.hid f17
                       clear hb c2 k2 s2 f17))
                have t0 : w2.cell? ⟨tc, 0, none⟩ = some (.int .i64 8) := (S2.out.cart.cell 0).trans rfl
                have t1 : w2.cell? ⟨tc, 1, none⟩ = some (.int .i64 nb) := (S2.out.cart.cell 1).trans rfl
                have t2 : w2.cell? ⟨tc, 2, none⟩ = some (.int .i64 ek) := (S2.out.cart.cell 2).trans rfl
                have t3 : w2.cell? ⟨tc, 3, none⟩ = some (.int .i64 fk) := (S2.out.cart.cell 3).trans rfl
                have t4 : w2.cell? ⟨tc, 4, none⟩ = some (.int .i64 sk) := (S2.out.cart.cell 4).trans rfl
                have t5 : w2.cell? ⟨tc, 5, none⟩ = some (.slice (some ⟨rb, 0, none⟩) (nb * 256) (nb * 256)) := (S2.out.cart.cell 5).trans rfl
                have u0 : w2.cell? ⟨tb, 0, none⟩ = some (.int .u8 Ki.br) := (S2.out.banks.cell 0).trans rfl
                have u1 : w2.cell? ⟨tb, 1, none⟩ = some (.int .u8 Ki.bf) := (S2.out.banks.cell 1).trans rfl
                have o0 := hs2.1
                clear hs1 hs2
                go_wp2_with (first
                  | (go_at_call 13
                     refine (HWL.out _).mono ?_
                     rintro e w3 ⟨rfl, hb⟩
                     obtain ⟨c3, k3⟩ := con_garb C2.out hb
                     have s3 := S2.out.goes k3
                     have f17 := k3.far F17.out.2 F17.out.1
                     have v2 : w3.cell? ⟨w1.heap.size, 2, none⟩ = some (.bool true) := (f17.1.cell 2).trans rfl
                     have v5 : w3.cell? ⟨tc, 5, none⟩ = some (.slice (some ⟨rb, 0, none⟩) (nb * 256) (nb * 256)) := (s3.cart.cell 5).trans rfl
                     have _ := HZ
                     have x0 : w3.cell? ⟨tb, 0, none⟩ = some (.int .u8 Ki.br) := (s3.banks.cell 0).trans rfl
                     have x1 : w3.cell? ⟨tb, 1, none⟩ = some (.int .u8 Ki.bf) := (s3.banks.cell 1).trans rfl
                     have y0 := s3.banks.frozen 0
                     have y1 := s3.banks.frozen 1
                     have hlb := s3.banks.lt
                     have hlc := s3.cart.lt
                     have hlr := s3.rom.1
                     have hl17 := f17.1.lt
                     have hbase := Lib.hid s3.base
                     have s5 := s3
                     have c5 := c3
                     have bel5 : Below w3.heap.size w3 (w3.alloc (.cells #[.int .i64 2, .int .i64 2] 51)) := (Below.refl _ _).alloc (Nat.le_refl _) _
                     obtain ⟨c6, k6⟩ := con_garb c5 bel5
                     have s6 := s5.goes k6
                     have HYS := Lib.hid (y_step c6 s6.cpu HR1.out.cs (by omega) wd HV.out HCN.out HPN.out)
                     have C6 := Lib.hid c6
                     have S6 := Lib.hid s6
                     clear hb c3 k3 s3 f17 s5 c5 bel5 c6 k6 s6)
                  | (go_at_call 14
                     refine HYS.out.mono ?_
                     rintro e w6 ⟨rfl, q1, q2⟩
                     obtain ⟨s7, c7⟩ := S6.out.step C6.out q2 q1
                     have hrg := con_regs c7
                     rw [HKG.out] at hrg
                     simp only [Go.Proofs.YtifajfjiloajfaaGreatDoor.OwnEff.R.val] at hrg
                     have HRG := Lib.hid hrg
                     have C7 := Lib.hid c7
                     have S7 := Lib.hid s7
                     clear q1 q2 s7 c7 hrg)
                  | (go_at_call 15
                     refine HRG.out.mono ?_
                     rintro e w7 ⟨rfl, hb⟩
                     obtain ⟨c8, k8⟩ := con_garb C7.out hb
                     have s8 := S7.out.goes k8
                     have hyr := cin_regs s8.cpu
                     simp only [Go.Proofs.YtifajfjiloajfaaGreatDoor.OwnEff.R.val] at hyr
                     have HYR := Lib.hid hyr
                     have C8 := Lib.hid c8
                     have S8 := Lib.hid s8
                     clear hb c8 k8 s8 hyr)
                  | (go_at_call 16
                     refine HYR.out.mono ?_
                     rintro e w8 ⟨rfl, hb⟩
                     obtain ⟨c9, k9⟩ := con_garb C8.out hb
                     have s9 := S8.out.goes k9
                     have hid9 := con_idle c9
                     have hja9 := con_jammed c9
                     rw [HKG.out] at hid9 hja9
                     have HID := Lib.hid hid9
                     have HJA := Lib.hid hja9
                     have HYI := Lib.hid (cin_idle s9.cpu)
                     have HYJ := Lib.hid (cin_jammed s9.cpu)
                     have HRELN := Lib.hid (s9.rel c9 HR1.out.kall rfl rfl (HCSN.out))
                     clear hb c9 k9 s9 hid9 hja9)
                  | (go_at_call 17; refine HID.out.mono ?_; rintro e w9 ⟨rfl, rfl⟩)
                  | (go_at_call 18; refine HYI.out.mono ?_; rintro e w9 ⟨rfl, rfl⟩)
                  | (go_at_call 19; refine HJA.out.mono ?_; rintro e w9 ⟨rfl, rfl⟩)
                  | (go_at_call 20; refine HYJ.out.mono ?_; rintro e w9 ⟨rfl, rfl⟩))
                all_goals
                  go_roundg (gk - 1)
                  case measure => omega
                  case rel => exact ⟨i + 1, _, _, _, _, by omega, by go_num, HRELN⟩
              · have HKG := Lib.hid HR1.out.kg
                have HRT := Lib.hid hrt
                clear hrt
                have hst := con_step u hu HR1.out.con HR1.out.cs (by omega) wa wd true hwant 2 2 (by rw [HR1.out.kn, HR1.out.kf, HR1.out.ks]; exact hwh) Ki false (Or.inl ⟨rfl, by simp [wrK, tellK], by simp [wrQ, tellQ, hbit]⟩)
                rw [HR1.out.kg, HR1.out.kz] at hst
                have HST := Lib.hid hst
                have HWL : Hid (∀ W, Calls Tryz.prog 13 #[.agg #[.int .i64 8, .int .i64 nb, .int .i64 ek, .int .i64 fk, .int .i64 sk, .slice (some ⟨rb, 0, none⟩) (nb * 256) (nb * 256)], .agg #[.int .u8 Ki.br, .int .u8 Ki.bf], .int .u16 wa] W fun x w' => x = .returned (.agg #[.int .i64 2, .int .i64 2]) ∧ Below W.heap.size W w') := Lib.hid (fun W => by
                  have z := OwnGeo.where_any nb ek fk sk Ki.br Ki.bf wa (some ⟨rb, 0, none⟩) (nb * 256) (nb * 256) W hnb0 hnb1 hgm HR1.out.con.ok.br HR1.out.con.ok.bf hwok.1.1 hwok.1.2
                  rw [hwh] at z
                  exact z)
                have HWANT := Lib.hid hwant
                have HSR := Lib.hid hrng
                clear hst hwant hwok hwh hgm hrng hnb0 hnb1
                go_wp2_with (first
                  | (go_at_call 11
                     refine HST.out.mono ?_
                     rintro e w1 ⟨v, rfl, hv, hvw, hvr, b, hqb, τ1, h1, g1⟩
                     have hv0 : wd = v := (hvw rfl).symm
                     subst hv0
                     obtain ⟨cn, hcn⟩ : ∃ cn, cn = (stepS c pl (pl[c.at_]'HR1.out.cs.lt).2 wd b).1 := ⟨_, rfl⟩
                     obtain ⟨pn, hpn⟩ : ∃ pn, pn = (stepS c pl (pl[c.at_]'HR1.out.cs.lt).2 wd b).2 := ⟨_, rfl⟩
                     rw [← hcn, ← hpn] at h1
                     have HCN := Lib.hid hcn
                     have HPN := Lib.hid hpn
                     obtain ⟨W1, hW1⟩ : ∃ W1, W1 = w1.alloc (.cells #[.int .u16 wa, .int .u8 wd, .bool true] 44) := ⟨_, rfl⟩
                     have bel1 : Below w1.heap.size w1 W1 := by
                       rw [hW1]
                       exact (Below.refl _ _).alloc (Nat.le_refl _) _
                     have B17 : Blk W1 w1.heap.size 44 #[.int .u16 wa, .int .u8 wd, .bool true] := by
                       rw [hW1]
                       exact Blk.new _ _ _
                     obtain ⟨c1, k1⟩ := con_garb h1 bel1
                     have s1 := HR1.out.side.goes (g1.trans k1)
                     have HV := Lib.hid hv
                     have HW1 := Lib.hid hW1
                     have C1 := Lib.hid c1
                     have S1 := Lib.hid s1
                     have LB17 := Lib.hid B17
                     have HNX := Lib.hid (next_at s1.cpu HR1.out.cs HWANT.out)
                     have p0 : W1.cell? ⟨w1.heap.size, 0, none⟩ = some (.int .u16 wa) := (B17.cell 0).trans rfl
                     have p1 : W1.cell? ⟨w1.heap.size, 1, none⟩ = some (.int .u8 wd) := (B17.cell 1).trans rfl
                     have p2 : W1.cell? ⟨w1.heap.size, 2, none⟩ = some (.bool true) := (B17.cell 2).trans rfl
                     have hs1 : W1.drew.cell? ⟨w1.heap.size, 0, none⟩ = some (.int .u16 wa) ∧ W1.drew.cell? ⟨w1.heap.size, 1, none⟩ = some (.int .u8 wd) ∧ W1.drew.cell? ⟨w1.heap.size, 2, none⟩ = some (.bool true) := ⟨p0, p1, p2⟩
                     have T17 := Lib.hid (show retag τ1 w1.heap.size 10 w1.heap.size = 10 from if_neg (Nat.lt_irrefl _))
                     clear hv hvw hvr hqb h1 g1 bel1 B17 c1 k1 s1 hW1 hcn hpn p0 p1 p2))
                rw [← HW1.out]
                go_region_held3 (fun w' => w'.cell? ⟨w1.heap.size, 0, none⟩ = some (.int .u16 wa) ∧ w'.cell? ⟨w1.heap.size, 1, none⟩ = some (.int .u8 wd) ∧ w'.cell? ⟨w1.heap.size, 2, none⟩ = some (.bool true)) (first | (with_reducible exact hs2) | (with_reducible exact hs1) | go_keep)
                  (first
                    | (go_at_call 12
                       refine HNX.out.mono ?_
                       rintro e w2 ⟨rfl, hb⟩
                       obtain ⟨c2, k2⟩ := con_garb C1.out hb
                       have s2 := S1.out.goes k2
                       have f17 := k2.far (by have := T17.out; omega) LB17.out
                       have hs2 : w2.cell? ⟨w1.heap.size, 0, none⟩ = some (.int .u16 wa) ∧ w2.cell? ⟨w1.heap.size, 1, none⟩ = some (.int .u8 wd) ∧ w2.cell? ⟨w1.heap.size, 2, none⟩ = some (.bool true) := ⟨(f17.1.cell 0).trans rfl, (f17.1.cell 1).trans rfl, (f17.1.cell 2).trans rfl⟩
                       have C2 := Lib.hid c2
                       have S2 := Lib.hid s2
                       have F17 := Lib.hid f17
                       clear hb c2 k2 s2 f17))
                have t0 : w2.cell? ⟨tc, 0, none⟩ = some (.int .i64 8) := (S2.out.cart.cell 0).trans rfl
                have t1 : w2.cell? ⟨tc, 1, none⟩ = some (.int .i64 nb) := (S2.out.cart.cell 1).trans rfl
                have t2 : w2.cell? ⟨tc, 2, none⟩ = some (.int .i64 ek) := (S2.out.cart.cell 2).trans rfl
                have t3 : w2.cell? ⟨tc, 3, none⟩ = some (.int .i64 fk) := (S2.out.cart.cell 3).trans rfl
                have t4 : w2.cell? ⟨tc, 4, none⟩ = some (.int .i64 sk) := (S2.out.cart.cell 4).trans rfl
                have t5 : w2.cell? ⟨tc, 5, none⟩ = some (.slice (some ⟨rb, 0, none⟩) (nb * 256) (nb * 256)) := (S2.out.cart.cell 5).trans rfl
                have u0 : w2.cell? ⟨tb, 0, none⟩ = some (.int .u8 Ki.br) := (S2.out.banks.cell 0).trans rfl
                have u1 : w2.cell? ⟨tb, 1, none⟩ = some (.int .u8 Ki.bf) := (S2.out.banks.cell 1).trans rfl
                have o0 := hs2.1
                clear hs1 hs2
                go_wp2_with (first
                  | (go_at_call 13
                     refine (HWL.out _).mono ?_
                     rintro e w3 ⟨rfl, hb⟩
                     obtain ⟨c3, k3⟩ := con_garb C2.out hb
                     have s3 := S2.out.goes k3
                     have f17 := k3.far F17.out.2 F17.out.1
                     have v2 : w3.cell? ⟨w1.heap.size, 2, none⟩ = some (.bool true) := (f17.1.cell 2).trans rfl
                     have v5 : w3.cell? ⟨tc, 5, none⟩ = some (.slice (some ⟨rb, 0, none⟩) (nb * 256) (nb * 256)) := (s3.cart.cell 5).trans rfl
                     have _ := HZ
                     have x0 : w3.cell? ⟨tb, 0, none⟩ = some (.int .u8 Ki.br) := (s3.banks.cell 0).trans rfl
                     have x1 : w3.cell? ⟨tb, 1, none⟩ = some (.int .u8 Ki.bf) := (s3.banks.cell 1).trans rfl
                     have y0 := s3.banks.frozen 0
                     have y1 := s3.banks.frozen 1
                     have hlb := s3.banks.lt
                     have hlc := s3.cart.lt
                     have hlr := s3.rom.1
                     have hl17 := f17.1.lt
                     have hbase := Lib.hid s3.base
                     have s5 := s3
                     have c5 := c3
                     have bel5 : Below w3.heap.size w3 (w3.alloc (.cells #[.int .i64 2, .int .i64 2] 51)) := (Below.refl _ _).alloc (Nat.le_refl _) _
                     obtain ⟨c6, k6⟩ := con_garb c5 bel5
                     have s6 := s5.goes k6
                     have _ := c6
                     have C6 := Lib.hid c6
                     have S6 := Lib.hid s6
                     clear hb c3 k3 s3 f17 s5 c5 bel5 c6 k6 s6))
                all_goals
                  go_ret
                  exact ⟨rfl, bel_trans hbase.out ((Below.refl _ _).alloc (Nat.le_refl _) _)⟩
            · by_cases s5 : sa = 5
              · subst s5
                have HRT := Lib.hid hrt
                clear hrt
                obtain ⟨Kn, hKn⟩ : ∃ Kn : KC, Kn = { Ki with br := wd, bf := Ki.bf } := ⟨_, rfl⟩
                have HKG := Lib.hid (show Kn.g = g by rw [hKn]; exact HR1.out.kg)
                have HKL := Lib.hid (show Kn.g = g ∧ Kn.e = ek ∧ Kn.f = fk ∧ Kn.s = sk ∧ Kn.nb = nb ∧ Kn.zs = zs by rw [hKn]; exact HR1.out.kall)
                have HKB := Lib.hid (show Kn.br = wd ∧ Kn.bf = Ki.bf by rw [hKn]; exact ⟨rfl, rfl⟩)
                have hst := con_step u hu HR1.out.con HR1.out.cs (by omega) wa wd true hwant 2 5 (by rw [HR1.out.kn, HR1.out.kf, HR1.out.ks]; exact hwh) Kn true (Or.inl ⟨rfl, by rw [hKn]; simp [wrK, tellK], by simp [wrQ, tellQ]⟩)
                rw [HR1.out.kg, HR1.out.kz] at hst
                have HST := Lib.hid hst
                have HWL : Hid (∀ W, Calls Tryz.prog 13 #[.agg #[.int .i64 8, .int .i64 nb, .int .i64 ek, .int .i64 fk, .int .i64 sk, .slice (some ⟨rb, 0, none⟩) (nb * 256) (nb * 256)], .agg #[.int .u8 Ki.br, .int .u8 Ki.bf], .int .u16 wa] W fun x w' => x = .returned (.agg #[.int .i64 2, .int .i64 5]) ∧ Below W.heap.size W w') := Lib.hid (fun W => by
                  have z := OwnGeo.where_any nb ek fk sk Ki.br Ki.bf wa (some ⟨rb, 0, none⟩) (nb * 256) (nb * 256) W hnb0 hnb1 hgm HR1.out.con.ok.br HR1.out.con.ok.bf hwok.1.1 hwok.1.2
                  rw [hwh] at z
                  exact z)
                have HWANT := Lib.hid hwant
                have HSR := Lib.hid hrng
                clear hKn hst hwant hwok hwh hgm hrng hnb0 hnb1
                go_wp2_with (first
                  | (go_at_call 11
                     refine HST.out.mono ?_
                     rintro e w1 ⟨v, rfl, hv, hvw, hvr, b, hqb, τ1, h1, g1⟩
                     have hv0 : wd = v := (hvw rfl).symm
                     subst hv0
                     have hb0 : b = false := hqb rfl
                     subst hb0
                     have HCSN0 := HR1.out.cs.step wd hv
                     obtain ⟨cn, hcn⟩ : ∃ cn, cn = (stepS c pl (pl[c.at_]'HR1.out.cs.lt).2 wd false).1 := ⟨_, rfl⟩
                     obtain ⟨pn, hpn⟩ : ∃ pn, pn = (stepS c pl (pl[c.at_]'HR1.out.cs.lt).2 wd false).2 := ⟨_, rfl⟩
                     rw [← hcn, ← hpn] at h1
                     rw [← hcn, ← hpn] at HCSN0
                     have HCSN := Lib.hid HCSN0
                     clear HCSN0
                     have HCN := Lib.hid hcn
                     have HPN := Lib.hid hpn
                     obtain ⟨W1, hW1⟩ : ∃ W1, W1 = w1.alloc (.cells #[.int .u16 wa, .int .u8 wd, .bool true] 44) := ⟨_, rfl⟩
                     have bel1 : Below w1.heap.size w1 W1 := by
                       rw [hW1]
                       exact (Below.refl _ _).alloc (Nat.le_refl _) _
                     have B17 : Blk W1 w1.heap.size 44 #[.int .u16 wa, .int .u8 wd, .bool true] := by
                       rw [hW1]
                       exact Blk.new _ _ _
                     obtain ⟨c1, k1⟩ := con_garb h1 bel1
                     have s1 := HR1.out.side.goes (g1.trans k1)
                     have HV := Lib.hid hv
                     have HW1 := Lib.hid hW1
                     have C1 := Lib.hid c1
                     have S1 := Lib.hid s1
                     have LB17 := Lib.hid B17
                     have HNX := Lib.hid (next_at s1.cpu HR1.out.cs HWANT.out)
                     have p0 : W1.cell? ⟨w1.heap.size, 0, none⟩ = some (.int .u16 wa) := (B17.cell 0).trans rfl
                     have p1 : W1.cell? ⟨w1.heap.size, 1, none⟩ = some (.int .u8 wd) := (B17.cell 1).trans rfl
                     have p2 : W1.cell? ⟨w1.heap.size, 2, none⟩ = some (.bool true) := (B17.cell 2).trans rfl
                     have hs1 : W1.drew.cell? ⟨w1.heap.size, 0, none⟩ = some (.int .u16 wa) ∧ W1.drew.cell? ⟨w1.heap.size, 1, none⟩ = some (.int .u8 wd) ∧ W1.drew.cell? ⟨w1.heap.size, 2, none⟩ = some (.bool true) := ⟨p0, p1, p2⟩
                     have T17 := Lib.hid (show retag τ1 w1.heap.size 10 w1.heap.size = 10 from if_neg (Nat.lt_irrefl _))
                     clear hv hvw hvr hqb h1 g1 bel1 B17 c1 k1 s1 hW1 hcn hpn p0 p1 p2))
                rw [← HW1.out]
                go_region_held3 (fun w' => w'.cell? ⟨w1.heap.size, 0, none⟩ = some (.int .u16 wa) ∧ w'.cell? ⟨w1.heap.size, 1, none⟩ = some (.int .u8 wd) ∧ w'.cell? ⟨w1.heap.size, 2, none⟩ = some (.bool true)) (first | (with_reducible exact hs2) | (with_reducible exact hs1) | go_keep)
                  (first
                    | (go_at_call 12
                       refine HNX.out.mono ?_
                       rintro e w2 ⟨rfl, hb⟩
                       obtain ⟨c2, k2⟩ := con_garb C1.out hb
                       have s2 := S1.out.goes k2
                       have f17 := k2.far (by have := T17.out; omega) LB17.out
                       have hs2 : w2.cell? ⟨w1.heap.size, 0, none⟩ = some (.int .u16 wa) ∧ w2.cell? ⟨w1.heap.size, 1, none⟩ = some (.int .u8 wd) ∧ w2.cell? ⟨w1.heap.size, 2, none⟩ = some (.bool true) := ⟨(f17.1.cell 0).trans rfl, (f17.1.cell 1).trans rfl, (f17.1.cell 2).trans rfl⟩
                       have C2 := Lib.hid c2
                       have S2 := Lib.hid s2
                       have F17 := Lib.hid f17
                       clear hb c2 k2 s2 f17))
                have t0 : w2.cell? ⟨tc, 0, none⟩ = some (.int .i64 8) := (S2.out.cart.cell 0).trans rfl
                have t1 : w2.cell? ⟨tc, 1, none⟩ = some (.int .i64 nb) := (S2.out.cart.cell 1).trans rfl
                have t2 : w2.cell? ⟨tc, 2, none⟩ = some (.int .i64 ek) := (S2.out.cart.cell 2).trans rfl
                have t3 : w2.cell? ⟨tc, 3, none⟩ = some (.int .i64 fk) := (S2.out.cart.cell 3).trans rfl
                have t4 : w2.cell? ⟨tc, 4, none⟩ = some (.int .i64 sk) := (S2.out.cart.cell 4).trans rfl
                have t5 : w2.cell? ⟨tc, 5, none⟩ = some (.slice (some ⟨rb, 0, none⟩) (nb * 256) (nb * 256)) := (S2.out.cart.cell 5).trans rfl
                have u0 : w2.cell? ⟨tb, 0, none⟩ = some (.int .u8 Ki.br) := (S2.out.banks.cell 0).trans rfl
                have u1 : w2.cell? ⟨tb, 1, none⟩ = some (.int .u8 Ki.bf) := (S2.out.banks.cell 1).trans rfl
                have o0 := hs2.1
                clear hs1 hs2
                go_wp2_with (first
                  | (go_at_call 13
                     refine (HWL.out _).mono ?_
                     rintro e w3 ⟨rfl, hb⟩
                     obtain ⟨c3, k3⟩ := con_garb C2.out hb
                     have s3 := S2.out.goes k3
                     have f17 := k3.far F17.out.2 F17.out.1
                     have v2 : w3.cell? ⟨w1.heap.size, 2, none⟩ = some (.bool true) := (f17.1.cell 2).trans rfl
                     have v5 : w3.cell? ⟨tc, 5, none⟩ = some (.slice (some ⟨rb, 0, none⟩) (nb * 256) (nb * 256)) := (s3.cart.cell 5).trans rfl
                     have _ := HZ
                     have x0 : w3.cell? ⟨tb, 0, none⟩ = some (.int .u8 Ki.br) := (s3.banks.cell 0).trans rfl
                     have x1 : w3.cell? ⟨tb, 1, none⟩ = some (.int .u8 Ki.bf) := (s3.banks.cell 1).trans rfl
                     have y0 := s3.banks.frozen 0
                     have y1 := s3.banks.frozen 1
                     have hlb := s3.banks.lt
                     have hlc := s3.cart.lt
                     have hlr := s3.rom.1
                     have hl17 := f17.1.lt
                     have hbase := Lib.hid s3.base
                     obtain ⟨s5, c5⟩ := s3.bank (x' := wd) (z' := Ki.bf) c3 (Kept.set (S := (· = tb)) tb 0 (.int .u8 wd) rfl) (s3.banks.set_ 0 _) (ne_type s3.cart s3.banks (by decide)) HRT.out
                     have bel5 : Below (w3.setCell ⟨tb, 0, none⟩ (.int .u8 wd)).heap.size (w3.setCell ⟨tb, 0, none⟩ (.int .u8 wd)) ((w3.setCell ⟨tb, 0, none⟩ (.int .u8 wd)).alloc (.cells #[.int .i64 2, .int .i64 5] 51)) := (Below.refl _ _).alloc (Nat.le_refl _) _
                     obtain ⟨c6, k6⟩ := con_garb c5 bel5
                     have s6 := s5.goes k6
                     have HYS := Lib.hid (y_step c6 s6.cpu HR1.out.cs (by omega) wd HV.out HCN.out HPN.out)
                     have C6 := Lib.hid c6
                     have S6 := Lib.hid s6
                     clear hb c3 k3 s3 f17 s5 c5 bel5 c6 k6 s6)
                  | (go_at_call 14
                     refine HYS.out.mono ?_
                     rintro e w6 ⟨rfl, q1, q2⟩
                     obtain ⟨s7, c7⟩ := S6.out.step C6.out q2 q1
                     have hrg := con_regs c7
                     rw [HKG.out] at hrg
                     simp only [Go.Proofs.YtifajfjiloajfaaGreatDoor.OwnEff.R.val] at hrg
                     have HRG := Lib.hid hrg
                     have C7 := Lib.hid c7
                     have S7 := Lib.hid s7
                     clear q1 q2 s7 c7 hrg)
                  | (go_at_call 15
                     refine HRG.out.mono ?_
                     rintro e w7 ⟨rfl, hb⟩
                     obtain ⟨c8, k8⟩ := con_garb C7.out hb
                     have s8 := S7.out.goes k8
                     have hyr := cin_regs s8.cpu
                     simp only [Go.Proofs.YtifajfjiloajfaaGreatDoor.OwnEff.R.val] at hyr
                     have HYR := Lib.hid hyr
                     have C8 := Lib.hid c8
                     have S8 := Lib.hid s8
                     clear hb c8 k8 s8 hyr)
                  | (go_at_call 16
                     refine HYR.out.mono ?_
                     rintro e w8 ⟨rfl, hb⟩
                     obtain ⟨c9, k9⟩ := con_garb C8.out hb
                     have s9 := S8.out.goes k9
                     have hid9 := con_idle c9
                     have hja9 := con_jammed c9
                     rw [HKG.out] at hid9 hja9
                     have HID := Lib.hid hid9
                     have HJA := Lib.hid hja9
                     have HYI := Lib.hid (cin_idle s9.cpu)
                     have HYJ := Lib.hid (cin_jammed s9.cpu)
                     have HRELN := Lib.hid (s9.rel c9 HKL.out HKB.out.1 HKB.out.2 (HCSN.out))
                     clear hb c9 k9 s9 hid9 hja9)
                  | (go_at_call 17; refine HID.out.mono ?_; rintro e w9 ⟨rfl, rfl⟩)
                  | (go_at_call 18; refine HYI.out.mono ?_; rintro e w9 ⟨rfl, rfl⟩)
                  | (go_at_call 19; refine HJA.out.mono ?_; rintro e w9 ⟨rfl, rfl⟩)
                  | (go_at_call 20; refine HYJ.out.mono ?_; rintro e w9 ⟨rfl, rfl⟩))
                all_goals
                  go_roundg (gk - 1)
                  case measure => omega
                  case rel => exact ⟨i + 1, _, _, _, _, by omega, by go_num, HRELN⟩
              · by_cases s7 : sa = 7
                · subst s7
                  have HRT := Lib.hid hrt
                  clear hrt
                  obtain ⟨Kn, hKn⟩ : ∃ Kn : KC, Kn = { Ki with br := Ki.br, bf := wd } := ⟨_, rfl⟩
                  have HKG := Lib.hid (show Kn.g = g by rw [hKn]; exact HR1.out.kg)
                  have HKL := Lib.hid (show Kn.g = g ∧ Kn.e = ek ∧ Kn.f = fk ∧ Kn.s = sk ∧ Kn.nb = nb ∧ Kn.zs = zs by rw [hKn]; exact HR1.out.kall)
                  have HKB := Lib.hid (show Kn.br = Ki.br ∧ Kn.bf = wd by rw [hKn]; exact ⟨rfl, rfl⟩)
                  have hst := con_step u hu HR1.out.con HR1.out.cs (by omega) wa wd true hwant 2 7 (by rw [HR1.out.kn, HR1.out.kf, HR1.out.ks]; exact hwh) Kn true (Or.inl ⟨rfl, by rw [hKn]; simp [wrK, tellK], by simp [wrQ, tellQ]⟩)
                  rw [HR1.out.kg, HR1.out.kz] at hst
                  have HST := Lib.hid hst
                  have HWL : Hid (∀ W, Calls Tryz.prog 13 #[.agg #[.int .i64 8, .int .i64 nb, .int .i64 ek, .int .i64 fk, .int .i64 sk, .slice (some ⟨rb, 0, none⟩) (nb * 256) (nb * 256)], .agg #[.int .u8 Ki.br, .int .u8 Ki.bf], .int .u16 wa] W fun x w' => x = .returned (.agg #[.int .i64 2, .int .i64 7]) ∧ Below W.heap.size W w') := Lib.hid (fun W => by
                    have z := OwnGeo.where_any nb ek fk sk Ki.br Ki.bf wa (some ⟨rb, 0, none⟩) (nb * 256) (nb * 256) W hnb0 hnb1 hgm HR1.out.con.ok.br HR1.out.con.ok.bf hwok.1.1 hwok.1.2
                    rw [hwh] at z
                    exact z)
                  have HWANT := Lib.hid hwant
                  have HSR := Lib.hid hrng
                  clear hKn hst hwant hwok hwh hgm hrng hnb0 hnb1
                  go_wp2_with (first
                    | (go_at_call 11
                       refine HST.out.mono ?_
                       rintro e w1 ⟨v, rfl, hv, hvw, hvr, b, hqb, τ1, h1, g1⟩
                       have hv0 : wd = v := (hvw rfl).symm
                       subst hv0
                       have hb0 : b = false := hqb rfl
                       subst hb0
                       have HCSN0 := HR1.out.cs.step wd hv
                       obtain ⟨cn, hcn⟩ : ∃ cn, cn = (stepS c pl (pl[c.at_]'HR1.out.cs.lt).2 wd false).1 := ⟨_, rfl⟩
                       obtain ⟨pn, hpn⟩ : ∃ pn, pn = (stepS c pl (pl[c.at_]'HR1.out.cs.lt).2 wd false).2 := ⟨_, rfl⟩
                       rw [← hcn, ← hpn] at h1
                       rw [← hcn, ← hpn] at HCSN0
                       have HCSN := Lib.hid HCSN0
                       clear HCSN0
                       have HCN := Lib.hid hcn
                       have HPN := Lib.hid hpn
                       obtain ⟨W1, hW1⟩ : ∃ W1, W1 = w1.alloc (.cells #[.int .u16 wa, .int .u8 wd, .bool true] 44) := ⟨_, rfl⟩
                       have bel1 : Below w1.heap.size w1 W1 := by
                         rw [hW1]
                         exact (Below.refl _ _).alloc (Nat.le_refl _) _
                       have B17 : Blk W1 w1.heap.size 44 #[.int .u16 wa, .int .u8 wd, .bool true] := by
                         rw [hW1]
                         exact Blk.new _ _ _
                       obtain ⟨c1, k1⟩ := con_garb h1 bel1
                       have s1 := HR1.out.side.goes (g1.trans k1)
                       have HV := Lib.hid hv
                       have HW1 := Lib.hid hW1
                       have C1 := Lib.hid c1
                       have S1 := Lib.hid s1
                       have LB17 := Lib.hid B17
                       have HNX := Lib.hid (next_at s1.cpu HR1.out.cs HWANT.out)
                       have p0 : W1.cell? ⟨w1.heap.size, 0, none⟩ = some (.int .u16 wa) := (B17.cell 0).trans rfl
                       have p1 : W1.cell? ⟨w1.heap.size, 1, none⟩ = some (.int .u8 wd) := (B17.cell 1).trans rfl
                       have p2 : W1.cell? ⟨w1.heap.size, 2, none⟩ = some (.bool true) := (B17.cell 2).trans rfl
                       have hs1 : W1.drew.cell? ⟨w1.heap.size, 0, none⟩ = some (.int .u16 wa) ∧ W1.drew.cell? ⟨w1.heap.size, 1, none⟩ = some (.int .u8 wd) ∧ W1.drew.cell? ⟨w1.heap.size, 2, none⟩ = some (.bool true) := ⟨p0, p1, p2⟩
                       have T17 := Lib.hid (show retag τ1 w1.heap.size 10 w1.heap.size = 10 from if_neg (Nat.lt_irrefl _))
                       clear hv hvw hvr hqb h1 g1 bel1 B17 c1 k1 s1 hW1 hcn hpn p0 p1 p2))
                  rw [← HW1.out]
                  go_region_held3 (fun w' => w'.cell? ⟨w1.heap.size, 0, none⟩ = some (.int .u16 wa) ∧ w'.cell? ⟨w1.heap.size, 1, none⟩ = some (.int .u8 wd) ∧ w'.cell? ⟨w1.heap.size, 2, none⟩ = some (.bool true)) (first | (with_reducible exact hs2) | (with_reducible exact hs1) | go_keep)
                    (first
                      | (go_at_call 12
                         refine HNX.out.mono ?_
                         rintro e w2 ⟨rfl, hb⟩
                         obtain ⟨c2, k2⟩ := con_garb C1.out hb
                         have s2 := S1.out.goes k2
                         have f17 := k2.far (by have := T17.out; omega) LB17.out
                         have hs2 : w2.cell? ⟨w1.heap.size, 0, none⟩ = some (.int .u16 wa) ∧ w2.cell? ⟨w1.heap.size, 1, none⟩ = some (.int .u8 wd) ∧ w2.cell? ⟨w1.heap.size, 2, none⟩ = some (.bool true) := ⟨(f17.1.cell 0).trans rfl, (f17.1.cell 1).trans rfl, (f17.1.cell 2).trans rfl⟩
                         have C2 := Lib.hid c2
                         have S2 := Lib.hid s2
                         have F17 := Lib.hid f17
                         clear hb c2 k2 s2 f17))
                  have t0 : w2.cell? ⟨tc, 0, none⟩ = some (.int .i64 8) := (S2.out.cart.cell 0).trans rfl
                  have t1 : w2.cell? ⟨tc, 1, none⟩ = some (.int .i64 nb) := (S2.out.cart.cell 1).trans rfl
                  have t2 : w2.cell? ⟨tc, 2, none⟩ = some (.int .i64 ek) := (S2.out.cart.cell 2).trans rfl
                  have t3 : w2.cell? ⟨tc, 3, none⟩ = some (.int .i64 fk) := (S2.out.cart.cell 3).trans rfl
                  have t4 : w2.cell? ⟨tc, 4, none⟩ = some (.int .i64 sk) := (S2.out.cart.cell 4).trans rfl
                  have t5 : w2.cell? ⟨tc, 5, none⟩ = some (.slice (some ⟨rb, 0, none⟩) (nb * 256) (nb * 256)) := (S2.out.cart.cell 5).trans rfl
                  have u0 : w2.cell? ⟨tb, 0, none⟩ = some (.int .u8 Ki.br) := (S2.out.banks.cell 0).trans rfl
                  have u1 : w2.cell? ⟨tb, 1, none⟩ = some (.int .u8 Ki.bf) := (S2.out.banks.cell 1).trans rfl
                  have o0 := hs2.1
                  clear hs1 hs2
                  go_wp2_with (first
                    | (go_at_call 13
                       refine (HWL.out _).mono ?_
                       rintro e w3 ⟨rfl, hb⟩
                       obtain ⟨c3, k3⟩ := con_garb C2.out hb
                       have s3 := S2.out.goes k3
                       have f17 := k3.far F17.out.2 F17.out.1
                       have v2 : w3.cell? ⟨w1.heap.size, 2, none⟩ = some (.bool true) := (f17.1.cell 2).trans rfl
                       have v5 : w3.cell? ⟨tc, 5, none⟩ = some (.slice (some ⟨rb, 0, none⟩) (nb * 256) (nb * 256)) := (s3.cart.cell 5).trans rfl
                       have _ := HZ
                       have x0 : w3.cell? ⟨tb, 0, none⟩ = some (.int .u8 Ki.br) := (s3.banks.cell 0).trans rfl
                       have x1 : w3.cell? ⟨tb, 1, none⟩ = some (.int .u8 Ki.bf) := (s3.banks.cell 1).trans rfl
                       have y0 := s3.banks.frozen 0
                       have y1 := s3.banks.frozen 1
                       have hlb := s3.banks.lt
                       have hlc := s3.cart.lt
                       have hlr := s3.rom.1
                       have hl17 := f17.1.lt
                       have hbase := Lib.hid s3.base
                       obtain ⟨s5, c5⟩ := s3.bank (x' := Ki.br) (z' := wd) c3 (Kept.set (S := (· = tb)) tb 1 (.int .u8 wd) rfl) (s3.banks.set_ 1 _) (ne_type s3.cart s3.banks (by decide)) HRT.out
                       have bel5 : Below (w3.setCell ⟨tb, 1, none⟩ (.int .u8 wd)).heap.size (w3.setCell ⟨tb, 1, none⟩ (.int .u8 wd)) ((w3.setCell ⟨tb, 1, none⟩ (.int .u8 wd)).alloc (.cells #[.int .i64 2, .int .i64 7] 51)) := (Below.refl _ _).alloc (Nat.le_refl _) _
                       obtain ⟨c6, k6⟩ := con_garb c5 bel5
                       have s6 := s5.goes k6
                       have HYS := Lib.hid (y_step c6 s6.cpu HR1.out.cs (by omega) wd HV.out HCN.out HPN.out)
                       have C6 := Lib.hid c6
                       have S6 := Lib.hid s6
                       clear hb c3 k3 s3 f17 s5 c5 bel5 c6 k6 s6)
                    | (go_at_call 14
                       refine HYS.out.mono ?_
                       rintro e w6 ⟨rfl, q1, q2⟩
                       obtain ⟨s7, c7⟩ := S6.out.step C6.out q2 q1
                       have hrg := con_regs c7
                       rw [HKG.out] at hrg
                       simp only [Go.Proofs.YtifajfjiloajfaaGreatDoor.OwnEff.R.val] at hrg
                       have HRG := Lib.hid hrg
                       have C7 := Lib.hid c7
                       have S7 := Lib.hid s7
                       clear q1 q2 s7 c7 hrg)
                    | (go_at_call 15
                       refine HRG.out.mono ?_
                       rintro e w7 ⟨rfl, hb⟩
                       obtain ⟨c8, k8⟩ := con_garb C7.out hb
                       have s8 := S7.out.goes k8
                       have hyr := cin_regs s8.cpu
                       simp only [Go.Proofs.YtifajfjiloajfaaGreatDoor.OwnEff.R.val] at hyr
                       have HYR := Lib.hid hyr
                       have C8 := Lib.hid c8
                       have S8 := Lib.hid s8
                       clear hb c8 k8 s8 hyr)
                    | (go_at_call 16
                       refine HYR.out.mono ?_
                       rintro e w8 ⟨rfl, hb⟩
                       obtain ⟨c9, k9⟩ := con_garb C8.out hb
                       have s9 := S8.out.goes k9
                       have hid9 := con_idle c9
                       have hja9 := con_jammed c9
                       rw [HKG.out] at hid9 hja9
                       have HID := Lib.hid hid9
                       have HJA := Lib.hid hja9
                       have HYI := Lib.hid (cin_idle s9.cpu)
                       have HYJ := Lib.hid (cin_jammed s9.cpu)
                       have HRELN := Lib.hid (s9.rel c9 HKL.out HKB.out.1 HKB.out.2 (HCSN.out))
                       clear hb c9 k9 s9 hid9 hja9)
                    | (go_at_call 17; refine HID.out.mono ?_; rintro e w9 ⟨rfl, rfl⟩)
                    | (go_at_call 18; refine HYI.out.mono ?_; rintro e w9 ⟨rfl, rfl⟩)
                    | (go_at_call 19; refine HJA.out.mono ?_; rintro e w9 ⟨rfl, rfl⟩)
                    | (go_at_call 20; refine HYJ.out.mono ?_; rintro e w9 ⟨rfl, rfl⟩))
                  all_goals
                    go_roundg (gk - 1)
                    case measure => omega
                    case rel => exact ⟨i + 1, _, _, _, _, by omega, by go_num, HRELN⟩
                · have q2 : ((sa : Int) == 2) = false := by simp; omega
                  have q5 : ((sa : Int) == 5) = false := by simp; omega
                  have q7 : ((sa : Int) == 7) = false := by simp; omega
                  have z2 : ¬ (sa : Int) = 2 := by omega
                  have z5 : ¬ (sa : Int) = 5 := by omega
                  have z7 : ¬ (sa : Int) = 7 := by omega
                  clear s2 s5 s7
                  have HKG := Lib.hid HR1.out.kg
                  have HRT := Lib.hid hrt
                  clear hrt
                  have hst := con_step u hu HR1.out.con HR1.out.cs (by omega) wa wd true hwant 2 sa (by rw [HR1.out.kn, HR1.out.kf, HR1.out.ks]; exact hwh) Ki true (Or.inl ⟨rfl, by simp [wrK, tellK, z5, z7], by simp [wrQ, tellQ, z2]⟩)
                  rw [HR1.out.kg, HR1.out.kz] at hst
                  have HST := Lib.hid hst
                  have HWL : Hid (∀ W, Calls Tryz.prog 13 #[.agg #[.int .i64 8, .int .i64 nb, .int .i64 ek, .int .i64 fk, .int .i64 sk, .slice (some ⟨rb, 0, none⟩) (nb * 256) (nb * 256)], .agg #[.int .u8 Ki.br, .int .u8 Ki.bf], .int .u16 wa] W fun x w' => x = .returned (.agg #[.int .i64 2, .int .i64 (sa : Int)]) ∧ Below W.heap.size W w') := Lib.hid (fun W => by
                    have z := OwnGeo.where_any nb ek fk sk Ki.br Ki.bf wa (some ⟨rb, 0, none⟩) (nb * 256) (nb * 256) W hnb0 hnb1 hgm HR1.out.con.ok.br HR1.out.con.ok.bf hwok.1.1 hwok.1.2
                    rw [hwh] at z
                    exact z)
                  have HWANT := Lib.hid hwant
                  have HSR := Lib.hid hrng
                  clear hst hwant hwok hwh hgm hrng hnb0 hnb1
                  go_wp2_with (first
                    | (go_at_call 11
                       refine HST.out.mono ?_
                       rintro e w1 ⟨v, rfl, hv, hvw, hvr, b, hqb, τ1, h1, g1⟩
                       have hv0 : wd = v := (hvw rfl).symm
                       subst hv0
                       have hb0 : b = false := hqb rfl
                       subst hb0
                       have HCSN0 := HR1.out.cs.step wd hv
                       obtain ⟨cn, hcn⟩ : ∃ cn, cn = (stepS c pl (pl[c.at_]'HR1.out.cs.lt).2 wd false).1 := ⟨_, rfl⟩
                       obtain ⟨pn, hpn⟩ : ∃ pn, pn = (stepS c pl (pl[c.at_]'HR1.out.cs.lt).2 wd false).2 := ⟨_, rfl⟩
                       rw [← hcn, ← hpn] at h1
                       rw [← hcn, ← hpn] at HCSN0
                       have HCSN := Lib.hid HCSN0
                       clear HCSN0
                       have HCN := Lib.hid hcn
                       have HPN := Lib.hid hpn
                       obtain ⟨W1, hW1⟩ : ∃ W1, W1 = w1.alloc (.cells #[.int .u16 wa, .int .u8 wd, .bool true] 44) := ⟨_, rfl⟩
                       have bel1 : Below w1.heap.size w1 W1 := by
                         rw [hW1]
                         exact (Below.refl _ _).alloc (Nat.le_refl _) _
                       have B17 : Blk W1 w1.heap.size 44 #[.int .u16 wa, .int .u8 wd, .bool true] := by
                         rw [hW1]
                         exact Blk.new _ _ _
                       obtain ⟨c1, k1⟩ := con_garb h1 bel1
                       have s1 := HR1.out.side.goes (g1.trans k1)
                       have HV := Lib.hid hv
                       have HW1 := Lib.hid hW1
                       have C1 := Lib.hid c1
                       have S1 := Lib.hid s1
                       have LB17 := Lib.hid B17
                       have HNX := Lib.hid (next_at s1.cpu HR1.out.cs HWANT.out)
                       have p0 : W1.cell? ⟨w1.heap.size, 0, none⟩ = some (.int .u16 wa) := (B17.cell 0).trans rfl
                       have p1 : W1.cell? ⟨w1.heap.size, 1, none⟩ = some (.int .u8 wd) := (B17.cell 1).trans rfl
                       have p2 : W1.cell? ⟨w1.heap.size, 2, none⟩ = some (.bool true) := (B17.cell 2).trans rfl
                       have hs1 : W1.drew.cell? ⟨w1.heap.size, 0, none⟩ = some (.int .u16 wa) ∧ W1.drew.cell? ⟨w1.heap.size, 1, none⟩ = some (.int .u8 wd) ∧ W1.drew.cell? ⟨w1.heap.size, 2, none⟩ = some (.bool true) := ⟨p0, p1, p2⟩
                       have T17 := Lib.hid (show retag τ1 w1.heap.size 10 w1.heap.size = 10 from if_neg (Nat.lt_irrefl _))
                       clear hv hvw hvr hqb h1 g1 bel1 B17 c1 k1 s1 hW1 hcn hpn p0 p1 p2))
                  rw [← HW1.out]
                  go_region_held3 (fun w' => w'.cell? ⟨w1.heap.size, 0, none⟩ = some (.int .u16 wa) ∧ w'.cell? ⟨w1.heap.size, 1, none⟩ = some (.int .u8 wd) ∧ w'.cell? ⟨w1.heap.size, 2, none⟩ = some (.bool true)) (first | (with_reducible exact hs2) | (with_reducible exact hs1) | go_keep)
                    (first
                      | (go_at_call 12
                         refine HNX.out.mono ?_
                         rintro e w2 ⟨rfl, hb⟩
                         obtain ⟨c2, k2⟩ := con_garb C1.out hb
                         have s2 := S1.out.goes k2
                         have f17 := k2.far (by have := T17.out; omega) LB17.out
                         have hs2 : w2.cell? ⟨w1.heap.size, 0, none⟩ = some (.int .u16 wa) ∧ w2.cell? ⟨w1.heap.size, 1, none⟩ = some (.int .u8 wd) ∧ w2.cell? ⟨w1.heap.size, 2, none⟩ = some (.bool true) := ⟨(f17.1.cell 0).trans rfl, (f17.1.cell 1).trans rfl, (f17.1.cell 2).trans rfl⟩
                         have C2 := Lib.hid c2
                         have S2 := Lib.hid s2
                         have F17 := Lib.hid f17
                         clear hb c2 k2 s2 f17))
                  have t0 : w2.cell? ⟨tc, 0, none⟩ = some (.int .i64 8) := (S2.out.cart.cell 0).trans rfl
                  have t1 : w2.cell? ⟨tc, 1, none⟩ = some (.int .i64 nb) := (S2.out.cart.cell 1).trans rfl
                  have t2 : w2.cell? ⟨tc, 2, none⟩ = some (.int .i64 ek) := (S2.out.cart.cell 2).trans rfl
                  have t3 : w2.cell? ⟨tc, 3, none⟩ = some (.int .i64 fk) := (S2.out.cart.cell 3).trans rfl
                  have t4 : w2.cell? ⟨tc, 4, none⟩ = some (.int .i64 sk) := (S2.out.cart.cell 4).trans rfl
                  have t5 : w2.cell? ⟨tc, 5, none⟩ = some (.slice (some ⟨rb, 0, none⟩) (nb * 256) (nb * 256)) := (S2.out.cart.cell 5).trans rfl
                  have u0 : w2.cell? ⟨tb, 0, none⟩ = some (.int .u8 Ki.br) := (S2.out.banks.cell 0).trans rfl
                  have u1 : w2.cell? ⟨tb, 1, none⟩ = some (.int .u8 Ki.bf) := (S2.out.banks.cell 1).trans rfl
                  have o0 := hs2.1
                  clear hs1 hs2
                  go_wp2_with (first
                    | (go_at_call 13
                       refine (HWL.out _).mono ?_
                       rintro e w3 ⟨rfl, hb⟩
                       obtain ⟨c3, k3⟩ := con_garb C2.out hb
                       have s3 := S2.out.goes k3
                       have f17 := k3.far F17.out.2 F17.out.1
                       have v2 : w3.cell? ⟨w1.heap.size, 2, none⟩ = some (.bool true) := (f17.1.cell 2).trans rfl
                       have v5 : w3.cell? ⟨tc, 5, none⟩ = some (.slice (some ⟨rb, 0, none⟩) (nb * 256) (nb * 256)) := (s3.cart.cell 5).trans rfl
                       have _ := HZ
                       have x0 : w3.cell? ⟨tb, 0, none⟩ = some (.int .u8 Ki.br) := (s3.banks.cell 0).trans rfl
                       have x1 : w3.cell? ⟨tb, 1, none⟩ = some (.int .u8 Ki.bf) := (s3.banks.cell 1).trans rfl
                       have y0 := s3.banks.frozen 0
                       have y1 := s3.banks.frozen 1
                       have hlb := s3.banks.lt
                       have hlc := s3.cart.lt
                       have hlr := s3.rom.1
                       have hl17 := f17.1.lt
                       have hbase := Lib.hid s3.base
                       have s5 := s3
                       have c5 := c3
                       have bel5 : Below w3.heap.size w3 (w3.alloc (.cells #[.int .i64 2, .int .i64 (sa : Int)] 51)) := (Below.refl _ _).alloc (Nat.le_refl _) _
                       obtain ⟨c6, k6⟩ := con_garb c5 bel5
                       have s6 := s5.goes k6
                       have HYS := Lib.hid (y_step c6 s6.cpu HR1.out.cs (by omega) wd HV.out HCN.out HPN.out)
                       have C6 := Lib.hid c6
                       have S6 := Lib.hid s6
                       clear hb c3 k3 s3 f17 s5 c5 bel5 c6 k6 s6)
                    | (go_at_call 14
                       refine HYS.out.mono ?_
                       rintro e w6 ⟨rfl, q1, q2⟩
                       obtain ⟨s7, c7⟩ := S6.out.step C6.out q2 q1
                       have hrg := con_regs c7
                       rw [HKG.out] at hrg
                       simp only [Go.Proofs.YtifajfjiloajfaaGreatDoor.OwnEff.R.val] at hrg
                       have HRG := Lib.hid hrg
                       have C7 := Lib.hid c7
                       have S7 := Lib.hid s7
                       clear q1 q2 s7 c7 hrg)
                    | (go_at_call 15
                       refine HRG.out.mono ?_
                       rintro e w7 ⟨rfl, hb⟩
                       obtain ⟨c8, k8⟩ := con_garb C7.out hb
                       have s8 := S7.out.goes k8
                       have hyr := cin_regs s8.cpu
                       simp only [Go.Proofs.YtifajfjiloajfaaGreatDoor.OwnEff.R.val] at hyr
                       have HYR := Lib.hid hyr
                       have C8 := Lib.hid c8
                       have S8 := Lib.hid s8
                       clear hb c8 k8 s8 hyr)
                    | (go_at_call 16
                       refine HYR.out.mono ?_
                       rintro e w8 ⟨rfl, hb⟩
                       obtain ⟨c9, k9⟩ := con_garb C8.out hb
                       have s9 := S8.out.goes k9
                       have hid9 := con_idle c9
                       have hja9 := con_jammed c9
                       rw [HKG.out] at hid9 hja9
                       have HID := Lib.hid hid9
                       have HJA := Lib.hid hja9
                       have HYI := Lib.hid (cin_idle s9.cpu)
                       have HYJ := Lib.hid (cin_jammed s9.cpu)
                       have HRELN := Lib.hid (s9.rel c9 HR1.out.kall rfl rfl (HCSN.out))
                       clear hb c9 k9 s9 hid9 hja9)
                    | (go_at_call 17; refine HID.out.mono ?_; rintro e w9 ⟨rfl, rfl⟩)
                    | (go_at_call 18; refine HYI.out.mono ?_; rintro e w9 ⟨rfl, rfl⟩)
                    | (go_at_call 19; refine HJA.out.mono ?_; rintro e w9 ⟨rfl, rfl⟩)
                    | (go_at_call 20; refine HYJ.out.mono ?_; rintro e w9 ⟨rfl, rfl⟩))
                  all_goals
                    go_roundg (gk - 1)
                    case measure => omega
                    case rel => exact ⟨i + 1, _, _, _, _, by omega, by go_num, HRELN⟩
          · have h2b : (sr == 2) = false := by simpa using h2r
            have hrng := h2r
            by_cases h5q : sr = 5
            · subst h5q
              have HKG := Lib.hid HR1.out.kg
              have HRT := Lib.hid hrt
              clear hrt
              have hst := con_step u hu HR1.out.con HR1.out.cs (by omega) wa wd true hwant 5 sa (by rw [HR1.out.kn, HR1.out.kf, HR1.out.ks]; exact hwh) Ki true (Or.inl ⟨rfl, by simp [wrK], by simp [wrQ]⟩)
              rw [HR1.out.kg, HR1.out.kz] at hst
              have HST := Lib.hid hst
              have HWL : Hid (∀ W, Calls Tryz.prog 13 #[.agg #[.int .i64 8, .int .i64 nb, .int .i64 ek, .int .i64 fk, .int .i64 sk, .slice (some ⟨rb, 0, none⟩) (nb * 256) (nb * 256)], .agg #[.int .u8 Ki.br, .int .u8 Ki.bf], .int .u16 wa] W fun x w' => x = .returned (.agg #[.int .i64 5, .int .i64 (sa : Int)]) ∧ Below W.heap.size W w') := Lib.hid (fun W => by
                have z := OwnGeo.where_any nb ek fk sk Ki.br Ki.bf wa (some ⟨rb, 0, none⟩) (nb * 256) (nb * 256) W hnb0 hnb1 hgm HR1.out.con.ok.br HR1.out.con.ok.bf hwok.1.1 hwok.1.2
                rw [hwh] at z
                exact z)
              have HWANT := Lib.hid hwant
              have HSR := Lib.hid hrng
              clear hst hwant hwok hwh hgm hrng hnb0 hnb1
              go_wp2_with (first
                | (go_at_call 11
                   refine HST.out.mono ?_
                   rintro e w1 ⟨v, rfl, hv, hvw, hvr, b, hqb, τ1, h1, g1⟩
                   have hv0 : wd = v := (hvw rfl).symm
                   subst hv0
                   have hb0 : b = false := hqb rfl
                   subst hb0
                   have HCSN0 := HR1.out.cs.step wd hv
                   obtain ⟨cn, hcn⟩ : ∃ cn, cn = (stepS c pl (pl[c.at_]'HR1.out.cs.lt).2 wd false).1 := ⟨_, rfl⟩
                   obtain ⟨pn, hpn⟩ : ∃ pn, pn = (stepS c pl (pl[c.at_]'HR1.out.cs.lt).2 wd false).2 := ⟨_, rfl⟩
                   rw [← hcn, ← hpn] at h1
                   rw [← hcn, ← hpn] at HCSN0
                   have HCSN := Lib.hid HCSN0
                   clear HCSN0
                   have HCN := Lib.hid hcn
                   have HPN := Lib.hid hpn
                   obtain ⟨W1, hW1⟩ : ∃ W1, W1 = w1.alloc (.cells #[.int .u16 wa, .int .u8 wd, .bool true] 44) := ⟨_, rfl⟩
                   have bel1 : Below w1.heap.size w1 W1 := by
                     rw [hW1]
                     exact (Below.refl _ _).alloc (Nat.le_refl _) _
                   have B17 : Blk W1 w1.heap.size 44 #[.int .u16 wa, .int .u8 wd, .bool true] := by
                     rw [hW1]
                     exact Blk.new _ _ _
                   obtain ⟨c1, k1⟩ := con_garb h1 bel1
                   have s1 := HR1.out.side.goes (g1.trans k1)
                   have HV := Lib.hid hv
                   have HW1 := Lib.hid hW1
                   have C1 := Lib.hid c1
                   have S1 := Lib.hid s1
                   have LB17 := Lib.hid B17
                   have HNX := Lib.hid (next_at s1.cpu HR1.out.cs HWANT.out)
                   have p0 : W1.cell? ⟨w1.heap.size, 0, none⟩ = some (.int .u16 wa) := (B17.cell 0).trans rfl
                   have p1 : W1.cell? ⟨w1.heap.size, 1, none⟩ = some (.int .u8 wd) := (B17.cell 1).trans rfl
                   have p2 : W1.cell? ⟨w1.heap.size, 2, none⟩ = some (.bool true) := (B17.cell 2).trans rfl
                   have hs1 : W1.drew.cell? ⟨w1.heap.size, 0, none⟩ = some (.int .u16 wa) ∧ W1.drew.cell? ⟨w1.heap.size, 1, none⟩ = some (.int .u8 wd) ∧ W1.drew.cell? ⟨w1.heap.size, 2, none⟩ = some (.bool true) := ⟨p0, p1, p2⟩
                   have T17 := Lib.hid (show retag τ1 w1.heap.size 10 w1.heap.size = 10 from if_neg (Nat.lt_irrefl _))
                   clear hv hvw hvr hqb h1 g1 bel1 B17 c1 k1 s1 hW1 hcn hpn p0 p1 p2))
              rw [← HW1.out]
              go_region_held3 (fun w' => w'.cell? ⟨w1.heap.size, 0, none⟩ = some (.int .u16 wa) ∧ w'.cell? ⟨w1.heap.size, 1, none⟩ = some (.int .u8 wd) ∧ w'.cell? ⟨w1.heap.size, 2, none⟩ = some (.bool true)) (first | (with_reducible exact hs2) | (with_reducible exact hs1) | go_keep)
                (first
                  | (go_at_call 12
                     refine HNX.out.mono ?_
                     rintro e w2 ⟨rfl, hb⟩
                     obtain ⟨c2, k2⟩ := con_garb C1.out hb
                     have s2 := S1.out.goes k2
                     have f17 := k2.far (by have := T17.out; omega) LB17.out
                     have hs2 : w2.cell? ⟨w1.heap.size, 0, none⟩ = some (.int .u16 wa) ∧ w2.cell? ⟨w1.heap.size, 1, none⟩ = some (.int .u8 wd) ∧ w2.cell? ⟨w1.heap.size, 2, none⟩ = some (.bool true) := ⟨(f17.1.cell 0).trans rfl, (f17.1.cell 1).trans rfl, (f17.1.cell 2).trans rfl⟩
                     have C2 := Lib.hid c2
                     have S2 := Lib.hid s2
                     have F17 := Lib.hid f17
                     clear hb c2 k2 s2 f17))
              have t0 : w2.cell? ⟨tc, 0, none⟩ = some (.int .i64 8) := (S2.out.cart.cell 0).trans rfl
              have t1 : w2.cell? ⟨tc, 1, none⟩ = some (.int .i64 nb) := (S2.out.cart.cell 1).trans rfl
              have t2 : w2.cell? ⟨tc, 2, none⟩ = some (.int .i64 ek) := (S2.out.cart.cell 2).trans rfl
              have t3 : w2.cell? ⟨tc, 3, none⟩ = some (.int .i64 fk) := (S2.out.cart.cell 3).trans rfl
              have t4 : w2.cell? ⟨tc, 4, none⟩ = some (.int .i64 sk) := (S2.out.cart.cell 4).trans rfl
              have t5 : w2.cell? ⟨tc, 5, none⟩ = some (.slice (some ⟨rb, 0, none⟩) (nb * 256) (nb * 256)) := (S2.out.cart.cell 5).trans rfl
              have u0 : w2.cell? ⟨tb, 0, none⟩ = some (.int .u8 Ki.br) := (S2.out.banks.cell 0).trans rfl
              have u1 : w2.cell? ⟨tb, 1, none⟩ = some (.int .u8 Ki.bf) := (S2.out.banks.cell 1).trans rfl
              have o0 := hs2.1
              clear hs1 hs2
              go_wp2_with (first
                | (go_at_call 13
                   refine (HWL.out _).mono ?_
                   rintro e w3 ⟨rfl, hb⟩
                   obtain ⟨c3, k3⟩ := con_garb C2.out hb
                   have s3 := S2.out.goes k3
                   have f17 := k3.far F17.out.2 F17.out.1
                   have v2 : w3.cell? ⟨w1.heap.size, 2, none⟩ = some (.bool true) := (f17.1.cell 2).trans rfl
                   have v5 : w3.cell? ⟨tc, 5, none⟩ = some (.slice (some ⟨rb, 0, none⟩) (nb * 256) (nb * 256)) := (s3.cart.cell 5).trans rfl
                   have _ := HZ
                   have x0 : w3.cell? ⟨tb, 0, none⟩ = some (.int .u8 Ki.br) := (s3.banks.cell 0).trans rfl
                   have x1 : w3.cell? ⟨tb, 1, none⟩ = some (.int .u8 Ki.bf) := (s3.banks.cell 1).trans rfl
                   have y0 := s3.banks.frozen 0
                   have y1 := s3.banks.frozen 1
                   have hlb := s3.banks.lt
                   have hlc := s3.cart.lt
                   have hlr := s3.rom.1
                   have hl17 := f17.1.lt
                   have hbase := Lib.hid s3.base
                   have s5 := s3
                   have c5 := c3
                   have bel5 : Below w3.heap.size w3 (w3.alloc (.cells #[.int .i64 5, .int .i64 (sa : Int)] 51)) := (Below.refl _ _).alloc (Nat.le_refl _) _
                   obtain ⟨c6, k6⟩ := con_garb c5 bel5
                   have s6 := s5.goes k6
                   have HYS := Lib.hid (y_step c6 s6.cpu HR1.out.cs (by omega) wd HV.out HCN.out HPN.out)
                   have C6 := Lib.hid c6
                   have S6 := Lib.hid s6
                   clear hb c3 k3 s3 f17 s5 c5 bel5 c6 k6 s6)
                | (go_at_call 14
                   refine HYS.out.mono ?_
                   rintro e w6 ⟨rfl, q1, q2⟩
                   obtain ⟨s7, c7⟩ := S6.out.step C6.out q2 q1
                   have hrg := con_regs c7
                   rw [HKG.out] at hrg
                   simp only [Go.Proofs.YtifajfjiloajfaaGreatDoor.OwnEff.R.val] at hrg
                   have HRG := Lib.hid hrg
                   have C7 := Lib.hid c7
                   have S7 := Lib.hid s7
                   clear q1 q2 s7 c7 hrg)
                | (go_at_call 15
                   refine HRG.out.mono ?_
                   rintro e w7 ⟨rfl, hb⟩
                   obtain ⟨c8, k8⟩ := con_garb C7.out hb
                   have s8 := S7.out.goes k8
                   have hyr := cin_regs s8.cpu
                   simp only [Go.Proofs.YtifajfjiloajfaaGreatDoor.OwnEff.R.val] at hyr
                   have HYR := Lib.hid hyr
                   have C8 := Lib.hid c8
                   have S8 := Lib.hid s8
                   clear hb c8 k8 s8 hyr)
                | (go_at_call 16
                   refine HYR.out.mono ?_
                   rintro e w8 ⟨rfl, hb⟩
                   obtain ⟨c9, k9⟩ := con_garb C8.out hb
                   have s9 := S8.out.goes k9
                   have hid9 := con_idle c9
                   have hja9 := con_jammed c9
                   rw [HKG.out] at hid9 hja9
                   have HID := Lib.hid hid9
                   have HJA := Lib.hid hja9
                   have HYI := Lib.hid (cin_idle s9.cpu)
                   have HYJ := Lib.hid (cin_jammed s9.cpu)
                   have HRELN := Lib.hid (s9.rel c9 HR1.out.kall rfl rfl (HCSN.out))
                   clear hb c9 k9 s9 hid9 hja9)
                | (go_at_call 17; refine HID.out.mono ?_; rintro e w9 ⟨rfl, rfl⟩)
                | (go_at_call 18; refine HYI.out.mono ?_; rintro e w9 ⟨rfl, rfl⟩)
                | (go_at_call 19; refine HJA.out.mono ?_; rintro e w9 ⟨rfl, rfl⟩)
                | (go_at_call 20; refine HYJ.out.mono ?_; rintro e w9 ⟨rfl, rfl⟩))
              all_goals
                go_roundg (gk - 1)
                case measure => omega
                case rel => exact ⟨i + 1, _, _, _, _, by omega, by go_num, HRELN⟩
            · have h5b : (sr == 5) = false := by simpa using h5q
              clear h5q
              have HKG := Lib.hid HR1.out.kg
              have HRT := Lib.hid hrt
              clear hrt
              have hst := con_step u hu HR1.out.con HR1.out.cs (by omega) wa wd true hwant sr sa (by rw [HR1.out.kn, HR1.out.kf, HR1.out.ks]; exact hwh) Ki true (Or.inl ⟨rfl, by simp [wrK, h2r], by simp [wrQ, h2r]⟩)
              rw [HR1.out.kg, HR1.out.kz] at hst
              have HST := Lib.hid hst
              have HWL : Hid (∀ W, Calls Tryz.prog 13 #[.agg #[.int .i64 8, .int .i64 nb, .int .i64 ek, .int .i64 fk, .int .i64 sk, .slice (some ⟨rb, 0, none⟩) (nb * 256) (nb * 256)], .agg #[.int .u8 Ki.br, .int .u8 Ki.bf], .int .u16 wa] W fun x w' => x = .returned (.agg #[.int .i64 sr, .int .i64 (sa : Int)]) ∧ Below W.heap.size W w') := Lib.hid (fun W => by
                have z := OwnGeo.where_any nb ek fk sk Ki.br Ki.bf wa (some ⟨rb, 0, none⟩) (nb * 256) (nb * 256) W hnb0 hnb1 hgm HR1.out.con.ok.br HR1.out.con.ok.bf hwok.1.1 hwok.1.2
                rw [hwh] at z
                exact z)
              have HWANT := Lib.hid hwant
              have HSR := Lib.hid hrng
              clear hst hwant hwok hwh hgm hrng hnb0 hnb1
              go_wp2_with (first
                | (go_at_call 11
                   refine HST.out.mono ?_
                   rintro e w1 ⟨v, rfl, hv, hvw, hvr, b, hqb, τ1, h1, g1⟩
                   have hv0 : wd = v := (hvw rfl).symm
                   subst hv0
                   have hb0 : b = false := hqb rfl
                   subst hb0
                   have HCSN0 := HR1.out.cs.step wd hv
                   obtain ⟨cn, hcn⟩ : ∃ cn, cn = (stepS c pl (pl[c.at_]'HR1.out.cs.lt).2 wd false).1 := ⟨_, rfl⟩
                   obtain ⟨pn, hpn⟩ : ∃ pn, pn = (stepS c pl (pl[c.at_]'HR1.out.cs.lt).2 wd false).2 := ⟨_, rfl⟩
                   rw [← hcn, ← hpn] at h1
                   rw [← hcn, ← hpn] at HCSN0
                   have HCSN := Lib.hid HCSN0
                   clear HCSN0
                   have HCN := Lib.hid hcn
                   have HPN := Lib.hid hpn
                   obtain ⟨W1, hW1⟩ : ∃ W1, W1 = w1.alloc (.cells #[.int .u16 wa, .int .u8 wd, .bool true] 44) := ⟨_, rfl⟩
                   have bel1 : Below w1.heap.size w1 W1 := by
                     rw [hW1]
                     exact (Below.refl _ _).alloc (Nat.le_refl _) _
                   have B17 : Blk W1 w1.heap.size 44 #[.int .u16 wa, .int .u8 wd, .bool true] := by
                     rw [hW1]
                     exact Blk.new _ _ _
                   obtain ⟨c1, k1⟩ := con_garb h1 bel1
                   have s1 := HR1.out.side.goes (g1.trans k1)
                   have HV := Lib.hid hv
                   have HW1 := Lib.hid hW1
                   have C1 := Lib.hid c1
                   have S1 := Lib.hid s1
                   have LB17 := Lib.hid B17
                   have HNX := Lib.hid (next_at s1.cpu HR1.out.cs HWANT.out)
                   have p0 : W1.cell? ⟨w1.heap.size, 0, none⟩ = some (.int .u16 wa) := (B17.cell 0).trans rfl
                   have p1 : W1.cell? ⟨w1.heap.size, 1, none⟩ = some (.int .u8 wd) := (B17.cell 1).trans rfl
                   have p2 : W1.cell? ⟨w1.heap.size, 2, none⟩ = some (.bool true) := (B17.cell 2).trans rfl
                   have hs1 : W1.drew.cell? ⟨w1.heap.size, 0, none⟩ = some (.int .u16 wa) ∧ W1.drew.cell? ⟨w1.heap.size, 1, none⟩ = some (.int .u8 wd) ∧ W1.drew.cell? ⟨w1.heap.size, 2, none⟩ = some (.bool true) := ⟨p0, p1, p2⟩
                   have T17 := Lib.hid (show retag τ1 w1.heap.size 10 w1.heap.size = 10 from if_neg (Nat.lt_irrefl _))
                   clear hv hvw hvr hqb h1 g1 bel1 B17 c1 k1 s1 hW1 hcn hpn p0 p1 p2))
              rw [← HW1.out]
              go_region_held3 (fun w' => w'.cell? ⟨w1.heap.size, 0, none⟩ = some (.int .u16 wa) ∧ w'.cell? ⟨w1.heap.size, 1, none⟩ = some (.int .u8 wd) ∧ w'.cell? ⟨w1.heap.size, 2, none⟩ = some (.bool true)) (first | (with_reducible exact hs2) | (with_reducible exact hs1) | go_keep)
                (first
                  | (go_at_call 12
                     refine HNX.out.mono ?_
                     rintro e w2 ⟨rfl, hb⟩
                     obtain ⟨c2, k2⟩ := con_garb C1.out hb
                     have s2 := S1.out.goes k2
                     have f17 := k2.far (by have := T17.out; omega) LB17.out
                     have hs2 : w2.cell? ⟨w1.heap.size, 0, none⟩ = some (.int .u16 wa) ∧ w2.cell? ⟨w1.heap.size, 1, none⟩ = some (.int .u8 wd) ∧ w2.cell? ⟨w1.heap.size, 2, none⟩ = some (.bool true) := ⟨(f17.1.cell 0).trans rfl, (f17.1.cell 1).trans rfl, (f17.1.cell 2).trans rfl⟩
                     have C2 := Lib.hid c2
                     have S2 := Lib.hid s2
                     have F17 := Lib.hid f17
                     clear hb c2 k2 s2 f17))
              have t0 : w2.cell? ⟨tc, 0, none⟩ = some (.int .i64 8) := (S2.out.cart.cell 0).trans rfl
              have t1 : w2.cell? ⟨tc, 1, none⟩ = some (.int .i64 nb) := (S2.out.cart.cell 1).trans rfl
              have t2 : w2.cell? ⟨tc, 2, none⟩ = some (.int .i64 ek) := (S2.out.cart.cell 2).trans rfl
              have t3 : w2.cell? ⟨tc, 3, none⟩ = some (.int .i64 fk) := (S2.out.cart.cell 3).trans rfl
              have t4 : w2.cell? ⟨tc, 4, none⟩ = some (.int .i64 sk) := (S2.out.cart.cell 4).trans rfl
              have t5 : w2.cell? ⟨tc, 5, none⟩ = some (.slice (some ⟨rb, 0, none⟩) (nb * 256) (nb * 256)) := (S2.out.cart.cell 5).trans rfl
              have u0 : w2.cell? ⟨tb, 0, none⟩ = some (.int .u8 Ki.br) := (S2.out.banks.cell 0).trans rfl
              have u1 : w2.cell? ⟨tb, 1, none⟩ = some (.int .u8 Ki.bf) := (S2.out.banks.cell 1).trans rfl
              have o0 := hs2.1
              clear hs1 hs2
              go_wp2_with (first
                | (go_at_call 13
                   refine (HWL.out _).mono ?_
                   rintro e w3 ⟨rfl, hb⟩
                   obtain ⟨c3, k3⟩ := con_garb C2.out hb
                   have s3 := S2.out.goes k3
                   have f17 := k3.far F17.out.2 F17.out.1
                   have v2 : w3.cell? ⟨w1.heap.size, 2, none⟩ = some (.bool true) := (f17.1.cell 2).trans rfl
                   have v5 : w3.cell? ⟨tc, 5, none⟩ = some (.slice (some ⟨rb, 0, none⟩) (nb * 256) (nb * 256)) := (s3.cart.cell 5).trans rfl
                   have _ := HZ
                   have x0 : w3.cell? ⟨tb, 0, none⟩ = some (.int .u8 Ki.br) := (s3.banks.cell 0).trans rfl
                   have x1 : w3.cell? ⟨tb, 1, none⟩ = some (.int .u8 Ki.bf) := (s3.banks.cell 1).trans rfl
                   have y0 := s3.banks.frozen 0
                   have y1 := s3.banks.frozen 1
                   have hlb := s3.banks.lt
                   have hlc := s3.cart.lt
                   have hlr := s3.rom.1
                   have hl17 := f17.1.lt
                   have hbase := Lib.hid s3.base
                   have s5 := s3
                   have c5 := c3
                   have bel5 : Below w3.heap.size w3 (w3.alloc (.cells #[.int .i64 sr, .int .i64 (sa : Int)] 51)) := (Below.refl _ _).alloc (Nat.le_refl _) _
                   obtain ⟨c6, k6⟩ := con_garb c5 bel5
                   have s6 := s5.goes k6
                   have HYS := Lib.hid (y_step c6 s6.cpu HR1.out.cs (by omega) wd HV.out HCN.out HPN.out)
                   have C6 := Lib.hid c6
                   have S6 := Lib.hid s6
                   clear hb c3 k3 s3 f17 s5 c5 bel5 c6 k6 s6)
                | (go_at_call 14
                   refine HYS.out.mono ?_
                   rintro e w6 ⟨rfl, q1, q2⟩
                   obtain ⟨s7, c7⟩ := S6.out.step C6.out q2 q1
                   have hrg := con_regs c7
                   rw [HKG.out] at hrg
                   simp only [Go.Proofs.YtifajfjiloajfaaGreatDoor.OwnEff.R.val] at hrg
                   have HRG := Lib.hid hrg
                   have C7 := Lib.hid c7
                   have S7 := Lib.hid s7
                   clear q1 q2 s7 c7 hrg)
                | (go_at_call 15
                   refine HRG.out.mono ?_
                   rintro e w7 ⟨rfl, hb⟩
                   obtain ⟨c8, k8⟩ := con_garb C7.out hb
                   have s8 := S7.out.goes k8
                   have hyr := cin_regs s8.cpu
                   simp only [Go.Proofs.YtifajfjiloajfaaGreatDoor.OwnEff.R.val] at hyr
                   have HYR := Lib.hid hyr
                   have C8 := Lib.hid c8
                   have S8 := Lib.hid s8
                   clear hb c8 k8 s8 hyr)
                | (go_at_call 16
                   refine HYR.out.mono ?_
                   rintro e w8 ⟨rfl, hb⟩
                   obtain ⟨c9, k9⟩ := con_garb C8.out hb
                   have s9 := S8.out.goes k9
                   have hid9 := con_idle c9
                   have hja9 := con_jammed c9
                   rw [HKG.out] at hid9 hja9
                   have HID := Lib.hid hid9
                   have HJA := Lib.hid hja9
                   have HYI := Lib.hid (cin_idle s9.cpu)
                   have HYJ := Lib.hid (cin_jammed s9.cpu)
                   have HRELN := Lib.hid (s9.rel c9 HR1.out.kall rfl rfl (HCSN.out))
                   clear hb c9 k9 s9 hid9 hja9)
                | (go_at_call 17; refine HID.out.mono ?_; rintro e w9 ⟨rfl, rfl⟩)
                | (go_at_call 18; refine HYI.out.mono ?_; rintro e w9 ⟨rfl, rfl⟩)
                | (go_at_call 19; refine HJA.out.mono ?_; rintro e w9 ⟨rfl, rfl⟩)
                | (go_at_call 20; refine HYJ.out.mono ?_; rintro e w9 ⟨rfl, rfl⟩))
              all_goals
                go_roundg (gk - 1)
                case measure => omega
                case rel => exact ⟨i + 1, _, _, _, _, by omega, by go_num, HRELN⟩
      · obtain rfl : i = nn := by omega
        go_wp2
        go_ret
        exact ⟨rfl, HR1.out.base⟩
end Go.Proofs.YtifajfjiloajfaaGreatDoor.OwnCon

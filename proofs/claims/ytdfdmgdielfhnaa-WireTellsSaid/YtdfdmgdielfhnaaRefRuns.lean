/- The contract of the document's runs. Condition: the list is read as its cells. -/
import Derived.Test.YtdfdmgdielfhnaaRefEv
import Derived.Deep.RegionLaw
namespace Go.Proofs.Ytdfdmgdielfhnaa.Own
open Go.RowKit

/-- What is told, with the data's level. -/
def evp : Bool × Bool → List (Bool × Bool) → List (Int × Bool)
  | _, [] => []
  | x, y :: ys => (tell x y, y.2) :: evp y ys
def scanL (d : List Bool) : List (Int × Bool) → RunL
  | [] => (d, false)
  | p :: ps => if p.1 = 1 then (d, false) else if p.1 = 2 then (d, true) else if p.1 = 3 then scanL (d ++ [p.2]) ps else scanL d ps
def refR : List (Int × Bool) → List RunL
  | [] => []
  | p :: ps => if p.1 = 1 then scanL [] ps :: refR ps else refR ps
def foldR (s : List RunL × Bool) : List (Int × Bool) → List RunL × Bool
  | [] => s
  | p :: ps => foldR (rstep s p.1 p.2) ps
theorem runs_fold : ∀ (l : List (Bool × Bool)) (x : Bool × Bool) (s : List RunL × Bool), runs x s l = foldR s (evp x l)
  | [], _, _ => rfl
  | y :: ys, x, s => runs_fold ys y (rstep s (tell x y) y.2)
theorem fold_ref : ∀ (ps : List (Int × Bool)) (R : List RunL), (foldR (R, false) ps).1 = R ++ refR ps ∧ ∀ d, (foldR (R ++ [(d, false)], true) ps).1 = R ++ scanL d ps :: refR ps
  | [], R => by simp [foldR, refR, scanL]
  | p :: ps, R => by
    obtain ⟨e, b⟩ := p
    constructor
    · by_cases h1 : e = 1
      · subst h1
        have := (fold_ref ps R).2 []
        simpa [foldR, rstep, refR] using this
      · have := (fold_ref ps R).1
        simpa [foldR, rstep, refR, h1] using this
    · intro d
      by_cases h1 : e = 1
      · subst h1
        have := (fold_ref ps (R ++ [(d, false)])).2 []
        simpa [foldR, rstep, refR, scanL] using this
      · by_cases h2 : e = 2
        · subst h2
          have := (fold_ref ps (R ++ [(d, true)])).1
          simpa [foldR, rstep, refR, scanL, modLast_append] using this
        · by_cases h3 : e = 3
          · subst h3
            have := (fold_ref ps R).2 (d ++ [b])
            simpa [foldR, rstep, refR, scanL, modLast_append] using this
          · have := (fold_ref ps R).2 d
            simpa [foldR, rstep, refR, scanL, h1, h2, h3] using this
theorem runs_ref (l : List (Bool × Bool)) : (runs (true, true) ([], false) l).1 = refR (evp (true, true) l) := by
  rw [runs_fold, (fold_ref _ _).1]
  rfl
theorem evp_length : ∀ (l : List (Bool × Bool)) (x : Bool × Bool), (evp x l).length = l.length
  | [], _ => rfl
  | y :: ys, x => by simp [evp, evp_length ys y]
theorem evp_get : ∀ (l : List (Bool × Bool)) (x : Bool × Bool) (k : Nat), k < l.length → (evp x l).drop k = ((tells x l).getD k 0, (l.getD k (false, false)).2) :: (evp x l).drop (k + 1)
  | [], _, _, h => by simp at h
  | y :: ys, x, 0, _ => by simp [evp, tells]
  | y :: ys, x, k + 1, h => by
    have := evp_get ys y k (by simpa using h)
    simpa [evp, tells] using this
theorem scanL_bits : ∀ (ps : List (Int × Bool)) (d : List Bool), (scanL d ps).1.length ≤ d.length + ps.length
  | [], d => by simp [scanL]
  | p :: ps, d => by
    have h1 := scanL_bits ps d
    have h2 := scanL_bits ps (d ++ [p.2])
    simp only [List.length_append, List.length_cons, List.length_nil] at h2
    unfold scanL
    split
    · simp
    · split
      · simp
      · split
        · simp; omega
        · simp; omega
def RunsW (B : Nat) (w : World) (v : Value) (es : List RunE) : Prop :=
  w.ownsRow B 40 2 v es.length (flatE es) ∧ ∀ e ∈ es, BitsAt B w e
theorem RunsW.below {B : Nat} {w w' : World} {v : Value} {es : List RunE} (h : RunsW B w v es) (hb : Below w.heap.size w w') : RunsW B w' v es := ⟨owns_below h.1 hb, fun e he => owns_below (h.2 e he) hb⟩
theorem RunsW.alloc {B : Nat} {w : World} {v : Value} {es : List RunE} (h : RunsW B w v es) (o : Obj) : RunsW B (w.alloc o) v es := ⟨h.1.alloc o, fun e he => World.ownsRow.alloc (h.2 e he) o⟩
theorem RunsW.push {B : Nat} {w w' : World} {v v' : Value} {es : List RunE} {e : RunE} (h : RunsW B w v es) (he : BitsAt B w e) (hg : w.grownBy w' v.ownBlock) (h' : w'.ownsRow B 40 2 v' (es.length + 1) (flatE es ++ [e.1, .bool e.2.2])) :
    RunsW B w' v' (es ++ [e]) := by
  refine ⟨by rw [flatE_append]; simpa [flatE] using h', fun a ha => ?_⟩
  simp only [List.mem_append, List.mem_singleton] at ha
  rcases ha with ha | rfl
  · exact World.ownsRow.kept (h.2 a ha) hg (owns_ne (h.2 a ha) h.1 (by decide))
  · exact World.ownsRow.kept he hg (owns_ne he h.1 (by decide))
theorem RunsV.ofW {B : Nat} {w : World} {v : Value} {es : List RunE} {R : List RunL} (h : RunsW B w v es) (hR : es.map (·.2) = R) : RunsV w v R := by
  subst hR
  by_cases h0 : es = []
  · subst h0
    rcases h.1.2 with ⟨hv, _⟩ | ⟨g, cap, cur, hv, _⟩
    · exact ⟨none, 0, hv, .inl rfl⟩
    · exact ⟨_, cap, hv, .inl rfl⟩
  · obtain ⟨g, cap, rfl, _, hlt⟩ := h.1.form (List.length_pos_iff.2 h0)
    refine ⟨some ⟨g, 0, none⟩, cap, by simp, .inr ⟨g, fun j => (es.getD j (.slice none 0 0, [], false)).1, rfl, hlt, fun j hj => ?_⟩⟩
    rw [List.length_map] at hj
    have hg := flatE_get es j (.slice none 0 0, [], false) hj
    have hm : (es.map (·.2)).getD j ([], false) = (es.getD j (.slice none 0 0, [], false)).2 := by
      simp [List.getD_eq_getElem?_getD, hj]
    rw [h.1.cellAt _ (by omega), h.1.cellAt _ (by omega), hm]
    refine ⟨hg.1, hg.2, BitsV.of (h.2 _ ?_)⟩
    rw [List.getD_eq_getElem?_getD, List.getElem?_eq_getElem hj]
    exact List.getElem_mem hj
theorem own_mono {w : World} {B B' : Nat} {e : TypeId} {k : Nat} {v : Value} {n : Nat} {xs : List Value} (h : w.ownsRow B e k v n xs) (hb : B' ≤ B) : w.ownsRow B' e k v n xs :=
  ⟨h.1, h.2.imp id (fun ⟨g, cap, cur, hv, hg, rest⟩ => ⟨g, cap, cur, hv, Nat.le_trans hb hg, rest⟩)⟩
theorem own_shape {w : World} {B : Nat} {e : TypeId} {k : Nat} {v : Value} {n : Nat} {xs : List Value} (h : w.ownsRow B e k v n xs) : ∃ a c, v = .slice a n c := by
  rcases h.2 with ⟨rfl, rfl⟩ | ⟨g, cap, cur, rfl, _⟩
  · exact ⟨_, _, rfl⟩
  · exact ⟨_, _, rfl⟩
set_option maxHeartbeats 16000000 in
set_option maxRecDepth 100000 in
theorem runsR_any (A : Option Addr) (len cap : Nat) (l : List (Bool × Bool)) (w : World) (hn : l.length = len) (h1000 : len ≤ 1000) (hL : LvAt w A l) :
    Calls Try.prog 16 #[.slice A len cap] w fun e w' => ∃ v, e = .returned v ∧ RunsV w' v (runs (true, true) ([], false) l).1 ∧ Below w.heap.size w w' := by
  obtain ⟨i0, hi, hz0, hz1, hz2⟩ := info_parts info40
  obtain ⟨i1, hii, hy0, hy1, hy2⟩ := info_parts info4
  have HE := Lib.hid (evR_any A len cap l w hn h1000 hL)
  have hnn : (len : Int) ≤ 1000 := by omega
  have hplen := evp_length l (true, true)
  have HPG := Lib.hid (evp_get l (true, true))
  rw [runs_ref]
  generalize evp (true, true) l = P at hplen HPG ⊢
  go_enter Try.func16, Try.ntmps16
  go_wp2_with fail
  go_at_call 9
  refine HE.out.mono ?_
  rintro e w1 ⟨ve, rfl, hev, hb1⟩
  have hL1 := hL.below hb1
  have htl := tells_length l (true, true)
  rw [hn] at htl
  obtain ⟨a, ca, rfl, ha⟩ := IntsV.of (IntsAt.of hev)
  rw [htl]
  clear hev hL
  have HC : Hid (∀ w2 k, Below w1.heap.size w1 w2 → k < len → ∃ ga b off, a = some ⟨ga, 0, none⟩ ∧ A = some ⟨b, off, none⟩ ∧ b < w1.heap.size ∧ w2.cell? ⟨ga, k, none⟩ = some (.int .i64 ((tells (true, true) l).getD k 0)) ∧ w2.cell? ⟨b, off + k * 2 + 1, none⟩ = some (.bool (l.getD k (false, false)).2)) :=
    Lib.hid (fun w2 k h hk => by
      rcases ha with h0 | ⟨ga, h0, hga, hca⟩
      · rw [h0] at htl; simp at htl; omega
      · rcases hL1 with h2 | ⟨b, off, h2, hlt, hc⟩
        · rw [h2] at hn; simp at hn; omega
        · exact ⟨ga, b, off, h0, h2, hlt, (h.cell hga).trans (hca k (by omega)), (h.cell hlt).trans (hc k (by omega)).2⟩)
  clear ha hL1
  go_wp2
  go_loopw [4, 5] (fun v i wr => ∃ (k : Nat) (es : List RunE), k ≤ len ∧ i = .int .i64 k ∧ RunsW w1.heap.size wr v es ∧ es.map (·.2) ++ refR (P.drop k) = refR P ∧ es.length ≤ k ∧ Below w1.heap.size w1 wr) (fun _ i _ => len - (intOf i).toNat)
  case atStart => exact ⟨0, [], by omega, rfl, ⟨World.ownsRow_nil _ _ _ _, by simp⟩, rfl, by simp, Below.refl _ _⟩
  case round =>
    obtain ⟨k, es, hk, rfl, hR, hst, hle, hb⟩ := hrel
    have hk0 : 0 ≤ (k : Int) := by omega
    by_cases hkn : k < len
    · have hk1 : (k : Int) < len := by omega
      obtain ⟨ga, b, off, rfl, rfl, hlt, ce, _⟩ := HC.out wr k hb hkn
      have hpg := HPG.out k (by omega)
      generalize (tells (true, true) l).getD k 0 = z at ce hpg
      generalize (l.getD k (false, false)).2 = y at hpg
      by_cases h1 : z = 1
      · subst h1
        have hst' : refR (P.drop k) = scanL [] (P.drop (k + 1)) :: refR (P.drop (k + 1)) := by rw [hpg]; simp [refR]
        rw [hst'] at hst
        generalize hT : scanL [] (P.drop (k + 1)) = T at hst
        clear hpg hst'
        obtain ⟨wo, hwo⟩ : ∃ wo, wo = wr := ⟨_, rfl⟩
        subst hwo
        have hs0 : ((k + 1 : Nat) : Int) = (k : Int) + 1 := by omega
        have HC2 : Hid (∀ w2 j, Below w1.heap.size w1 w2 → j < len → w2.cell? ⟨ga, j, none⟩ = some (.int .i64 ((tells (true, true) l).getD j 0)) ∧ w2.cell? ⟨b, off + j * 2 + 1, none⟩ = some (.bool (l.getD j (false, false)).2)) :=
          Lib.hid (fun w2 j h hj => by
            obtain ⟨ga', b', off', e1, e2, _, c, d⟩ := HC.out w2 j h hj
            simp at e1 e2
            obtain ⟨rfl, rfl⟩ := e2
            subst e1
            exact ⟨c, d⟩)
        clear HC
        go_wp2
        clear ce
        go_loopw [7] (fun kk w2 => ∃ (j : Nat) (d : List Bool) (s : Bool) (bv : Value), j ≤ len ∧ kk = .int .i64 j ∧ Blk w2 wo.heap.size 40 #[bv, .bool s] ∧ w2.ownsRow (wo.heap.size + 1) 4 1 bv d.length (d.map .bool) ∧ Below wo.heap.size wo w2 ∧ (if s = true then (d, true) else scanL d (P.drop j)) = T ∧ d.length ≤ j) (fun kk _ => len - (intOf kk).toNat)
        case atStart => exact ⟨k + 1, [], false, .slice none 0 0, by omega, by simp, Blk.new wo 40 _, World.ownsRow_nil _ _ _ _, (Below.refl _ _).alloc (Nat.le_refl _) _, by simpa using hT, by simp⟩
        case round =>
          obtain ⟨j, d, s, bv, hj, rfl, hblk, hown, hb2, hsc, hdl⟩ := hrel
          obtain ⟨ba, bc, rfl⟩ := own_shape hown
          have hj0 : 0 ≤ (j : Int) := by omega
          have d0 : wr.cell? ⟨wo.heap.size, 0, none⟩ = some (.slice ba d.length bc) := (hblk.cell 0).trans rfl
          have d1 : wr.cell? ⟨wo.heap.size, 1, none⟩ = some (.bool s) := (hblk.cell 1).trans rfl
          have F0 := hblk.frozen 0
          have F1 := hblk.frozen 1
          have hgl := hblk.lt
          have hb02 := hb.trans (hb2.mono hb.size)
          by_cases hjn : j < len
          · have hj1 : (j : Int) < len := by omega
            have ce := (HC2.out wr j hb02 hjn).1
            have cl := (HC2.out wr j hb02 hjn).2
            have HC3 := Lib.hid (fun w3 h => (HC2.out w3 j h hjn).1)
            have hpg := HPG.out j (by omega)
            generalize (tells (true, true) l).getD j 0 = z at ce hpg HC3
            generalize (l.getD j (false, false)).2 = y2 at cl hpg
            cases s
            · by_cases z1 : z = 1
              · subst z1
                have hfin : T = (d, false) := by rw [← hsc, hpg]; simp [scanL]
                have hR2 := hR.below hb2
                have hbe : BitsAt w1.heap.size (wr.alloc (.cells #[.slice ba d.length bc, .bool false] 40)) (.slice ba d.length bc, d, false) := World.ownsRow.alloc (own_mono hown (by have := hb.size; omega)) _
                clear HC2 hsc
                go_wp2_with (first
                  | (at_builtin; refine wpList_append_lies _ rfl _ _ 33 rfl w1.heap.size 40 i0 (.agg #[.slice none 0 0, .bool false]) 2 32 Try.underlying33 hi hz0 hz1 hz2 rfl (by decide) _ _ _ rfl (hR2.1.alloc _) ⟨wr.heap.size, 0, none⟩ 1 1 [.slice ba d.length bc, .bool false] rfl rfl (World.news_of_block (cs := #[.slice ba d.length bc, .bool false]) (t := 40) (fr := (0, 0)) (heap_alloc_new wr _)) (by simp [Value.oneCell']) (by decide) (by unfold maxLen; omega) (by omega) (by have := hb02.size; simp; omega) (wr.heap.size + 1) (by simp) ?_)
                  | go_in)
                intro g3 cap3 w3 hown3 hgrow hat hglt
                have R3 := (hR2.alloc _).push hbe hgrow hown3
                have hb3 := (hb02.alloc hb02.size (.cells #[.slice ba d.length bc, .bool false] 40)).grown hgrow (Nat.le_trans hb02.size (by simp)) (fun j hj => (World.ownsRow.lt hR2.1 j hj).1)
                clear hown3 hgrow hbe hR2
                subst hfin
                go_wp2
                go_roundw
                case rel => exact ⟨k + 1, es ++ [(.slice ba d.length bc, d, false)], by omega, by simp, R3, by simpa using hst, by simp; omega, hb3⟩
                case measure => simp [intOf]; omega
              · have z1' : (z != 1) = true := by simpa using z1
                by_cases z3 : z = 3
                · subst z3
                  have hsc' : scanL (d ++ [y2]) (P.drop (j + 1)) = T := by rw [← hsc, hpg]; simp [scanL]
                  have hlt' : b < wr.heap.size := Nat.lt_of_lt_of_le hlt hb02.size
                  have hd1000 : d.length ≤ 1000 := by omega
                  have hne : some wo.heap.size ≠ Value.ownBlock (.slice ba d.length bc) := fun h => by have := (World.ownsRow.lt hown _ h.symm).1; omega
                  have HA : Hid (∀ o, (wr.alloc o).cell? ⟨wo.heap.size, 0, none⟩ = some (.slice ba d.length bc) ∧ (wr.alloc o).frozen? ⟨wo.heap.size, 0, none⟩ = false) :=
                    Lib.hid (fun o => ⟨(World.cell?_alloc_lt wr o _ hgl).trans d0, (World.frozen?_of_block (Below.heap_alloc wr o _ hgl)).trans F0⟩)
                  have hn0 := World.new_ne wr _ d0
                  have hn1 := World.new_ne wr _ cl
                  go_wp2_with fail
                  go_region_law
                    ((refine step_append_lies _ (by rfl) _ _ _ (by rfl) (wo.heap.size + 1) 4 i1 (.bool false) 1 1 Try.underlying36 hii hy0 hy1 hy2 rfl (by decide) (.slice ba d.length bc) d.length (d.map .bool) (by rfl) ((hown.alloc _).drew)
                        ⟨wr.heap.size, 0, none⟩ 1 1 [.bool y2] (by rfl) (by rfl) (World.news_of_block (cs := #[.bool y2]) (t := 4) (fr := (0, 0)) (heap_alloc_new wr _)) (by simp [Value.oneCell'])
                        (by decide) (by unfold maxLen; omega) (by omega) (by have := hb2.size; simp; omega) (wr.heap.size + 1) (by simp) ?_; intro g2 cap2 w3 hown3 hgrow hat hglt; have K0 := (hgrow.cell_far ⟨wo.heap.size, 0, none⟩ (by simp; omega) hne).trans (HA.out _).1; have K1 := (hgrow.frozen_far ⟨wo.heap.size, 0, none⟩ (by simp; omega) hne).trans (HA.out _).2))
                  all_goals
                    have hblk3 := (Blk.grown (Blk.alloc hblk (.cells #[.bool y2] 4)).drew hgrow hne).set_ 0 (.slice (some ⟨g2, 0, none⟩) (d.length + 1) cap2)
                    have hown5 := ownsRow_setCell_below hown3 (a := ⟨wo.heap.size, 0, none⟩) (by simp) (.slice (some ⟨g2, 0, none⟩) (d.length + 1) cap2)
                    have hb5 := (((hb2.alloc hb2.size (.cells #[.bool y2] 4)).drew).grown hgrow (Nat.le_trans hb2.size (by simp)) (fun i hi => by have := (World.ownsRow.lt hown i hi).1; omega)).setCell (p := ⟨wo.heap.size, 0, none⟩) (Nat.le_refl _) (.slice (some ⟨g2, 0, none⟩) (d.length + 1) cap2)
                    have ce5 := HC3.out _ (hb.trans (hb5.mono hb.size))
                    clear hown3 hgrow hat K0 K1 hown hblk hglt
                    generalize w3.setCell ⟨wo.heap.size, 0, none⟩ (.slice (some ⟨g2, 0, none⟩) (d.length + 1) cap2) = w5 at *
                    have e1 : w5.cell? ⟨wo.heap.size, 1, none⟩ = some (.bool false) := (hblk3.cell 1).trans rfl
                    have f1 := hblk3.frozen 1
                    go_wp2
                    go_roundw
                    case rel => exact ⟨j + 1, d ++ [y2], false, .slice (some ⟨g2, 0, none⟩) (d.length + 1) cap2, by omega, by simp, hblk3.set_ 1 (.bool false), by simpa using (ownsRow_setCell_below hown5 (a := ⟨wo.heap.size, 1, none⟩) (by simp) (.bool false)), hb5.setCell (Nat.le_refl _) _, by simpa using hsc', by simp; omega⟩
                    case measure => simp [intOf]; omega
                · by_cases z2 : z = 2
                  · subst z2
                    have hsc' : (d, true) = T := by rw [← hsc, hpg]; simp [scanL]
                    go_wp2
                    go_roundw
                    case rel => exact ⟨j + 1, d, true, _, by omega, by simp, hblk.set_ 1 (.bool true), ownsRow_setCell_below hown (by simp) _, hb2.setCell (Nat.le_refl _) _, by simpa using hsc', by omega⟩
                    case measure => simp [intOf]; omega
                  · have z3' : (z == 3) = false := by simpa using z3
                    have z2' : (z == 2) = false := by simpa using z2
                    have hsc' : scanL d (P.drop (j + 1)) = T := by rw [← hsc, hpg]; simp [scanL, z1, z2, z3]
                    go_wp2
                    go_roundw
                    case rel => exact ⟨j + 1, d, false, _, by omega, by simp, hblk.set_ 1 (.bool false), ownsRow_setCell_below hown (by simp) _, hb2.setCell (Nat.le_refl _) _, by simpa using hsc', by omega⟩
                    case measure => simp [intOf]; omega
            · have hfin : T = (d, true) := by rw [← hsc]; simp
              by_cases z1 : z = 1
              · subst z1
                have hR2 := hR.below hb2
                have hbe : BitsAt w1.heap.size (wr.alloc (.cells #[.slice ba d.length bc, .bool true] 40)) (.slice ba d.length bc, d, true) := World.ownsRow.alloc (own_mono hown (by have := hb.size; omega)) _
                clear HC2 hsc
                go_wp2_with (first
                  | (at_builtin; refine wpList_append_lies _ rfl _ _ 33 rfl w1.heap.size 40 i0 (.agg #[.slice none 0 0, .bool false]) 2 32 Try.underlying33 hi hz0 hz1 hz2 rfl (by decide) _ _ _ rfl (hR2.1.alloc _) ⟨wr.heap.size, 0, none⟩ 1 1 [.slice ba d.length bc, .bool true] rfl rfl (World.news_of_block (cs := #[.slice ba d.length bc, .bool true]) (t := 40) (fr := (0, 0)) (heap_alloc_new wr _)) (by simp [Value.oneCell']) (by decide) (by unfold maxLen; omega) (by omega) (by have := hb02.size; simp; omega) (wr.heap.size + 1) (by simp) ?_)
                  | go_in)
                intro g3 cap3 w3 hown3 hgrow hat hglt
                have R3 := (hR2.alloc _).push hbe hgrow hown3
                have hb3 := (hb02.alloc hb02.size (.cells #[.slice ba d.length bc, .bool true] 40)).grown hgrow (Nat.le_trans hb02.size (by simp)) (fun j hj => (World.ownsRow.lt hR2.1 j hj).1)
                clear hown3 hgrow hbe hR2
                subst hfin
                go_wp2
                go_roundw
                case rel => exact ⟨k + 1, es ++ [(.slice ba d.length bc, d, true)], by omega, by simp, R3, by simpa using hst, by simp; omega, hb3⟩
                case measure => simp [intOf]; omega
              · have z1' : (z != 1) = true := by simpa using z1
                have hR2 := hR.below hb2
                have hbe : BitsAt w1.heap.size (wr.alloc (.cells #[.slice ba d.length bc, .bool true] 40)) (.slice ba d.length bc, d, true) := World.ownsRow.alloc (own_mono hown (by have := hb.size; omega)) _
                clear HC2 hsc
                go_wp2_with (first
                  | (at_builtin; refine wpList_append_lies _ rfl _ _ 33 rfl w1.heap.size 40 i0 (.agg #[.slice none 0 0, .bool false]) 2 32 Try.underlying33 hi hz0 hz1 hz2 rfl (by decide) _ _ _ rfl (hR2.1.alloc _) ⟨wr.heap.size, 0, none⟩ 1 1 [.slice ba d.length bc, .bool true] rfl rfl (World.news_of_block (cs := #[.slice ba d.length bc, .bool true]) (t := 40) (fr := (0, 0)) (heap_alloc_new wr _)) (by simp [Value.oneCell']) (by decide) (by unfold maxLen; omega) (by omega) (by have := hb02.size; simp; omega) (wr.heap.size + 1) (by simp) ?_)
                  | go_in)
                intro g3 cap3 w3 hown3 hgrow hat hglt
                have R3 := (hR2.alloc _).push hbe hgrow hown3
                have hb3 := (hb02.alloc hb02.size (.cells #[.slice ba d.length bc, .bool true] 40)).grown hgrow (Nat.le_trans hb02.size (by simp)) (fun j hj => (World.ownsRow.lt hR2.1 j hj).1)
                clear hown3 hgrow hbe hR2
                subst hfin
                go_wp2
                go_roundw
                case rel => exact ⟨k + 1, es ++ [(.slice ba d.length bc, d, true)], by omega, by simp, R3, by simpa using hst, by simp; omega, hb3⟩
                case measure => simp [intOf]; omega
          · have hj1 : ¬ (j : Int) < len := by omega
            have hfin : T = (d, s) := by
              rw [← hsc, List.drop_eq_nil_of_le (by omega)]
              cases s <;> simp [scanL]
            have hR2 := hR.below hb2
            have hbe : BitsAt w1.heap.size (wr.alloc (.cells #[.slice ba d.length bc, .bool s] 40)) (.slice ba d.length bc, d, s) := World.ownsRow.alloc (own_mono hown (by have := hb.size; omega)) _
            clear HC2 hsc
            go_wp2_with (first
              | (at_builtin; refine wpList_append_lies _ rfl _ _ 33 rfl w1.heap.size 40 i0 (.agg #[.slice none 0 0, .bool false]) 2 32 Try.underlying33 hi hz0 hz1 hz2 rfl (by decide) _ _ _ rfl (hR2.1.alloc _) ⟨wr.heap.size, 0, none⟩ 1 1 [.slice ba d.length bc, .bool s] rfl rfl (World.news_of_block (cs := #[.slice ba d.length bc, .bool s]) (t := 40) (fr := (0, 0)) (heap_alloc_new wr _)) (by simp [Value.oneCell']) (by decide) (by unfold maxLen; omega) (by omega) (by have := hb02.size; simp; omega) (wr.heap.size + 1) (by simp) ?_)
              | go_in)
            intro g3 cap3 w3 hown3 hgrow hat hglt
            have R3 := (hR2.alloc _).push hbe hgrow hown3
            have hb3 := (hb02.alloc hb02.size (.cells #[.slice ba d.length bc, .bool s] 40)).grown hgrow (Nat.le_trans hb02.size (by simp)) (fun j hj => (World.ownsRow.lt hR2.1 j hj).1)
            clear hown3 hgrow hbe hR2
            subst hfin
            go_wp2
            go_roundw
            case rel => exact ⟨k + 1, es ++ [(.slice ba d.length bc, d, s)], by omega, by simp, R3, by simpa using hst, by simp; omega, hb3⟩
            case measure => simp [intOf]; omega
      · have h1' : (z != 1) = true := by simpa using h1
        have hst' : refR (P.drop k) = refR (P.drop (k + 1)) := by rw [hpg]; simp [refR, h1]
        rw [hst'] at hst
        go_wp2
        go_roundw
        case rel => exact ⟨k + 1, es, by omega, by simp, hR, hst, by omega, hb⟩
        case measure => simp [intOf]; omega
    · have hk1 : ¬ (k : Int) < len := by omega
      rw [List.drop_eq_nil_of_le (by omega)] at hst
      go_wp2
      go_ret
      exact ⟨_, rfl, RunsV.ofW hR (by simpa [refR] using hst), hb1.trans (hb.mono hb1.size)⟩
end Go.Proofs.Ytdfdmgdielfhnaa.Own

/- Three slices of bytes, of twelve, four and 256, put together: 272 bytes. · A head's seal: four bytes; which ones isn't asked. -/
import Derived.Test.YtifajfjiloajfaaGreatDoorCloneZ
import Derived.Lib.AppendZerosOnto
import Derived.Test.YtifajfjiloajfaaGreatDoorMFill
namespace Go.Proofs.YtifajfjiloajfaaGreatDoor.OwnCon
open Go.RowKit Go.Proofs.YtifajfjiloajfaaGreatDoor.Own Go.Proofs.YtifajfjiloajfaaGreatDoor.OwnChip
def GrowRet (w : World) (e : Ending) (w' : World) : Prop := ∃ G, e = .returned (.slice (some ⟨w.heap.size, 0, none⟩) 0 G) ∧ w'.ownsRow w.heap.size 5 1 (.slice (some ⟨w.heap.size, 0, none⟩) 0 G) 0 [] ∧ Below w.heap.size w w'
theorem GrowRet.mk {w w' : World} (G : Nat) (h1 : w'.ownsRow w.heap.size 5 1 (.slice (some ⟨w.heap.size, 0, none⟩) 0 G) 0 []) (h2 : Below w.heap.size w w') : GrowRet w (.returned (.slice (some ⟨w.heap.size, 0, none⟩) 0 G)) w' := ⟨G, rfl, h1, h2⟩
set_option maxHeartbeats 2000000 in
set_option maxRecDepth 100000 in
theorem grow_272 (w : World) : Calls Tryz.prog 73 #[.slice none 0 0, .int .i64 272] w (GrowRet w) := by
  obtain ⟨i0, hi, hz0, hz1, hz2⟩ := info_parts info5c
  have hr : ∀ ty, (Builtin.append_ #[22, 3] ty #[.slice none 0 0, .int .i64 272]).run Tryz.prog w = .ok (.slice (some ⟨w.heap.size, 0, none⟩) 272 (grownCap w 272 0 5)) (w.drew.alloc (.cells (([] : List Value).toArray ++ Builtin.zeroCells (Value.int .u8 0).cells 272 ++ Builtin.zeroCells (Value.int .u8 0).cells (grownCap w 272 0 5 - 272)) 5)) := fun ty => by
    have h := Lib.run_append_grow_zeros (P := Tryz.prog) w 22 3 ty 5 i0 (.int .u8 0) .i64 .i64 Tryz.underlying22 Tryz.underlying3 hi hz0 none 0 0 [] (run_firstCells_none w.drew i0.size 0 0 0) 272 (by omega) (by rw [hz1]; omega) (by omega) (by omega) (by rw [hz2]; omega) (by rw [hz2]; exact growslice_fits (by omega) (by omega))
    exact h
  have hG := grownCap_ge w 272 0 5
  have hM := grownCap_le_maxLen w 272 0 5 (by unfold maxLen; omega)
  obtain ⟨G, hg⟩ : ∃ G, G = grownCap w 272 0 5 := ⟨_, rfl⟩
  rw [← hg] at hr hG hM
  obtain ⟨cs, hcs⟩ : ∃ cs, cs = ([] : List Value).toArray ++ Builtin.zeroCells (Value.int .u8 0).cells 272 ++ Builtin.zeroCells (Value.int .u8 0).cells (G - 272) := ⟨_, rfl⟩
  rw [← hcs] at hr
  have hsz : cs.size = G * 1 := by
    rw [hcs]
    simp [Builtin.zeroCells, Value.cells]
    omega
  have hown : (w.drew.alloc (.cells cs 5)).ownsRow w.heap.size 5 1 (.slice (some ⟨w.heap.size, 0, none⟩) 0 G) 0 [] := World.ownsRow_made w.drew cs G (Nat.le_refl _) hM hsz
  have HO := Lib.hid hown
  have HB : Hid (Below w.heap.size w (w.drew.alloc (.cells cs 5))) := Lib.hid ((Below.refl _ w).drew.alloc (Nat.le_refl _) _)
  have hGi : (272 : Int) ≤ G := by omega
  have hM2 : (G : Int) ≤ 9223372036854775807 := by unfold maxLen at hM; omega
  clear hg hcs hsz hown hM hi hz0 hz1 hz2
  go_enter Tryz.func73, Tryz.ntmps73
  go_wp2_with (at_builtin; refine Lib.wpList_append_run _ rfl _ _ _ _ rfl _ _ rfl rfl _ _ (hr _) ?_)
  all_goals
    go_ret
    exact GrowRet.mk _ HO.out HB.out
def CatRet (w : World) (e : Ending) (w' : World) : Prop := ∃ A cap, e = .returned (.slice A 272 cap) ∧ Below w.heap.size w w'
theorem CatRet.mk {w w' : World} (A : Option Addr) (cap : Nat) (h : Below w.heap.size w w') : CatRet w (.returned (.slice A 272 cap)) w' := ⟨A, cap, rfl, h⟩
/-- What is put to a row that the call owns. -/
theorem cat_next {w wr w1 : World} {v : Value} {n : Nat} {xs : List Value} (hb : Below w.heap.size w wr) (ho : wr.ownsRow w.heap.size 5 1 v n xs) (hg : wr.grownBy w1 v.ownBlock) : Below w.heap.size w w1 :=
  hb.grown hg hb.size (fun k hk => (World.ownsRow.lt ho k hk).1)
theorem src_news {n d : Nat} {w w' : World} (hb : Below w.heap.size w w') (h : OwnChip.Src n w d 0) : ∃ news : List Value, news.length = n * 1 ∧ (∀ j u, news[j]? = some u → w'.cell? ((⟨d, 0, none⟩ : Addr).add j) = some u) ∧ (∀ u ∈ news, u.oneCell' = true) := by
  obtain ⟨zs, h1, h2, h3⟩ := h
  refine ⟨zs.map (Value.int .u8), by simp [h1], fun j u hj => ?_, fun u hu => ?_⟩
  · have hjn : j < n := by
      have := (List.getElem?_eq_some_iff.1 hj).1
      simp at this
      omega
    rw [Addr.add_lit]
    have c := h3 j hjn
    rw [Nat.zero_add] at c ⊢
    rw [hb.cell (cell_lt c), c]
    have e : (zs.map (Value.int .u8))[j]? = some (Value.int .u8 (zs.getD j 0)) := by simp [List.getD, List.getElem?_eq_getElem (show j < zs.length by omega)]
    rw [e] at hj
    exact hj
  · obtain ⟨x, _, rfl⟩ := List.mem_map.1 hu
    rfl
set_option maxHeartbeats 3200000 in
set_option maxRecDepth 100000 in
theorem concat_any (p a b c ca cb cc c3 : Nat) (w : World) (p0 : w.cell? ⟨p, 0, none⟩ = some (.slice (some ⟨a, 0, none⟩) 12 ca)) (p1 : w.cell? ⟨p, 1, none⟩ = some (.slice (some ⟨b, 0, none⟩) 4 cb)) (p2 : w.cell? ⟨p, 2, none⟩ = some (.slice (some ⟨c, 0, none⟩) 256 cc)) (ha : OwnChip.Src 12 w a 0) (hb : OwnChip.Src 4 w b 0) (hc : OwnChip.Src 256 w c 0) :
    Calls Tryz.prog 45 #[.slice (some ⟨p, 0, none⟩) 3 c3] w (CatRet w) := by
  obtain ⟨i0, hi, hz0, hz1, hz2⟩ := info_parts info5c
  have HG := Lib.hid grow_272
  have HA := Lib.hid ha
  have HB := Lib.hid hb
  have HC := Lib.hid hc
  have HP := Lib.hid (And.intro p0 (And.intro p1 p2))
  clear ha hb hc
  go_enter Tryz.func45, Tryz.ntmps45
  go_wp2_with fail
  refine wp_loop_rounds 4 ?_
  rw [rounds_succ]
  go_wp2
  rw [rounds_succ]
  go_wp2
  rw [rounds_succ]
  go_wp2
  rw [rounds_succ]
  clear p0 p1 p2
  go_wp2_with (go_at_call 73; refine (HG.out _).mono ?_; rintro e w1 ⟨G, rfl, ho, hb⟩; have HO1 := Lib.hid ho; have HB1 := Lib.hid hb; have q0 := (hb.cell (cell_lt HP.out.1)).trans HP.out.1; clear ho hb)
  refine wp_loop_rounds 4 ?_
  rw [rounds_succ]
  obtain ⟨news0, hl0, hn0, h10⟩ := src_news HB1.out HA.out
  have HN0 := Lib.hid (And.intro hl0 (And.intro hn0 h10))
  clear hl0 hn0 h10
  go_wp2_with (at_builtin; refine wpList_append_own _ rfl _ _ 22 rfl w.heap.size 5 i0 (.int .u8 0) 1 1 Tryz.underlying22 hi hz0 hz1 hz2 rfl (by decide) _ 0 _ rfl HO1.out ⟨a, 0, none⟩ 12 ca news0 rfl HN0.out.1 HN0.out.2.1 HN0.out.2.2 (by unfold maxLen; omega) (by omega) HB1.out.size ?_)
  intro v2 w2 ho0 hg0 hi0
  have hb0 := cat_next HB1.out HO1.out hg0
  have HO2 := Lib.hid ho0
  have HB2 := Lib.hid hb0
  have q1 := (hb0.cell (cell_lt HP.out.2.1)).trans HP.out.2.1
  clear hg0 hi0 hb0 ho0 q0
  go_wp2_with fail
  rw [rounds_succ]
  obtain ⟨news1, hl1, hn1, h11⟩ := src_news HB2.out HB.out
  have HN1 := Lib.hid (And.intro hl1 (And.intro hn1 h11))
  clear hl1 hn1 h11
  go_wp2_with (at_builtin; refine wpList_append_own _ rfl _ _ 22 rfl w.heap.size 5 i0 (.int .u8 0) 1 1 Tryz.underlying22 hi hz0 hz1 hz2 rfl (by decide) _ 12 _ rfl HO2.out ⟨b, 0, none⟩ 4 cb news1 rfl HN1.out.1 HN1.out.2.1 HN1.out.2.2 (by unfold maxLen; omega) (by omega) HB2.out.size ?_)
  intro v3 w3 ho1 hg1 hi1
  have hb1 := cat_next HB2.out HO2.out hg1
  have HO3 := Lib.hid ho1
  have HB3 := Lib.hid hb1
  have q2 := (hb1.cell (cell_lt HP.out.2.2)).trans HP.out.2.2
  clear hg1 hi1 hb1 ho1 q1
  go_wp2_with fail
  rw [rounds_succ]
  obtain ⟨news2, hl2, hn2, h12⟩ := src_news HB3.out HC.out
  have HN2 := Lib.hid (And.intro hl2 (And.intro hn2 h12))
  clear hl2 hn2 h12
  go_wp2_with (at_builtin; refine wpList_append_own _ rfl _ _ 22 rfl w.heap.size 5 i0 (.int .u8 0) 1 1 Tryz.underlying22 hi hz0 hz1 hz2 rfl (by decide) _ 16 _ rfl HO3.out ⟨c, 0, none⟩ 256 cc news2 rfl HN2.out.1 HN2.out.2.1 HN2.out.2.2 (by unfold maxLen; omega) (by omega) HB3.out.size ?_)
  intro v4 w4 ho2 hg2 hi2
  have hb2 := cat_next HB3.out HO3.out hg2
  have HO4 := Lib.hid ho2
  have HB4 := Lib.hid hb2
  clear hg2 hi2 hb2 ho2 q2
  go_wp2_with fail
  rw [rounds_succ]
  obtain ⟨A, cap, hA⟩ : ∃ A cap, v4 = .slice A 272 cap := by
    rcases HO4.out.2 with ⟨-, h⟩ | ⟨g, cap, cur, e, -⟩
    · omega
    · exact ⟨_, _, e⟩
  subst hA
  go_wp2
  go_ret
  exact CatRet.mk _ _ HB4.out
end Go.Proofs.YtifajfjiloajfaaGreatDoor.OwnCon
namespace Go.Proofs.YtifajfjiloajfaaGreatDoor.OwnCon
open Go.RowKit Go.Proofs.YtifajfjiloajfaaGreatDoor.Own Go.Proofs.YtifajfjiloajfaaGreatDoor.OwnChip
abbrev headC : Array Value := #[.int .u8 67, .int .u8 65, .int .u8 82, .int .u8 84, .int .u8 1, .int .u8 8, .int .u8 1, .int .u8 0, .int .u8 0, .int .u8 0, .int .u8 0, .int .u8 0]
def SealRet (w : World) (e : Ending) (w' : World) : Prop := ∃ a b c d, e = .returned (.agg #[.int .u8 a, .int .u8 b, .int .u8 c, .int .u8 d]) ∧ (∀ x ∈ [a, b, c, d], By x) ∧ Below w.heap.size w w'
theorem SealRet.mk {w w' : World} (a b c d : Int) (hx : ∀ x ∈ [a, b, c, d], By x) (h : Below w.heap.size w w') : SealRet w (.returned (.agg #[.int .u8 a, .int .u8 b, .int .u8 c, .int .u8 d])) w' := ⟨a, b, c, d, rfl, hx, h⟩
theorem src_head (W : World) (p t : Nat) (h : Blk W p t headC) : OwnChip.Src 12 W p 0 := by
  refine ⟨[67, 65, 82, 84, 1, 8, 1, 0, 0, 0, 0, 0], rfl, fun x hx => by simp only [List.mem_cons, List.not_mem_nil, or_false] at hx; unfold By; omega, fun j hj => ?_⟩
  rw [Nat.zero_add, h.cell j]
  rcases j with _ | _ | _ | _ | _ | _ | _ | _ | _ | _ | _ | _ | j
  all_goals first | rfl | omega
set_option maxHeartbeats 3200000 in
set_option maxRecDepth 100000 in
theorem seal_any (c cc : Nat) (w : World) (hc : OwnChip.Src 256 w c 0) :
    Calls Tryz.prog 44 #[.agg headC, .slice (some ⟨c, 0, none⟩) 256 cc] w (SealRet w) := by
  have HS := Lib.hid (fun W h => sum_any w.heap.size 0 12 12 W h (by omega))
  have HM := Lib.hid (fun x W h => more_any x c 0 256 cc W h (by omega))
  have HC := Lib.hid hc
  obtain ⟨W, hW⟩ : ∃ W, W = (w.alloc (.cells headC 107)).alloc (.cells #[.int .u8 0, .int .u8 0, .int .u8 0, .int .u8 0] 108) := ⟨_, rfl⟩
  have hb : Below w.heap.size w W := by
    rw [hW]
    exact ((Below.refl _ w).alloc (Nat.le_refl _) _).alloc (by simp) _
  have HB := Lib.hid hb
  have HW := Lib.hid hW
  have HH : Hid (OwnChip.Src 12 W w.heap.size 0) := Lib.hid (by
    rw [hW]
    exact src_head _ _ 107 ((Blk.new w 107 headC).alloc _))
  have hr : Blk W (w.heap.size + 1) 108 #[.int .u8 0, .int .u8 0, .int .u8 0, .int .u8 0] := by
    rw [hW]
    exact new_1 w _ 108 _
  have r0 : W.cell? ⟨w.heap.size + 1, 0, none⟩ = some (.int .u8 0) := (hr.cell 0).trans rfl
  have r1 : W.cell? ⟨w.heap.size + 1, 1, none⟩ = some (.int .u8 0) := (hr.cell 1).trans rfl
  have r2 : W.cell? ⟨w.heap.size + 1, 2, none⟩ = some (.int .u8 0) := (hr.cell 2).trans rfl
  have r3 : W.cell? ⟨w.heap.size + 1, 3, none⟩ = some (.int .u8 0) := (hr.cell 3).trans rfl
  have rf0 := hr.frozen 0
  have rf1 := hr.frozen 1
  have rf2 := hr.frozen 2
  have rf3 := hr.frozen 3
  have hsz : W.heap.size = w.heap.size + 2 := by
    rw [hW]
    simp
  have HC2 : Hid (OwnChip.Src 256 W c 0) := Lib.hid (HC.out.below hb)
  clear hW hb hc hr
  go_enter Tryz.func44, Tryz.ntmps44
  go_wp2_with (first
    | (go_at_call 72; rw [← HW.out]; (refine (HS.out _ HH.out).mono ?_; rintro e w1 ⟨v, rfl, rfl⟩))
    | (go_at_call 71; (refine (HM.out _ _ HC2.out).mono ?_; rintro e w1 ⟨v2, rfl, rfl⟩)))
  refine wp_loop_rounds 5 ?_
  rw [rounds_succ]
  go_wp2
  rw [rounds_succ]
  go_wp2
  rw [rounds_succ]
  go_wp2
  rw [rounds_succ]
  go_wp2
  rw [rounds_succ]
  go_wp2
  refine bodyPost_ret (v := .agg #[.int .u8 (v2 % 256), .int .u8 (v2 / 256 % 256), .int .u8 (v2 / 65536 % 256), .int .u8 (v2 / 16777216 % 256)]) ?_ rfl (SealRet.mk _ _ _ _ (fun x hx => by simp only [List.mem_cons, List.not_mem_nil, or_false] at hx; unfold By; omega) ?_)
  · simp [results, Tryz.results44, go_sem, *]
  · repeat first
      | exact HB.out
      | refine Below.setCell ?_ (by simp) _
      | refine Below.alloc ?_ (by simp; omega) _
end Go.Proofs.YtifajfjiloajfaaGreatDoor.OwnCon

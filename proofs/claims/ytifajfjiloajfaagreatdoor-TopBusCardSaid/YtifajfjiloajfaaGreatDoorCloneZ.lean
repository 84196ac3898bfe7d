/- A slice of bytes copied, byte by byte. Conditions: less than 65536. -/
import Derived.Test.YtifajfjiloajfaaGreatDoorMCon
import Derived.Test.YtifajfjiloajfaaGreatDoorUnp
namespace Go.Proofs.YtifajfjiloajfaaGreatDoor.OwnCon
open Go.RowKit Go.Proofs.YtifajfjiloajfaaGreatDoor.Own Go.Proofs.YtifajfjiloajfaaGreatDoor.OwnChip
theorem rm_owns {zs : List Int} {n base : Nat} {w : World} {v : Value} (hz : zs.length = n) (h : w.ownsRow base 5 1 v n (zs.map (Value.int .u8))) (hn : v ≠ .slice none 0 0) :
    ∃ g cap, v = .slice (some ⟨g, 0, none⟩) n cap ∧ base ≤ g ∧ Rm zs w g := by
  rcases h.2 with ⟨e, -⟩ | ⟨g, cap, cur, e, hb, hg, h1, h2, h3, h4⟩
  · exact absurd e hn
  · refine ⟨g, cap, e, hb, (Array.getElem?_eq_some_iff.1 hg).1, ?_⟩
    intro j hj
    have hc : w.cell? ⟨g, j, none⟩ = cur[j]? := cell_of_row w g j cur 5 (0, 0) hg
    rw [hc]
    have e1 : (cur.toList.take (n * 1))[j]? = cur[j]? := by
      rw [List.getElem?_take, if_pos (by omega)]
      simp
    rw [← e1, h4]
    simp [List.getD, hj]
set_option maxHeartbeats 2000000 in
set_option maxRecDepth 100000 in
theorem clone_zs (zs : List Int) (n d off c : Nat) (w : World) (hz : zs.length = n) (hc : ∀ j, j < n → w.cell? ⟨d, off + j, none⟩ = some (.int .u8 (zs.getD j 0))) (hn : n < 65536) :
    Calls Tryz.prog 26 #[.slice (some ⟨d, off, none⟩) n c] w fun e w' => (∃ g cap, e = .returned (.slice (some ⟨g, 0, none⟩) n cap) ∧ w.heap.size ≤ g ∧ Rm zs w' g) ∧ Below w.heap.size w w' := by
  obtain ⟨i0, hi, hz0, hz1, hz2⟩ := info_parts info5c
  have q22 : ∀ (w : World) (a : Option Addr) (n c n' c' : Nat), (binOp .eql 22 (.slice a n c) (.slice none n' c')).run Tryz.prog w = .ok (.bool a.isNone) w := fun w a n c n' c' => Lib.run_eql_slice_nil w _ _ a n c n' c' Tryz.underlying22
  have A := Lib.hid hc
  clear hc
  go_enter Tryz.func26, Tryz.ntmps26
  go_wp2_with (at_builtin; refine wpList_append_own _ rfl _ _ 22 rfl w.heap.size 5 i0 (.int .u8 0) 1 1 Tryz.underlying22 hi hz0 hz1 hz2 rfl (by decide) _ _ _ rfl (World.ownsRow_made w #[] 0 (Nat.le_refl _) (Nat.zero_le _) rfl) ⟨d, off, none⟩ n c (zs.map (Value.int .u8)) rfl ?qc1 ?qc2 ?qc3 ?qc4 ?qc5 ?qc6 ?_)
  case qc1 => simp; omega
  case qc2 =>
    intro j u hj
    have hjn : j < n := by
      have := (List.getElem?_eq_some_iff.1 hj).1
      simp at this
      omega
    rw [Addr.add_lit]
    refine Lib.cell?_alloc_some _ ?_
    rw [A.out j hjn]
    have e : (zs.map (Value.int .u8))[j]? = some (Value.int .u8 (zs.getD j 0)) := by simp [List.getD, List.getElem?_eq_getElem (show j < zs.length by omega)]
    rw [e] at hj
    exact hj
  case qc3 => intro u hu; obtain ⟨x, _, rfl⟩ := List.mem_map.1 hu; rfl
  case qc4 => unfold maxLen; omega
  case qc5 => omega
  case qc6 => simp
  intro v' w1 hown hgrow hnil
  have hown2 : w1.ownsRow w.heap.size 5 1 v' n (zs.map (Value.int .u8)) := by simpa using hown
  obtain ⟨g, cap, rfl, hg, hB⟩ := rm_owns hz hown2 hnil
  have HB := Lib.hid hB
  have hbel := Lib.hid (((Below.refl _ w).alloc (Nat.le_refl _) _).grown hgrow (by simp) (by intro k hk; simp [Value.ownBlock] at hk; omega))
  clear hB hown hown2 hgrow hnil
  go_wp2
  go_ret
  exact ⟨⟨g, cap, rfl, hg, HB.out⟩, hbel.out⟩

end Go.Proofs.YtifajfjiloajfaaGreatDoor.OwnCon

/- The walk of OpsHidden: true at every byte. Condition: the library's own variable reads as an integer. -/
import Derived.Test.YtpicoihlbgceiaaColumns
import Derived.RegionTactic
import Derived.ChangeAlike
namespace Go.Proofs.Ytpicoihlbgceiaa.Own
open Go.RowKit

-- the list of known names, as it stands in the loaded program
def valIn (o : Oper) : List ByteArray :=
  match o.op with
  | .buildSlice _ _ xs => xs.toList.flatMap (fun x => strOf x.2)
  | _ => []
def codeList : Code → List ByteArray
  | .region _ ops _ => ops.toList.flatMap valIn
  | .seq a b => codeList a ++ codeList b
  | .block _ c => codeList c
  | .scope c => codeList c
  | .loop c => codeList c
  | .cond _ a b => codeList a ++ codeList b
  | _ => []
noncomputable def known : List ByteArray := (Try.f8.body.map codeList).getD []
theorem known_length : known.length = 56 := by kernel_rfl
theorem known_all : chk (fun c l => c % 4 != 3 || c == 235 || known.all (fun s => s.data.toList != l)) 256 0 namesL = true := by kernel_rfl
theorem or3_all : (List.range 256).all (fun c => Go.bits .or .u8 (c : Int) 3 == ((c / 4 * 4 + 3 : Nat) : Int)) = true := by decide +kernel
theorem name235 : nameN 235 = ⟨#[83, 66, 67]⟩ := by kernel_rfl
theorem known_hit (a : Nat) (ha : a < 256) (h3 : a % 4 = 3) (s : ByteArray) (hs : s ∈ known) (he : (s.toList == (nameN a).toList) = true) : a = 235 := by
  have h1 := chk_all known_all a ha
  simp only [Bool.or_eq_true, beq_iff_eq, bne_iff_ne, ne_eq, List.all_eq_true] at h1
  rcases h1 with (h1 | h1) | h1
  · omega
  · exact h1
  · rw [Lib.toList_data, Lib.toList_data, nameN_list] at he
    exact absurd (by simpa using he) (h1 s hs)
theorem known_cells (w : World) (b : Nat) (hb : b = w.heap.size) (arr : Array Value) (h : arr = (known.map Value.string).toArray) : ∀ j, j < 56 → (w.alloc (.cells arr 9)).cell? ⟨b, j, none⟩ = some (.string (known.getD j ByteArray.empty)) := by
  intro j hj
  subst hb h
  have hl : j < known.length := by rw [known_length]; exact hj
  simp [go_sem, List.getD_eq_getElem?_getD, hl]
set_option maxHeartbeats 3200000 in
set_option maxRecDepth 100000 in
theorem hidden_any (c : Nat) (mx : Int) (w : World) (hc : c < 256) (hm : w.cell? ⟨0, 0, none⟩ = some (.int .i64 mx)) :
    Calls Try.prog 8 #[.int .u8 c] w fun e w' => e = .returned (.bool true) ∧ Below w.heap.size w w' := by
  have e1 := range_all or3_all c hc
  have e2 := range_all or_all c hc
  simp only [beq_iff_eq] at e1 e2
  have ha : c / 4 * 4 + 3 < 256 := by omega
  have ha4 : (c / 4 * 4 + 3) % 4 = 3 := by omega
  have hb : c / 2 * 2 + 1 < 256 := by omega
  generalize c / 4 * 4 + 3 = a at e1 ha ha4
  generalize c / 2 * 2 + 1 = b at e2 hb
  have HA := Lib.hid (awake_any mx w hm)
  have hsz := nameN_size b hb
  have HK := Lib.hid (known_hit a ha ha4)
  have HX : Hid (∀ w1, Below w.heap.size w w1 → Calls Try.prog 10 #[.int .u8 (a : Int)] w1 fun e w' => e = .returned (.agg #[.string (nameN a), .int .i64 (modeI a), .int .i64 (kindI a)]) ∧ Below w1.heap.size w1 w') :=
    Lib.hid (fun w1 hb => of_any a mx w1 ha (cell_after hb hm))
  have HY : Hid (∀ w1, Below w.heap.size w w1 → Calls Try.prog 10 #[.int .u8 (b : Int)] w1 fun e w' => e = .returned (.agg #[.string (nameN b), .int .i64 (modeI b), .int .i64 (kindI b)]) ∧ Below w1.heap.size w1 w') :=
    Lib.hid (fun w1 hb' => of_any b mx w1 hb (cell_after hb' hm))
  have HN : Hid (a = 235 → nameN a = ⟨#[83, 66, 67]⟩) := Lib.hid (fun h => by rw [h, name235])
  generalize nameN a = na at HX HK HN
  generalize nameN b = nb at HY hsz
  generalize modeI (a : Int) = x at HX
  generalize modeI (b : Int) = y at HY
  generalize kindI a = ka at HX
  generalize kindI b = kb at HY
  clear hm
  go_enter Try.func8, Try.ntmps8
  go_wp2_with fail
  go_at_call 9
  refine HA.out.mono ?_
  rintro e w1 ⟨rfl, hb1⟩
  go_wp2_with fail
  go_at_call 10
  refine (HX.out _ hb1).mono ?_
  rintro e w2 ⟨rfl, hb2⟩
  have hb2' := hb1.trans (hb2.mono hb1.size)
  have hlt := hb2'.size
  go_wp2
  have hx0 : ∀ o : Obj, ((w2.alloc (.cells #[.string na, .int .i64 x, .int .i64 ka] 24)).alloc o).cell? ⟨w2.heap.size, 0, none⟩ = some (.string na) := by
    intro o
    rw [World.cell?_alloc_lt _ o _ (by simp)]
    simp [go_sem]
  go_loopw [6] (fun i wr => ∃ k : Nat, k ≤ 56 ∧ i = .int .i64 k ∧ Below w.heap.size w wr ∧ wr.cell? ⟨w2.heap.size, 0, none⟩ = some (.string na) ∧ (∀ j, j < 56 → wr.cell? ⟨w2.heap.size + 1, j, none⟩ = some (.string (known.getD j ByteArray.empty)))) (fun i _ => 56 - (intOf i).toNat)
  case atStart => exact ⟨0, by omega, rfl, (hb2'.alloc hlt _).alloc (Nat.le_trans hlt (by simp)) _, hx0 _, known_cells _ _ (by simp) _ rfl⟩
  case round =>
    obtain ⟨k, hk, rfl, hbr, hxr, hkr⟩ := hrel
    clear hx0
    by_cases hk56 : k < 56
    · have hck := hkr k hk56
      have hk1 : (k : Int) < 56 := by omega
      have hk0 : 0 ≤ (k : Int) := by omega
      have hmem : known.getD k ByteArray.empty ∈ known := by
        rw [List.getD_eq_getElem?_getD, List.getElem?_eq_getElem (by rw [known_length]; exact hk56)]
        exact List.getElem_mem _
      have HK2 := Lib.hid (HK.out (known.getD k ByteArray.empty) hmem)
      have HKR := Lib.hid hkr
      clear hkr
      generalize known.getD k ByteArray.empty = s at hck HK2
      by_cases hh : (s.toList == na.toList) = true
      · obtain rfl := HK2.out hh
        have hn : (na.toList == [83, 66, 67]) = true := by
          rw [HN.out rfl, Lib.toList_data]
          rfl
        go_wp2
        go_region
        all_goals
          go_wp2
          go_ret
          exact ⟨rfl, hbr.drew⟩
      · have hh : (s.toList == na.toList) = false := by simpa using hh
        go_wp2
        go_region
        all_goals
          go_wp2
          go_roundw
          case rel => exact ⟨k + 1, by omega, by simp, hbr.drew, by simpa using hxr, fun j hj => by simpa using HKR.out j hj⟩
          case measure => simp [intOf]; omega
    · have hk1 : ¬ (k : Int) < 56 := by omega
      go_wp2_with fail
      go_at_call 10
      refine (HY.out _ hbr).mono ?_
      rintro e w3 ⟨rfl, hb3⟩
      have hb3' := hbr.trans (hb3.mono hbr.size)
      go_wp2
      go_ret
      exact ⟨rfl, hb3'.alloc hb3'.size _⟩
theorem hidden_row (W : World) (a : Int) (h : 0 ≤ a ∧ a < 256) (mx : Int) (hm : W.cell? ⟨0, 0, none⟩ = some (.int .i64 mx)) :
    Calls Try.prog 8 #[.int .u8 a] W fun e w' => e = .returned (.bool true) ∧ Below W.heap.size W w' := by
  obtain ⟨c, rfl⟩ := Int.eq_ofNat_of_zero_le h.1
  exact hidden_any c mx W (by omega) hm
end Go.Proofs.Ytpicoihlbgceiaa.Own

/- The walk of OpsNames: true at any text, opcode and choice. Condition: the library's own variable reads as an integer. -/
import Derived.Test.YtpicoihlbgceiaaCell
import Derived.Test.YtpicoihlbgceiaaOnce
namespace Go.Proofs.Ytpicoihlbgceiaa.Own
open Go.RowKit

/-- How many codes below k have a name. -/
noncomputable def upto (s : ByteArray) (k : Nat) : Nat := ((List.range k).filter (fun c => (nameN c).toList == s.toList)).length
theorem codesL_eq (s : ByteArray) : codesL s.data.toList = ((List.range 256).filter (fun c => (nameN c).toList == s.toList)).map (fun c : Nat => (c : Int)) := by
  unfold codesL
  congr 2
  funext c
  rw [Lib.toList_data, Lib.toList_data, nameN_list]
theorem upto_miss (s : ByteArray) (k : Nat) (h : ((nameN k).toList == s.toList) = false) : upto s (k + 1) = upto s k := by
  simp [upto, List.range_succ, List.filter_append, h]
theorem upto_hit (s : ByteArray) (k : Nat) (h : ((nameN k).toList == s.toList) = true) : upto s (k + 1) = upto s k + 1 := by
  simp [upto, List.range_succ, List.filter_append, h]
theorem upto_all (s : ByteArray) : upto s 256 = (codesL s.data.toList).length := by
  rw [codesL_eq, List.length_map]
  rfl
theorem codes_hit (s : ByteArray) (k : Nat) (hk : k < 256) (h : ((nameN k).toList == s.toList) = true) : upto s k < (codesL s.data.toList).length ∧ (codesL s.data.toList).getD (upto s k) 0 = (k : Int) := by
  have e : List.range 256 = List.range k ++ [k] ++ (List.range (256 - (k + 1))).map (fun j => k + 1 + j) := by
    rw [← List.range_succ, ← List.range_add]
    congr 1
    omega
  rw [codesL_eq, e, List.filter_append, List.filter_append, List.map_append, List.map_append]
  have e1 : (([k] : List Nat).filter (fun c => (nameN c).toList == s.toList)) = [k] := by simp [h]
  rw [e1]
  unfold upto
  constructor
  · simp
  · simp [List.getD_eq_getElem?_getD]
theorem upto_le (s : ByteArray) : ∀ k, upto s k ≤ k
  | 0 => by simp [upto]
  | k + 1 => by
    have := upto_le s k
    cases h : ((nameN k).toList == s.toList)
    · rw [upto_miss s k h]; omega
    · rw [upto_hit s k h]; omega
/-- The codes of a name: nothing, or a slice of the numbers. -/
theorem codes_list (s : ByteArray) (w : World) : Calls Try.prog 15 #[.string s] w fun e w' => ∃ v, e = .returned v ∧ ((v = .slice none 0 0 ∧ (codesL s.data.toList).length = 0) ∨
    (∃ g cap, v = .slice (some ⟨g, 0, none⟩) (codesL s.data.toList).length cap ∧ (w.heap.size ≤ g ∧ g < w'.heap.size ∧ ∀ j, j < (codesL s.data.toList).length → w'.cell? ⟨g, j, none⟩ = some (.int .u8 ((codesL s.data.toList).getD j 0))))) ∧ Below w.heap.size w w' := by
  refine (codes_any s w).mono ?_
  rintro e w' ⟨v, rfl, hown, hb⟩
  rw [hits_all] at hown
  refine ⟨v, rfl, ?_, hb⟩
  generalize codesL s.data.toList = L at hown
  have hown' := hown
  rcases hown.2 with ⟨h0, hn⟩ | ⟨g, cap, cur, rfl, _⟩
  · exact .inl ⟨h0, by simpa using hn⟩
  · have hlt := hown.lt g rfl
    refine .inr ⟨g, cap, rfl, by omega, by omega, fun j hj => ?_⟩
    rw [hown'.cellAt j (by simpa using hj)]
    simp [List.getD_eq_getElem?_getD, hj]
set_option maxHeartbeats 6400000 in
set_option maxRecDepth 100000 in
theorem names_any (s : ByteArray) (c : Nat) (own : Bool) (mx : Int) (w : World) (hc : c < 256) (hm : w.cell? ⟨0, 0, none⟩ = some (.int .i64 mx)) :
    Calls Try.prog 4 #[.string s, .int .u8 c, .bool own] w fun e w' => e = .returned (.bool true) ∧ Below w.heap.size w w' := by
  have HA := Lib.hid (awake_any mx w hm)
  have HO := Lib.hid (fun w => cell_any c w hc)
  have HL := Lib.hid (fun k w (h : k < 256) => cell_any k w h)
  have HC := Lib.hid (fun s w => codes_list s w)
  have HN := Lib.hid (nameN_size c hc)
  clear hm
  generalize nameN c = nc at HO HN
  generalize modeT c = mc at HO
  cases own
  · go_enter Try.func4, Try.ntmps4
    go_wp2_with fail
    go_at_call 9
    refine HA.out.mono ?_
    rintro e wr ⟨rfl, hbr⟩
    by_cases h10 : s.size ≤ 10
    · have h10' : ¬ 10 < (s.size : Int) := by omega
      go_wp2_with fail
      go_at_call 15
      refine (HC.out s _).mono ?_
      rintro e w3 ⟨v, rfl, hv, hb3⟩
      have hb3' := hbr.trans (hb3.mono hbr.size)
      have HM := Lib.hid (upto_miss s)
      have HH := Lib.hid (upto_hit s)
      have HK := Lib.hid (codes_hit s)
      have hall := upto_all s
      have HU := Lib.hid (upto_le s)
      have hz : upto s 0 = 0 := rfl
      generalize codesL s.data.toList = L at hv HK hall
      generalize upto s = U at HM HH HK hall HU hz
      clear hb3
      rcases hv with ⟨rfl, hn0⟩ | ⟨g, cap, rfl, hcells⟩
      · go_wp2
        go_loopw [9, 10] (fun n i wr => ∃ k : Nat, k ≤ 256 ∧ n = .int .i64 (U k : Nat) ∧ i = .int .i64 k ∧ Below w.heap.size w wr) (fun _ i _ => 256 - (intOf i).toNat)
        case atStart => exact ⟨0, by omega, by rw [hz]; rfl, rfl, hb3'⟩
        case round =>
          obtain ⟨k, hk, rfl, rfl, hbk⟩ := hrel
          by_cases hk6 : k < 256
          · have hk1 : (k : Int) < 256 := by omega
            have hk0 : 0 ≤ (k : Int) := by omega
            go_wp2_with fail
            go_at_call 14
            refine (HL.out k _ hk6).mono ?_
            rintro e w4 ⟨rfl, hb4⟩
            have hb4' := hbk.trans (hb4.mono hbk.size)
            have hms := HM.out k
            have hhit := HK.out k hk6
            generalize nameN k = nk at hms hhit
            have hh : (nk.toList == s.toList) = false := by
              cases hx : (nk.toList == s.toList)
              · rfl
              · have := (hhit hx).1
                omega
            have hu := hms hh
            clear hms hhit
            go_wp2
            go_roundw
            case rel => exact ⟨k + 1, by omega, by rw [hu], by simp, hb4'⟩
            case measure => simp [intOf]; omega
          · have hk1 : ¬ (k : Int) < 256 := by omega
            obtain rfl : k = 256 := by omega
            rw [hall, hn0]
            go_wp2
            go_ret
            exact ⟨rfl, hbk⟩
      · have HX := Lib.hid hcells
        have hlt := hcells.2.1
        have hLL : (L.length : Int) ≤ 256 := by have := HU.out 256; omega
        clear hcells
        go_wp2
        go_loopw [9, 10] (fun n i wr => ∃ k : Nat, k ≤ 256 ∧ n = .int .i64 (U k : Nat) ∧ i = .int .i64 k ∧ Below w.heap.size w wr ∧ Below w3.heap.size w3 wr) (fun _ i _ => 256 - (intOf i).toNat)
        case atStart => exact ⟨0, by omega, by rw [hz]; rfl, rfl, hb3', Below.refl _ _⟩
        case round =>
          obtain ⟨k, hk, rfl, rfl, hbk, hbx⟩ := hrel
          by_cases hk6 : k < 256
          · have hk1 : (k : Int) < 256 := by omega
            have hk0 : 0 ≤ (k : Int) := by omega
            go_wp2_with fail
            go_at_call 14
            refine (HL.out k _ hk6).mono ?_
            rintro e w4 ⟨rfl, hb4⟩
            have hb4' := hbk.trans (hb4.mono hbk.size)
            have hbx' := hbx.trans (hb4.mono hbx.size)
            have hms := HM.out k
            have hhs := HH.out k
            have hhit := HK.out k hk6
            have huk := HU.out k
            generalize nameN k = nk at hms hhit hhs
            by_cases hh : (nk.toList == s.toList) = true
            · have hu := hhs hh
              have hx := hhit hh
              have hcell := (hbx'.cell (p := ⟨g, U k, none⟩) hlt).trans (HX.out.2.2 (U k) hx.1)
              rw [hx.2] at hcell
              have hx1 : ((U k : Nat) : Int) < L.length := by omega
              have hx0 : 0 ≤ ((U k : Nat) : Int) := by omega
              clear hms hhit hhs hx
              generalize hUk : U k = u at hu hcell hx1 hx0 huk
              go_wp2
              go_roundw
              case rel => exact ⟨k + 1, by omega, by rw [hu]; simp, by simp, hb4', hbx'⟩
              case measure => simp [intOf]; omega
            · have hh : (nk.toList == s.toList) = false := by simpa using hh
              have hu := hms hh
              clear hms hhit hhs
              go_wp2
              go_roundw
              case rel => exact ⟨k + 1, by omega, by rw [hu], by simp, hb4', hbx'⟩
              case measure => simp [intOf]; omega
          · have hk1 : ¬ (k : Int) < 256 := by omega
            obtain rfl : k = 256 := by omega
            rw [hall]
            go_wp2
            go_ret
            exact ⟨rfl, hbk⟩
    · have h10' : 10 < (s.size : Int) := by omega
      go_wp2
      go_ret
      exact ⟨rfl, hbr⟩
  · go_enter Try.func4, Try.ntmps4
    go_wp2_with fail
    go_at_call 9
    refine HA.out.mono ?_
    rintro e w1 ⟨rfl, hb1⟩
    go_wp2_with fail
    go_at_call 14
    refine (HO.out _).mono ?_
    rintro e wr ⟨rfl, hb2⟩
    have hbr := hb1.trans (hb2.mono hb1.size)
    have hsz := HN.out
    generalize nc = s at hsz
    clear hb1 hb2
    by_cases h10 : s.size ≤ 10
    · have h10' : ¬ 10 < (s.size : Int) := by omega
      go_wp2_with fail
      go_at_call 15
      refine (HC.out s _).mono ?_
      rintro e w3 ⟨v, rfl, hv, hb3⟩
      have hb3' := hbr.trans (hb3.mono hbr.size)
      have HM := Lib.hid (upto_miss s)
      have HH := Lib.hid (upto_hit s)
      have HK := Lib.hid (codes_hit s)
      have hall := upto_all s
      have HU := Lib.hid (upto_le s)
      have hz : upto s 0 = 0 := rfl
      generalize codesL s.data.toList = L at hv HK hall
      generalize upto s = U at HM HH HK hall HU hz
      clear hb3
      rcases hv with ⟨rfl, hn0⟩ | ⟨g, cap, rfl, hcells⟩
      · go_wp2
        go_loopw [9, 10] (fun n i wr => ∃ k : Nat, k ≤ 256 ∧ n = .int .i64 (U k : Nat) ∧ i = .int .i64 k ∧ Below w.heap.size w wr) (fun _ i _ => 256 - (intOf i).toNat)
        case atStart => exact ⟨0, by omega, by rw [hz]; rfl, rfl, hb3'⟩
        case round =>
          obtain ⟨k, hk, rfl, rfl, hbk⟩ := hrel
          by_cases hk6 : k < 256
          · have hk1 : (k : Int) < 256 := by omega
            have hk0 : 0 ≤ (k : Int) := by omega
            go_wp2_with fail
            go_at_call 14
            refine (HL.out k _ hk6).mono ?_
            rintro e w4 ⟨rfl, hb4⟩
            have hb4' := hbk.trans (hb4.mono hbk.size)
            have hms := HM.out k
            have hhit := HK.out k hk6
            generalize nameN k = nk at hms hhit
            have hh : (nk.toList == s.toList) = false := by
              cases hx : (nk.toList == s.toList)
              · rfl
              · have := (hhit hx).1
                omega
            have hu := hms hh
            clear hms hhit
            go_wp2
            go_roundw
            case rel => exact ⟨k + 1, by omega, by rw [hu], by simp, hb4'⟩
            case measure => simp [intOf]; omega
          · have hk1 : ¬ (k : Int) < 256 := by omega
            obtain rfl : k = 256 := by omega
            rw [hall, hn0]
            go_wp2
            go_ret
            exact ⟨rfl, hbk⟩
      · have HX := Lib.hid hcells
        have hlt := hcells.2.1
        have hLL : (L.length : Int) ≤ 256 := by have := HU.out 256; omega
        clear hcells
        go_wp2
        go_loopw [9, 10] (fun n i wr => ∃ k : Nat, k ≤ 256 ∧ n = .int .i64 (U k : Nat) ∧ i = .int .i64 k ∧ Below w.heap.size w wr ∧ Below w3.heap.size w3 wr) (fun _ i _ => 256 - (intOf i).toNat)
        case atStart => exact ⟨0, by omega, by rw [hz]; rfl, rfl, hb3', Below.refl _ _⟩
        case round =>
          obtain ⟨k, hk, rfl, rfl, hbk, hbx⟩ := hrel
          by_cases hk6 : k < 256
          · have hk1 : (k : Int) < 256 := by omega
            have hk0 : 0 ≤ (k : Int) := by omega
            go_wp2_with fail
            go_at_call 14
            refine (HL.out k _ hk6).mono ?_
            rintro e w4 ⟨rfl, hb4⟩
            have hb4' := hbk.trans (hb4.mono hbk.size)
            have hbx' := hbx.trans (hb4.mono hbx.size)
            have hms := HM.out k
            have hhs := HH.out k
            have hhit := HK.out k hk6
            have huk := HU.out k
            generalize nameN k = nk at hms hhit hhs
            by_cases hh : (nk.toList == s.toList) = true
            · have hu := hhs hh
              have hx := hhit hh
              have hcell := (hbx'.cell (p := ⟨g, U k, none⟩) hlt).trans (HX.out.2.2 (U k) hx.1)
              rw [hx.2] at hcell
              have hx1 : ((U k : Nat) : Int) < L.length := by omega
              have hx0 : 0 ≤ ((U k : Nat) : Int) := by omega
              clear hms hhit hhs hx
              generalize hUk : U k = u at hu hcell hx1 hx0 huk
              go_wp2
              go_roundw
              case rel => exact ⟨k + 1, by omega, by rw [hu]; simp, by simp, hb4', hbx'⟩
              case measure => simp [intOf]; omega
            · have hh : (nk.toList == s.toList) = false := by simpa using hh
              have hu := hms hh
              clear hms hhit hhs
              go_wp2
              go_roundw
              case rel => exact ⟨k + 1, by omega, by rw [hu], by simp, hb4', hbx'⟩
              case measure => simp [intOf]; omega
          · have hk1 : ¬ (k : Int) < 256 := by omega
            obtain rfl : k = 256 := by omega
            rw [hall]
            go_wp2
            go_ret
            exact ⟨rfl, hbk⟩
    · omega
theorem names_row (W : World) (s : ByteArray) (a : Int) (own : Bool) (h : 0 ≤ a ∧ a < 256) (mx : Int) (hm : W.cell? ⟨0, 0, none⟩ = some (.int .i64 mx)) :
    Calls Try.prog 4 #[.string s, .int .u8 a, .bool own] W fun e w' => e = .returned (.bool true) ∧ Below W.heap.size W w' := by
  obtain ⟨c, rfl⟩ := Int.eq_ofNat_of_zero_le h.1
  exact names_any s c own mx W (by omega) hm
end Go.Proofs.Ytpicoihlbgceiaa.Own

/- The walk of OpsOnce: true at any two bytes. Condition: the library's own variable reads as an integer. -/
import Derived.Test.YtpicoihlbgceiaaColumns
import Derived.RegionTactic
import Derived.ChangeAlike
namespace Go.Proofs.Ytpicoihlbgceiaa.Own
open Go.RowKit

theorem names_same : names = tbl Try.f18 0 := by kernel_rfl
/-- The codes with a name, in the table's order. -/
noncomputable def codesL (s : List UInt8) : List Int := ((List.range 256).filter (fun c => nameL c == s)).map (fun c : Nat => (c : Int))
theorem hits_codes (s : ByteArray) : ∀ n, n ≤ 256 → hits s (3 * n) = ((List.range n).filter (fun c => nameL c == s.data.toList)).map (fun c : Nat => (c : Int))
  | 0, _ => by simp [hits]
  | n + 1, h => by
    have ih := hits_codes s n (by omega)
    have e2 : hits s (3 * n + 3) = hits s (3 * n + 1) := by
      rw [hits_miss s (3 * n + 2) (by simp [hit]), hits_miss s (3 * n + 1) (by simp [hit])]
    have e3 : (names.extract (3 * n) (3 * n + 3)).toList = nameL n := by
      rw [Lib.toList_data, names_same, Lib.extract_data, show 3 * n + 3 - 3 * n = 3 by omega]
      rfl
    rw [show 3 * (n + 1) = 3 * n + 3 by omega, e2, List.range_succ, List.filter_append, List.map_append, ← ih]
    cases hh : (nameL n == s.data.toList)
    · rw [hits_miss s (3 * n) (by simp [hit, e3, Lib.toList_data, hh])]
      simp [hh]
    · rw [hits_hit s (3 * n) (by simp [hit, e3, Lib.toList_data, hh])]
      simp [hh]
theorem hits_all (s : ByteArray) : hits s 768 = codesL s.data.toList := hits_codes s 256 (by omega)
/-- How often a number stands in a list. -/
def cnt (a : Int) : List Int → Nat
  | [] => 0
  | x :: xs => (if x = a then 1 else 0) + cnt a xs
theorem cnt_append (a : Int) : ∀ xs ys, cnt a (xs ++ ys) = cnt a xs + cnt a ys
  | [], ys => by simp [cnt]
  | x :: xs, ys => by simp [cnt, cnt_append a xs ys]; omega
theorem cnt_map (a : Nat) (P : Nat → Bool) : ∀ n, cnt a (((List.range n).filter P).map (fun c : Nat => (c : Int))) = if a < n ∧ P a = true then 1 else 0
  | 0 => by simp [cnt]
  | n + 1 => by
    have ih := cnt_map a P n
    rw [List.range_succ, List.filter_append, List.map_append, cnt_append, ih]
    by_cases hn : n = a
    · subst hn
      cases hp : P n <;> simp [hp, cnt]
    · have h2 : cnt (a : Int) ((List.filter P [n]).map (fun c : Nat => (c : Int))) = 0 := by
        cases hp : P n <;> simp [hp, cnt] <;> omega
      rw [h2]
      by_cases h3 : a < n ∧ P a = true
      · rw [if_pos h3, if_pos ⟨by omega, h3.2⟩]
      · rw [if_neg h3, if_neg (fun h4 => h3 ⟨by omega, h4.2⟩)]
theorem cnt_own (a : Nat) (ha : a < 256) : cnt a (codesL (nameL a)) = 1 := by
  unfold codesL
  rw [cnt_map, if_pos ⟨ha, by simp⟩]
def four (l : List UInt8) : Bool := l == [78, 79, 80] || l == [74, 65, 77] || l == [83, 66, 67] || l == [65, 78, 67]
def key (l : List UInt8) (m : Int) : Nat := l.foldl (fun n b => n * 256 + b.toNat) m.toNat
noncomputable def keysFrom : Nat → Nat → List UInt8 → List Nat
  | 0, _, _ => []
  | n + 1, c, l => (if four (l.take 3) then [] else [key (l.take 3) (modeI (c : Int))]) ++ keysFrom n (c + 1) (l.drop 3)
def nodupB : List Nat → Bool
  | [] => true
  | x :: xs => xs.all (fun y => !Nat.beq x y) && nodupB xs
theorem keys_nodup : nodupB (keysFrom 256 0 namesL) = true := by kernel_rfl
theorem key_mem : ∀ (n c : Nat) (l : List UInt8) (i : Nat), i < n → four ((l.drop (3 * i)).take 3) = false → key ((l.drop (3 * i)).take 3) (modeI ((c + i : Nat) : Int)) ∈ keysFrom n c l
  | 0, _, _, i, hi, _ => by omega
  | n + 1, c, l, 0, _, hf => by
    have hf' : four (l.take 3) = false := by simpa using hf
    simp [keysFrom, hf']
  | n + 1, c, l, i + 1, hi, hf => by
    have h1 : l.drop (3 * (i + 1)) = (l.drop 3).drop (3 * i) := by rw [List.drop_drop]; congr 1; omega
    rw [h1] at hf ⊢
    have := key_mem n (c + 1) (l.drop 3) i (by omega) hf
    rw [show c + 1 + i = c + (i + 1) by omega] at this
    unfold keysFrom
    exact List.mem_append_right _ this
theorem nodup_tail {xs : List Nat} {x : Nat} (b : Bool) (h : nodupB ((if b = true then [] else [x]) ++ xs) = true) : nodupB xs = true ∧ (b = false → ∀ y ∈ xs, x ≠ y) := by
  cases b
  · simp only [Bool.false_eq_true, ↓reduceIte, List.singleton_append, nodupB, Bool.and_eq_true, List.all_eq_true, Bool.not_eq_true'] at h
    refine ⟨h.2, fun _ y hy e => ?_⟩
    have := h.1 y hy
    rw [e, Nat.beq_refl] at this
    cases this
  · simp only [↓reduceIte, List.nil_append] at h
    exact ⟨h, fun h => by cases h⟩
theorem nodup_pair : ∀ (n c : Nat) (l : List UInt8), nodupB (keysFrom n c l) = true → ∀ i j, i < j → j < n → four ((l.drop (3 * i)).take 3) = false → four ((l.drop (3 * j)).take 3) = false →
    key ((l.drop (3 * i)).take 3) (modeI ((c + i : Nat) : Int)) ≠ key ((l.drop (3 * j)).take 3) (modeI ((c + j : Nat) : Int))
  | 0, _, _, _, i, j, _, hj, _, _ => by omega
  | n + 1, c, l, h, i, 0, hij, _, _, _ => by omega
  | n + 1, c, l, h, i, j + 1, hij, hj, hfi, hfj => by
    have h0 := nodup_tail _ h
    have h1 : l.drop (3 * (j + 1)) = (l.drop 3).drop (3 * j) := by rw [List.drop_drop]; congr 1; omega
    rw [h1] at hfj ⊢
    rw [show c + (j + 1) = c + 1 + j by omega]
    cases i with
    | zero =>
      have hfi' : four (l.take 3) = false := by simpa using hfi
      have := h0.2 hfi' _ (key_mem n (c + 1) (l.drop 3) j (by omega) hfj)
      simpa using this
    | succ i =>
      have h2 : l.drop (3 * (i + 1)) = (l.drop 3).drop (3 * i) := by rw [List.drop_drop]; congr 1; omega
      rw [h2] at hfi ⊢
      rw [show c + (i + 1) = c + 1 + i by omega]
      exact nodup_pair n (c + 1) (l.drop 3) h0.1 i j (by omega) (by omega) hfi hfj
theorem once_lt (a b : Nat) (hab : a < b) (hb : b < 256) (hn : nameL a = nameL b) (hm : modeI (a : Int) = modeI (b : Int)) : four (nameL a) = true := by
  cases hf : four (nameL a)
  · have h1 := nodup_pair 256 0 namesL keys_nodup a b hab hb hf (by rw [← hf, hn]; rfl)
    rw [Nat.zero_add, Nat.zero_add] at h1
    exact absurd (show key (nameL a) (modeI (a : Int)) = key (nameL b) (modeI (b : Int)) by rw [hn, hm]) h1
  · rfl
theorem once_all (a b : Nat) (ha : a < 256) (hb : b < 256) (hab : a ≠ b) (hn : nameL a = nameL b) (hm : modeI (a : Int) = modeI (b : Int)) : four (nameL a) = true := by
  by_cases h : a < b
  · exact once_lt a b h hb hn hm
  · rw [hn]
    exact once_lt b a (by omega) ha hn.symm hm.symm
/-- The codes of an opcode's own name. -/
theorem codes_own (a : Nat) (ha : a < 256) (w : World) : Calls Try.prog 15 #[.string (nameN a)] w fun e w' => ∃ (g cap : Nat) (L : List Int), e = .returned (.slice (some ⟨g, 0, none⟩) L.length cap) ∧ L.length ≤ 256 ∧ cnt a L = 1 ∧
    (∀ j, j < L.length → w'.cell? ⟨g, j, none⟩ = some (.int .u8 (L.getD j 0))) ∧ Below w.heap.size w w' := by
  refine (codes_any _ w).mono ?_
  rintro e w' ⟨v, rfl, hown, hb⟩
  rw [hits_all, nameN_list] at hown
  have hc := cnt_own a ha
  have hle : (codesL (nameL a)).length ≤ 256 := by
    unfold codesL
    rw [List.length_map]
    exact Nat.le_trans (List.length_filter_le _ _) (by simp)
  generalize codesL (nameL a) = L at hown hc hle
  rcases hown.2 with ⟨h0, hn⟩ | ⟨g, cap, cur, rfl, _⟩
  · have : L = [] := List.length_eq_zero_iff.1 hn
    subst this
    simp [cnt] at hc
  · refine ⟨g, cap, L, rfl, hle, hc, fun j hj => ?_, hb⟩
    rw [hown.cellAt j (by simpa using hj)]
    simp [List.getD_eq_getElem?_getD, hj]
theorem kept_all {w w' : World} {s m k : Value} {t : TypeId} (hb : Below (w.alloc (.cells #[s, m, k] t)).heap.size (w.alloc (.cells #[s, m, k] t)) w') :
    w'.cell? ⟨w.heap.size, 0, none⟩ = some s ∧ w'.cell? ⟨w.heap.size, 1, none⟩ = some m ∧ w'.cell? ⟨w.heap.size, 2, none⟩ = some k ∧ w.heap.size < w'.heap.size := by
  have hlt : w.heap.size < (w.alloc (.cells #[s, m, k] t)).heap.size := by simp
  refine ⟨?_, ?_, ?_, Nat.lt_of_lt_of_le hlt hb.size⟩
  all_goals rw [hb.cell hlt]; simp [go_sem]
theorem cnt_le (a : Int) : ∀ xs : List Int, cnt a xs ≤ xs.length
  | [] => by simp [cnt]
  | x :: xs => by have := cnt_le a xs; simp only [cnt, List.length_cons]; split <;> omega
theorem cnt_take (a : Int) (L : List Int) (k : Nat) (h : k < L.length) : cnt a (L.take (k + 1)) = cnt a (L.take k) + (if L.getD k 0 = a then 1 else 0) := by
  rw [List.take_add_one, List.getElem?_eq_getElem h, cnt_append]
  simp [cnt, List.getD_eq_getElem?_getD, List.getElem?_eq_getElem h]
def sameP (a b : Nat) (na nb : ByteArray) (x y : Int) : Prop := a = b ∨ (na.toList == nb.toList) = false ∨ x ≠ y ∨ (na.toList == [78, 79, 80]) = true ∨ (na.toList == [74, 65, 77]) = true ∨ (na.toList == [83, 66, 67]) = true ∨ (na.toList == [65, 78, 67]) = true
theorem same_all (a b : Nat) (ha : a < 256) (hb : b < 256) : sameP a b (nameN a) (nameN b) (modeI (a : Int)) (modeI (b : Int)) := by
  by_cases h1 : a = b
  · exact .inl h1
  by_cases h2 : nameL a = nameL b
  · by_cases h3 : modeI (a : Int) = modeI (b : Int)
    · have h4 := once_all a b ha hb h1 h2 h3
      simp only [four, Bool.or_eq_true] at h4
      refine .inr (.inr (.inr ?_))
      rw [Lib.toList_data, nameN_list]
      rcases h4 with ((h4 | h4) | h4) | h4
      · exact .inl h4
      · exact .inr (.inl h4)
      · exact .inr (.inr (.inl h4))
      · exact .inr (.inr (.inr h4))
    · exact .inr (.inr (.inl h3))
  · refine .inr (.inl ?_)
    rw [Lib.toList_data, Lib.toList_data, nameN_list, nameN_list]
    simpa using h2
set_option maxHeartbeats 3200000 in
set_option maxRecDepth 100000 in
theorem once_any (a b : Nat) (mx : Int) (w : World) (ha : a < 256) (hb : b < 256) (hm : w.cell? ⟨0, 0, none⟩ = some (.int .i64 mx)) :
    Calls Try.prog 5 #[.int .u8 a, .int .u8 b] w fun e w' => e = .returned (.bool true) ∧ Below w.heap.size w w' := by
  have HA := Lib.hid (awake_any mx w hm)
  have HX : Hid (∀ w1, Below w.heap.size w w1 → Calls Try.prog 10 #[.int .u8 (a : Int)] w1 fun e w' => e = .returned (.agg #[.string (nameN a), .int .i64 (modeI a), .int .i64 (kindI a)]) ∧ Below w1.heap.size w1 w') :=
    Lib.hid (fun w1 hb => of_any a mx w1 ha (cell_after hb hm))
  have HY : Hid (∀ w1, Below w.heap.size w w1 → Calls Try.prog 10 #[.int .u8 (b : Int)] w1 fun e w' => e = .returned (.agg #[.string (nameN b), .int .i64 (modeI b), .int .i64 (kindI b)]) ∧ Below w1.heap.size w1 w') :=
    Lib.hid (fun w1 hb' => of_any b mx w1 hb (cell_after hb' hm))
  have HC := Lib.hid (codes_own a ha)
  have HS := Lib.hid (same_all a b ha hb)
  generalize nameN a = na at HX HC HS
  generalize nameN b = nb at HY HS
  generalize modeI (a : Int) = x at HX HS
  generalize modeI (b : Int) = y at HY HS
  generalize kindI a = ka at HX
  generalize kindI b = kb at HY
  clear hm
  go_enter Try.func5, Try.ntmps5
  go_wp2_with fail
  go_at_call 9
  refine HA.out.mono ?_
  rintro e w1 ⟨rfl, hb1⟩
  go_wp2_with fail
  go_at_call 10
  refine (HX.out _ hb1).mono ?_
  rintro e w2 ⟨rfl, hb2⟩
  have hb2' := hb1.trans (hb2.mono hb1.size)
  have hb2a := hb2'.alloc hb2'.size (.cells #[.string na, .int .i64 x, .int .i64 ka] 24)
  go_wp2_with fail
  go_at_call 10
  refine (HY.out _ hb2a).mono ?_
  rintro e w3 ⟨rfl, hb3⟩
  have hb3' := hb2a.trans (hb3.mono hb2a.size)
  obtain ⟨X0, X1, X2, hlt3⟩ := kept_all hb3
  have hb3a := hb3'.alloc hb3'.size (.cells #[.string nb, .int .i64 y, .int .i64 kb] 24)
  have X0a : (w3.alloc (.cells #[.string nb, .int .i64 y, .int .i64 kb] 24)).cell? ⟨w2.heap.size, 0, none⟩ = some (.string na) := (World.cell?_alloc_lt _ _ _ hlt3).trans X0
  go_wp2_with fail
  go_at_call 15
  refine (HC.out _).mono ?_
  rintro e w4 ⟨g, cap, L, rfl, hL, hcL, hcells, hb4⟩
  have hb4' := hb3a.trans (hb4.mono hb3a.size)
  obtain ⟨Y0, Y1, Y2, _⟩ := kept_all hb4
  have hlt3a : w2.heap.size < (w3.alloc (.cells #[.string nb, .int .i64 y, .int .i64 kb] 24)).heap.size := by simp; omega
  have Z0 := (hb4.cell (p := ⟨w2.heap.size, 0, none⟩) hlt3a).trans X0a
  have Z1 := (hb4.cell (p := ⟨w2.heap.size, 1, none⟩) hlt3a).trans ((World.cell?_alloc_lt _ _ _ hlt3).trans X1)
  have Z2 := (hb4.cell (p := ⟨w2.heap.size, 2, none⟩) hlt3a).trans ((World.cell?_alloc_lt _ _ _ hlt3).trans X2)
  clear X0 X1 X2 X0a hb4 hb3
  have HL := Lib.hid hcells
  clear hcells
  have hL2 : (L.length : Int) ≤ 256 := by omega
  go_wp2
  go_loop [9, 10] (fun m i => ∃ k : Nat, k ≤ L.length ∧ m = .int .i64 (cnt a (L.take k) : Nat) ∧ i = .int .i64 k) (fun _ i => L.length - (intOf i).toNat)
  case atStart => exact ⟨0, by omega, by simp [cnt], rfl⟩
  case round =>
    obtain ⟨k, hk, rfl, rfl⟩ := hrel
    by_cases hkL : k < L.length
    · have hck := HL.out k hkL
      have hk1 : (k : Int) < L.length := by omega
      have hk0 : 0 ≤ (k : Int) := by omega
      have hcn := cnt_le a (L.take k)
      have hcm : ((cnt a (L.take k) : Nat) : Int) ≤ 256 := by have := List.length_take_le k L; omega
      have htk := cnt_take a L k hkL
      generalize L.getD k 0 = z at hck htk
      by_cases hz : (z == (a : Int)) = true
      · have hz' : z = a := by simpa using hz
        rw [if_pos hz'] at htk
        go_wp2
        go_roundw
        case rel => exact ⟨k + 1, by omega, by rw [htk]; simp, by simp⟩
        case measure => simp [intOf]; omega
      · have hz : (z == (a : Int)) = false := by simpa using hz
        have hz' : ¬ z = a := by simpa using hz
        rw [if_neg hz'] at htk
        go_wp2
        go_roundw
        case rel => exact ⟨k + 1, by omega, by rw [htk]; simp, by simp⟩
        case measure => simp [intOf]; omega
    · have hk1 : ¬ (k : Int) < L.length := by omega
      obtain rfl : k = L.length := by omega
      rw [List.take_length, hcL]
      go_wp2
      all_goals
        first
        | (go_ret; exact ⟨rfl, hb4'⟩)
        | (exfalso; have hS := HS.out; unfold sameP at hS; simp_all; done)
        | (have hS := HS.out
           unfold sameP at hS
           have hv : (nb.toList == [65, 78, 67]) = true := by
             rcases hS with h | h | h | h | h | h | h <;> simp_all
           go_ret
           refine ⟨?_, hb4'⟩
           show Ending.returned (.bool (((a : Int) == (b : Int)) || (nb.toList == [78, 79, 80] || nb.toList == [74, 65, 77] || nb.toList == [83, 66, 67] || nb.toList == [65, 78, 67]))) = _
           rw [hv]
           simp)
theorem once_row (W : World) (a b : Int) (h : 0 ≤ a ∧ a < 256) (h' : 0 ≤ b ∧ b < 256) (mx : Int) (hm : W.cell? ⟨0, 0, none⟩ = some (.int .i64 mx)) :
    Calls Try.prog 5 #[.int .u8 a, .int .u8 b] W fun e w' => e = .returned (.bool true) ∧ Below W.heap.size W w' := by
  obtain ⟨c, rfl⟩ := Int.eq_ofNat_of_zero_le h.1
  obtain ⟨d, rfl⟩ := Int.eq_ofNat_of_zero_le h'.1
  exact once_any c d mx W (by omega) (by omega) hm
end Go.Proofs.Ytpicoihlbgceiaa.Own

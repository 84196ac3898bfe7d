/- The document's cells, and their contract. Condition: bytes are bytes. -/
import Derived.Test.YtpicoihlbgceiaaTab
import Derived.RegionTactic
import Derived.ChangeAlike
namespace Go.Proofs.Ytpicoihlbgceiaa.Own
open Go.RowKit

-- the rows, as they stand in the loaded program
def valsIn (o : Oper) : List ByteArray :=
  match o.op with
  | .buildSlice _ _ xs => xs.toList.flatMap (fun x => strOf x.2)
  | _ => []
def codeVals : Code → List ByteArray
  | .region _ ops _ => ops.toList.flatMap valsIn
  | .seq a b => codeVals a ++ codeVals b
  | .block _ c => codeVals c
  | .scope c => codeVals c
  | .loop c => codeVals c
  | .cond _ a b => codeVals a ++ codeVals b
  | _ => []
noncomputable def rowsB : List ByteArray := (Try.f22.body.map codeVals).getD []
noncomputable def rowL (i : Nat) : List UInt8 := (rowsB.getD i ByteArray.empty).data.toList
theorem rowsB_length : rowsB.length = 16 := by kernel_rfl
/-- Bytes ahead of the first comma. -/
def nx : List UInt8 → Nat
  | [] => 0
  | b :: bs => if (b == 44) = true then 0 else nx bs + 1
/-- Where the k-th cell starts. -/
def st (l : List UInt8) : Nat → Nat
  | 0 => 0
  | k + 1 => st l k + (nx (l.drop (st l k)) + 1)
def textL (l : List UInt8) : List UInt8 := (l.drop 4).take (nx (l.drop 4))
theorem nx_le : ∀ l : List UInt8, nx l ≤ l.length
  | [] => by simp [nx]
  | b :: bs => by
    have := nx_le bs
    simp only [nx, List.length_cons]
    split <;> omega
theorem nx_ne : ∀ (l : List UInt8) (d : Nat), d < nx l → (l.getD d 0 == 44) = false
  | [], d, h => by simp [nx] at h
  | b :: bs, d, h => by
    simp only [nx] at h
    split at h
    · omega
    · cases d with
      | zero =>
        rename_i hb
        simpa using hb
      | succ d => simpa using nx_ne bs d (by omega)
theorem nx_eq : ∀ (l : List UInt8), nx l < l.length → (l.getD (nx l) 0 == 44) = true
  | [], h => by simp [nx] at h
  | b :: bs, h => by
    simp only [nx, List.length_cons] at h ⊢
    split at h
    · rename_i hb
      rw [if_pos hb]
      simpa using hb
    · rename_i hb
      rw [if_neg hb]
      simpa using nx_eq bs (by omega)
def chkRow (P : Nat → List UInt8 → List UInt8 → Bool) : Nat → Nat → List UInt8 → List UInt8 → Bool
  | 0, _, _, _ => true
  | n + 1, c, l, m => P c l (m.take 3) && chkRow P n (c + 1) (l.drop (nx l + 1)) (m.drop 3)
theorem chkRow_from (P : Nat → List UInt8 → List UInt8 → Bool) (L : List UInt8) : ∀ (n k c : Nat) (m : List UInt8), chkRow P n c (L.drop (st L k)) m = true → ∀ i, i < n → P (c + i) (L.drop (st L (k + i))) ((m.drop (3 * i)).take 3) = true
  | 0, _, _, _, _, i, hi => by omega
  | n + 1, k, c, m, h, i, hi => by
    simp only [chkRow, Bool.and_eq_true] at h
    cases i with
    | zero => simpa using h.1
    | succ i =>
      have h2 := h.2
      rw [List.drop_drop] at h2
      have := chkRow_from P L n (k + 1) (c + 1) (m.drop 3) h2 i (by omega)
      rw [List.drop_drop] at this
      rw [show c + (i + 1) = c + 1 + i by omega, show k + (i + 1) = k + 1 + i by omega, show 3 * (i + 1) = 3 + 3 * i by omega]
      exact this
def modesL : List (List UInt8) := [[105, 109, 112], [105, 109, 109], [122, 112], [122, 112, 120], [122, 112, 121], [97, 98, 115], [97, 98, 120], [97, 98, 121], [105, 122, 120], [105, 122, 121], [114, 101, 108], [105, 110, 100]]
def idx (s : List UInt8) : List (List UInt8) → Nat
  | [] => 0
  | x :: xs => if (x == s) = true then 0 else idx s xs + 1
def inL (s : List UInt8) (l : List (List UInt8)) : Bool := l.any (fun x => x == s)
/-- The document's kind of a name and a mode. -/
def kindR (n m : List UInt8) : Int :=
  if (n == [74, 65, 77]) = true then 8
  else if (n == [80, 72, 65] || n == [80, 72, 80]) = true then 6
  else if (n == [80, 76, 65] || n == [80, 76, 80]) = true then 7
  else if inL n [[66, 82, 75], [74, 83, 82], [82, 84, 73], [82, 84, 83], [74, 77, 80]] = true then 5
  else if (m == [114, 101, 108]) = true then 4
  else if inL n [[83, 84, 65], [83, 84, 88], [83, 84, 89], [83, 65, 88], [83, 72, 65], [83, 72, 88], [83, 72, 89], [84, 65, 83]] = true then 2
  else if (inL n [[65, 83, 76], [76, 83, 82], [82, 79, 76], [82, 79, 82], [73, 78, 67], [68, 69, 67], [83, 76, 79], [82, 76, 65], [83, 82, 69], [82, 82, 65], [68, 67, 80], [73, 83, 67]] && m != [105, 109, 112]) = true then 3
  else if (m == [105, 109, 112]) = true then 0
  else 1
noncomputable def cellOk (c : Nat) (l n : List UInt8) : Bool :=
  Nat.ble 6 l.length && (c % 16 == 15 || Nat.ble (nx l + 1) l.length) && l.take 3 == n && ((idx (textL l) modesL : Nat) : Int) == modeI (c : Int) && kindR n (textL l) == kindL n (modeI (c : Int))
noncomputable def chkRows : Nat → List (List UInt8) → List UInt8 → Bool
  | _, [], _ => true
  | c, r :: rs, m => chkRow cellOk 16 c r m && chkRows (c + 16) rs (m.drop 48)
noncomputable def rowsL : List (List UInt8) := rowsB.map (fun r => r.data.toList)
theorem rows_all : chkRows 0 rowsL namesL = true := by kernel_rfl
theorem chkRows_from : ∀ (rs : List (List UInt8)) (c : Nat) (m : List UInt8), chkRows c rs m = true → ∀ i, i < rs.length → chkRow cellOk 16 (c + 16 * i) (rs.getD i []) (m.drop (48 * i)) = true
  | [], _, _, _, i, hi => by simp at hi
  | r :: rs, c, m, h, i, hi => by
    simp only [chkRows, Bool.and_eq_true] at h
    cases i with
    | zero => simpa using h.1
    | succ i =>
      have := chkRows_from rs (c + 16) (m.drop 48) h.2 i (by simpa using hi)
      rw [List.drop_drop] at this
      rw [show c + 16 * (i + 1) = c + 16 + 16 * i by omega, show 48 * (i + 1) = 48 + 48 * i by omega]
      simpa using this
theorem rowL_eq (i : Nat) (h : i < 16) : rowsL.getD i [] = rowL i := by
  have h' : i < rowsB.length := by rw [rowsB_length]; exact h
  unfold rowsL rowL
  rw [List.getD_eq_getElem?_getD, List.getD_eq_getElem?_getD, List.getElem?_map, List.getElem?_eq_getElem h']
  rfl
theorem cell_ok (i k : Nat) (hi : i < 16) (hk : k < 16) : cellOk (16 * i + k) ((rowL i).drop (st (rowL i) k)) (nameL (16 * i + k)) = true := by
  have h1 := chkRows_from rowsL 0 namesL rows_all i (by unfold rowsL; rw [List.length_map, rowsB_length]; exact hi)
  rw [rowL_eq i hi] at h1
  have h2 := chkRow_from cellOk (rowL i) 16 0 (0 + 16 * i) (namesL.drop (48 * i)) h1 k hk
  rw [List.drop_drop, Nat.zero_add, Nat.zero_add] at h2
  unfold nameL
  rw [show 3 * (16 * i + k) = 48 * i + 3 * k by omega]
  exact h2
noncomputable def cellL (c : Nat) : List UInt8 := (rowL (c / 16)).drop (st (rowL (c / 16)) (c % 16))
/-- What a code's cell is. -/
theorem cell_facts (c : Nat) (h : c < 256) : 6 ≤ (cellL c).length ∧ (c % 16 = 15 ∨ nx (cellL c) < (cellL c).length) ∧ (cellL c).take 3 = nameL c ∧ ((idx (textL (cellL c)) modesL : Nat) : Int) = modeI (c : Int) ∧ kindR (nameL c) (textL (cellL c)) = kindI c := by
  have h1 := cell_ok (c / 16) (c % 16) (by omega) (by omega)
  rw [show 16 * (c / 16) + c % 16 = c by omega] at h1
  simp only [cellOk, Bool.and_eq_true, Bool.or_eq_true, beq_iff_eq, Nat.ble_eq] at h1
  rw [kindI_eq]
  exact ⟨h1.1.1.1.1, h1.1.1.1.2.imp (fun h => h) (fun h => h), h1.1.1.2, h1.1.2, h1.2⟩
noncomputable def modeT (c : Nat) : ByteArray := ⟨(textL (cellL c)).toArray⟩
theorem rows_cells (w : World) (b : Nat) (hb : b = w.heap.size) (arr : Array Value) (h : arr = (rowsB.map Value.string).toArray) : ∀ j, j < 16 → (w.alloc (.cells arr 9)).cell? ⟨b, j, none⟩ = some (.string (rowsB.getD j ByteArray.empty)) := by
  intro j hj
  subst hb h
  have hl : j < rowsB.length := by rw [rowsB_length]; exact hj
  simp [go_sem, List.getD_eq_getElem?_getD, hl]
theorem rows_any (w : World) : Calls Try.prog 22 #[] w fun e w' => e = .returned (.slice (some ⟨w.heap.size, 0, none⟩) 16 16) ∧ (∀ j, j < 16 → w'.cell? ⟨w.heap.size, j, none⟩ = some (.string (rowsB.getD j ByteArray.empty))) ∧ Below w.heap.size w w' := by
  go_enter Try.func22, Try.ntmps22
  go_wp2
  go_ret
  exact ⟨rfl, rows_cells _ _ rfl _ rfl, (Below.refl _ _).alloc (Nat.le_refl _) _⟩
/-- What the walk of a row needs, of the row alone. -/
def rowOk (L : List UInt8) (K : Nat) (n t : ByteArray) : Prop :=
  st L K + 6 ≤ L.length ∧ (∀ k, k < K → st L k + nx (L.drop (st L k)) < L.length) ∧ n = ⟨((L.drop (st L K)).take 3).toArray⟩ ∧ t = ⟨((L.drop (st L K + 4)).take (nx (L.drop (st L K + 4)))).toArray⟩
theorem row_sizes : rowsB.all (fun r => Nat.ble r.size 200) = true := by kernel_rfl
theorem row_size (i : Nat) (hi : i < 16) : ((rowsB.getD i ByteArray.empty).size : Int) ≤ 200 := by
  have h' : i < rowsB.length := by rw [rowsB_length]; exact hi
  have h2 := List.all_eq_true.1 row_sizes _ (List.getElem_mem h')
  rw [List.getD_eq_getElem?_getD, List.getElem?_eq_getElem h']
  have h3 := Nat.le_of_ble_eq_true h2
  show ((rowsB[i].size : Nat) : Int) ≤ 200
  omega
theorem st_lt (i n : Nat) (hi : i < 16) (hn : n < 15) : st (rowL i) n + nx ((rowL i).drop (st (rowL i) n)) < (rowL i).length := by
  have h := cell_facts (16 * i + n) (by omega)
  unfold cellL at h
  rw [show (16 * i + n) / 16 = i by omega, show (16 * i + n) % 16 = n by omega] at h
  have h2 := h.2.1.resolve_left (by omega)
  rw [List.length_drop] at h2
  omega
theorem row_ok (c : Nat) (h : c < 256) : rowOk (rowL (c / 16)) (c % 16) (nameN c) (modeT c) := by
  have hf := cell_facts c h
  refine ⟨?_, fun k hk => st_lt (c / 16) k (by omega) (by omega), ?_, ?_⟩
  · have h1 := hf.1
    unfold cellL at h1
    rw [List.length_drop] at h1
    omega
  · rw [nameN_eq, ← hf.2.2.1]
    rfl
  · unfold modeT textL cellL
    rw [List.drop_drop]
set_option maxHeartbeats 3200000 in
set_option maxRecDepth 100000 in
theorem cell_any (c : Nat) (w : World) (hc : c < 256) :
    Calls Try.prog 14 #[.int .u8 c] w fun e w' => e = .returned (.tuple #[.string (nameN c), .string (modeT c)]) ∧ Below w.heap.size w w' := by
  have HR := Lib.hid rows_any
  obtain ⟨h6, hst, hn, ht⟩ := row_ok c hc
  have hi : (c : Int) / 16 = ((c / 16 : Nat) : Int) := by omega
  have hk : (c : Int) % 16 = ((c % 16 : Nat) : Int) := by omega
  have hi16 : c / 16 < 16 := by omega
  have hk16 : c % 16 < 16 := by omega
  have hc0 : 0 ≤ (c : Int) := by omega
  have hc1 : (c : Int) < 256 := by omega
  unfold rowL at h6 hst hn ht
  have hR := row_size (c / 16) hi16
  have HC := Lib.hid (fun (w w1 : World) (h : ∀ j, j < 16 → w1.cell? ⟨w.heap.size, j, none⟩ = some (.string (rowsB.getD j ByteArray.empty))) => h (c / 16) hi16)
  generalize rowsB.getD (c / 16) ByteArray.empty = R at h6 hst hn ht HC hR
  generalize nameN c = na at hn ⊢
  generalize modeT c = mt at ht ⊢
  generalize c / 16 = I at hi hi16 HC
  generalize c % 16 = K at h6 hst hn ht hk hk16
  have HST := Lib.hid hst
  have HN := Lib.hid hn
  have HT := Lib.hid ht
  clear hst hn ht
  go_enter Try.func14, Try.ntmps14
  go_wp2_with fail
  go_at_call 22
  refine (HR.out _).mono ?_
  rintro e w1 ⟨rfl, hcells, hb1⟩
  have hcI := HC.out _ _ hcells
  clear hcells
  go_wp2
  have hsz : R.data.toList.length = R.size := by simp
  rw [hsz] at h6
  have hst' : na = ⟨((R.data.toList.drop (st R.data.toList K)).take 3).toArray⟩ ∧ mt = ⟨((R.data.toList.drop (st R.data.toList K + 4)).take (nx (R.data.toList.drop (st R.data.toList K + 4)))).toArray⟩ := ⟨HN.out, HT.out⟩
  clear HN HT
  go_loop [5, 6] (fun a k => ∃ n : Nat, n ≤ K ∧ a = .int .i64 (st R.data.toList n : Nat) ∧ k = .int .i64 n) (fun _ k => K - (intOf k).toNat)
  case atStart => exact ⟨0, by omega, rfl, rfl⟩
  case round =>
    obtain ⟨n, hn, rfl, rfl⟩ := hrel
    by_cases hnK : n < K
    · have h1 := HST.out n hnK
      have h2 := nx_ne (R.data.toList.drop (st R.data.toList n))
      have h3 := nx_eq (R.data.toList.drop (st R.data.toList n)) (by rw [List.length_drop]; omega)
      have h4 : st R.data.toList (n + 1) = st R.data.toList n + (nx (R.data.toList.drop (st R.data.toList n)) + 1) := rfl
      rw [hsz] at h1
      generalize hD : nx (R.data.toList.drop (st R.data.toList n)) = D at h1 h2 h3 h4
      generalize hS : st R.data.toList n = S at h1 h2 h3 h4
      simp only [List.getD_eq_getElem?_getD, List.getElem?_drop] at h2 h3
      have hb : ∀ d, d ≤ D → (h : S + d < R.size) → (R[S + d]'h == 44) = decide (d = D) := by
        intro d hd h
        rw [at_byte, List.getD_eq_getElem?_getD]
        by_cases hdD : d = D
        · subst hdD; rw [h3]; simp
        · rw [h2 d (by omega)]; simp [hdD]
      clear h2 h3
      have HB := Lib.hid hb
      have hn1 : (n : Int) < K := by omega
      have hn0 : 0 ≤ (n : Int) := by omega
      clear hb
      go_wp2
      go_loop [5] (fun a => ∃ d : Nat, d ≤ D ∧ a = .int .i64 (S + d : Nat)) (fun a => S + D - (intOf a).toNat)
      case atStart => exact ⟨0, by omega, rfl⟩
      case round =>
        obtain ⟨d, hd, rfl⟩ := hrel
        have hlt : S + d < R.size := by omega
        have hlt1 : ((S + d : Nat) : Int) < (R.size : Int) := by omega
        have hlt0 : 0 ≤ ((S + d : Nat) : Int) := by omega
        have hbd := HB.out d hd hlt
        by_cases hdD : d = D
        · subst hdD
          have hbd' : (((R[S + d]'hlt).toNat : Int) != 44) = false := by
            rw [decide_eq_true rfl] at hbd
            rw [eq_of_beq hbd]; rfl
          clear hbd
          go_wp2
          go_roundw
          case rel => exact ⟨n + 1, by omega, by rw [h4]; simp; omega, by simp⟩
          case measure => simp [intOf]; omega
        · have hbd' : (((R[S + d]'hlt).toNat : Int) != 44) = true := by
            rw [decide_eq_false hdD] at hbd
            have := ne_of_beq_false hbd
            simp only [bne_iff_ne, ne_eq]
            intro h
            have h' : R[S + d].toNat = 44 := by omega
            exact this (UInt8.toNat_inj.1 (by simpa using h'))
          clear hbd
          go_wp2
          go_roundw
          case rel => exact ⟨d + 1, by omega, by simp; omega⟩
          case measure => simp [intOf]; omega
    · obtain rfl : n = K := by omega
      have hn1 : ¬ (n : Int) < n := by omega
      have h2 := nx_ne (R.data.toList.drop (st R.data.toList n + 4))
      have h3 := nx_eq (R.data.toList.drop (st R.data.toList n + 4))
      have h5 := nx_le (R.data.toList.drop (st R.data.toList n + 4))
      rw [List.length_drop, hsz] at h3 h5
      have hT : na = R.extract (st R.data.toList n) (st R.data.toList n + 3) ∧ mt = R.extract (st R.data.toList n + 4) (st R.data.toList n + 4 + nx (R.data.toList.drop (st R.data.toList n + 4))) := by
        rw [Lib.extract_eq, Lib.extract_eq, hst'.1, hst'.2]
        exact ⟨by rw [show st R.data.toList n + 3 - st R.data.toList n = 3 by omega], by rw [Nat.add_sub_cancel_left]⟩
      have HT := Lib.hid hT
      clear hst' hT
      generalize nx (R.data.toList.drop (st R.data.toList n + 4)) = D at h2 h3 h5 HT
      simp only [List.getD_eq_getElem?_getD, List.getElem?_drop] at h2 h3
      generalize st R.data.toList n = S at h6 h2 h3 h5 HT
      have hb : ∀ d, d ≤ D → (h : S + 4 + d < R.size) → (R[S + 4 + d]'h == 44) = decide (d = D) := by
        intro d hd h
        rw [at_byte, List.getD_eq_getElem?_getD]
        by_cases hdD : d = D
        · subst hdD; rw [h3 (by omega)]; simp
        · rw [h2 d (by omega)]; simp [hdD]
      clear h2 h3
      have HB := Lib.hid hb
      clear hb
      go_wp2
      go_loop [8] (fun e => ∃ d : Nat, d ≤ D ∧ e = .int .i64 (S + 4 + d : Nat)) (fun e => S + 4 + D - (intOf e).toNat)
      case atStart => exact ⟨0, by omega, by simp⟩
      case round =>
        obtain ⟨d, hd, rfl⟩ := hrel
        have hlt0 : 0 ≤ ((S + 4 + d : Nat) : Int) := by omega
        by_cases hlt : S + 4 + d < R.size
        · have hlt1 : ((S + 4 + d : Nat) : Int) < (R.size : Int) := by omega
          have hbd := HB.out d hd hlt
          by_cases hdD : d = D
          · subst hdD
            have hbd' : (((R[S + 4 + d]'hlt).toNat : Int) != 44) = false := by
              rw [decide_eq_true rfl] at hbd
              rw [eq_of_beq hbd]; rfl
            clear hbd
            go_wp2
            go_region
            all_goals
              go_wp2
              go_ret2
              obtain ⟨rfl, rfl⟩ := HT.out
              exact ⟨rfl, hb1.drew⟩
          · have hbd' : (((R[S + 4 + d]'hlt).toNat : Int) != 44) = true := by
              rw [decide_eq_false hdD] at hbd
              have := ne_of_beq_false hbd
              simp only [bne_iff_ne, ne_eq]
              intro h
              have h' : R[S + 4 + d].toNat = 44 := by omega
              exact this (UInt8.toNat_inj.1 (by simpa using h'))
            clear hbd
            go_wp2
            go_roundw
            case rel => exact ⟨d + 1, by omega, by simp; omega⟩
            case measure => simp [intOf]; omega
        · have hlt1 : ¬ ((S + 4 + d : Nat) : Int) < (R.size : Int) := by omega
          obtain rfl : d = D := by omega
          go_wp2
          go_region
          all_goals
            go_wp2
            go_ret2
            obtain ⟨rfl, rfl⟩ := HT.out
            exact ⟨rfl, hb1.drew⟩
end Go.Proofs.Ytpicoihlbgceiaa.Own

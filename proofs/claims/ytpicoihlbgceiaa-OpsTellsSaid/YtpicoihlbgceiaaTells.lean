/- The document's opcode and size, and the walk of OpsTells. Condition: the library's own variable reads as an integer. -/
import Derived.Test.YtpicoihlbgceiaaCell
namespace Go.Proofs.Ytpicoihlbgceiaa.Own
open Go.RowKit

def Blk (w : World) (g : Nat) (t : TypeId) (cs : Array Value) : Prop := w.heap[g]? = some (.cells cs t (0, 0))

section
variable {w w' : World} {g : Nat} {t : TypeId} {cs : Array Value}
theorem Blk.lt (h : Blk w g t cs) : g < w.heap.size := by
  rcases Nat.lt_or_ge g w.heap.size with hlt | hge
  · exact hlt
  · unfold Blk at h; rw [Array.getElem?_eq_none hge] at h; cases h
theorem Blk.cell (h : Blk w g t cs) (i : Nat) : w.cell? ⟨g, i, none⟩ = cs[i]? := cell_of_row w g i cs t (0, 0) h
theorem Blk.frozen (h : Blk w g t cs) (i : Nat) : w.frozen? ⟨g, i, none⟩ = false := by
  unfold Blk at h
  simp [World.frozen?, h]
theorem Blk.new (w : World) (t : TypeId) (cs : Array Value) : Blk (w.alloc (.cells cs t)) w.heap.size t cs := heap_alloc_new w _
theorem Blk.drew (h : Blk w g t cs) : Blk w.drew g t cs := h
theorem Blk.drewN (h : Blk w g t cs) (n : Nat) : Blk (w.drewN n) g t cs := h
theorem Blk.alloc (h : Blk w g t cs) (o : Obj) : Blk (w.alloc o) g t cs := (Below.heap_alloc w o g h.lt).trans h
theorem Blk.set_ (h : Blk w g t cs) (i : Nat) (u : Value) : Blk (w.setCell ⟨g, i, none⟩ u) g t (cs.setIfInBounds i u) := by
  unfold Blk at h ⊢
  simp [World.setCell, Array.getElem?_modify, h]
theorem Blk.far (h : Blk w g t cs) {p : Addr} (hp : g ≠ p.block) (u : Value) : Blk (w.setCell p u) g t cs := (Below.heap_setCell w p u g hp).trans h
theorem Blk.below {B : Nat} (h : Blk w g t cs) (hb : Below B w w') (hg : g < B) : Blk w' g t cs := (hb.block g hg).trans h
theorem Blk.grown {row : Option Nat} (h : Blk w g t cs) (hb : w.grownBy w' row) (hg : some g ≠ row) : Blk w' g t cs := (hb.block g h.lt hg).trans h
end
theorem idx_ne : ∀ (l : List (List UInt8)) (s : List UInt8) (k : Nat), k < idx s l → (l.getD k [] == s) = false
  | [], s, k, h => by simp [idx] at h
  | x :: xs, s, k, h => by
    simp only [idx] at h
    split at h
    · omega
    · rename_i hb
      cases k with
      | zero => simpa using hb
      | succ k => simpa using idx_ne xs s k (by omega)
theorem idx_eq : ∀ (l : List (List UInt8)) (s : List UInt8), idx s l < l.length → (l.getD (idx s l) [] == s) = true
  | [], s, h => by simp [idx] at h
  | x :: xs, s, h => by
    simp only [idx, List.length_cons] at h ⊢
    split at h
    · rename_i hb
      rw [if_pos hb]
      simpa using hb
    · rename_i hb
      rw [if_neg hb]
      simpa using idx_eq xs s (by omega)
noncomputable def modesB : List ByteArray := (Try.f20.body.map codeVals).getD []
theorem modesB_length : modesB.length = 12 := by kernel_rfl
theorem modesB_list : modesB.map (fun s => s.data.toList) = modesL := by kernel_rfl
theorem modesB_at (k : Nat) : (modesB.getD k ByteArray.empty).data.toList = modesL.getD k [] := by
  rw [← modesB_list, List.getD_eq_getElem?_getD, List.getD_eq_getElem?_getD, List.getElem?_map]
  cases modesB[k]? <;> rfl
theorem list_cells (L : List ByteArray) (w : World) (b : Nat) (hb : b = w.heap.size) (arr : Array Value) (h : arr = (L.map Value.string).toArray) : ∀ j, j < L.length → (w.alloc (.cells arr 9)).cell? ⟨b, j, none⟩ = some (.string (L.getD j ByteArray.empty)) := by
  intro j hj
  subst hb h
  simp [go_sem, List.getD_eq_getElem?_getD, hj]
set_option maxHeartbeats 3200000 in
set_option maxRecDepth 100000 in
theorem mode_any (m : ByteArray) (n : Nat) (w : World) (hn : idx m.data.toList modesL = n) (h12 : n < 12) :
    Calls Try.prog 20 #[.string m] w fun e w' => e = .returned (.int .i64 n) ∧ Below w.heap.size w w' := by
  have hlt : ∀ k, k < n → ((modesB.getD k ByteArray.empty).toList == m.toList) = false := by
    intro k hk
    rw [Lib.toList_data, Lib.toList_data, modesB_at]
    exact idx_ne _ _ _ (by omega)
  have heq : ((modesB.getD n ByteArray.empty).toList == m.toList) = true := by
    rw [Lib.toList_data, Lib.toList_data, modesB_at, ← hn]
    exact idx_eq _ _ (by rw [hn]; exact h12)
  have HL := Lib.hid (list_cells modesB)
  have hml := modesB_length
  have HN := Lib.hid hlt
  clear hlt hn
  go_enter Try.func20, Try.ntmps20
  go_wp2
  go_loopw [4] (fun i wr => ∃ k : Nat, k ≤ n ∧ i = .int .i64 k ∧ Below w.heap.size w wr ∧ ∀ j, j < modesB.length → wr.cell? ⟨w.heap.size, j, none⟩ = some (.string (modesB.getD j ByteArray.empty))) (fun i _ => n - (intOf i).toNat)
  case atStart => exact ⟨0, by omega, rfl, (Below.refl _ _).alloc (Nat.le_refl _) _, HL.out w w.heap.size rfl _ rfl⟩
  case round =>
    obtain ⟨k, hk, rfl, hbk, hcells⟩ := hrel
    have HC := Lib.hid hcells
    clear hcells
    have hck := HC.out k (by omega)
    have hk12 : (k : Int) < 12 := by omega
    have hk0 : 0 ≤ (k : Int) := by omega
    by_cases hkn : k < n
    · have hne := HN.out k hkn
      generalize modesB.getD k ByteArray.empty = s at hck hne
      go_wp2
      go_roundw
      case rel => exact ⟨k + 1, by omega, by simp, hbk, HC.out⟩
      case measure => simp [intOf]; omega
    · obtain rfl : k = n := by omega
      generalize modesB.getD k ByteArray.empty = s at hck heq
      go_wp2
      go_ret
      exact ⟨rfl, hbk⟩
set_option maxHeartbeats 3200000 in
set_option maxRecDepth 100000 in
theorem in_any (L : List ByteArray) (s : ByteArray) (g n cap : Nat) (w : World) (hn : L.length = n) (hn1 : n ≤ 100) (hcells : ∀ j, j < n → w.cell? ⟨g, j, none⟩ = some (.string (L.getD j ByteArray.empty))) :
    Calls Try.prog 25 #[.slice (some ⟨g, 0, none⟩) n cap, .string s] w fun e w' => e = .returned (.bool (inL s.toList (L.map ByteArray.toList))) ∧ w = w' := by
  have HC := Lib.hid hcells
  have htake : ∀ k, k < n → inL s.toList ((L.take (k + 1)).map ByteArray.toList) = (inL s.toList ((L.take k).map ByteArray.toList) || ((L.getD k ByteArray.empty).toList == s.toList)) := by
    intro k hk
    have hk' : k < L.length := by omega
    simp only [inL, List.take_add_one, List.getElem?_eq_getElem hk', Option.toList, List.map_append, List.any_append, List.map_cons, List.map_nil, List.any_cons, List.any_nil, Bool.or_false, List.getD_eq_getElem?_getD, Option.getD_some]
  have hin : ∀ k, k < n → ((L.getD k ByteArray.empty).toList == s.toList) = true → inL s.toList (L.map ByteArray.toList) = true := by
    intro k hk h
    have hk' : k < L.length := by omega
    rw [List.getD_eq_getElem?_getD, List.getElem?_eq_getElem hk'] at h
    unfold inL
    exact List.any_eq_true.2 ⟨_, List.mem_map_of_mem (List.getElem_mem hk'), h⟩
  have hall : L.take n = L := by rw [← hn]; exact List.take_length
  have HT := Lib.hid htake
  have HI := Lib.hid hin
  clear htake hin hcells
  have hnn : (n : Int) ≤ 100 := by omega
  go_enter Try.func25, Try.ntmps25
  go_wp2
  go_loop [5] (fun i => ∃ k : Nat, k ≤ n ∧ i = .int .i64 k ∧ inL s.toList ((L.take k).map ByteArray.toList) = false) (fun i => n - (intOf i).toNat)
  case atStart => exact ⟨0, by omega, rfl, rfl⟩
  case round =>
    obtain ⟨k, hk, rfl, hf⟩ := hrel
    have hk0 : 0 ≤ (k : Int) := by omega
    by_cases hkn : k < n
    · have hck := HC.out k hkn
      have hk1 : (k : Int) < n := by omega
      have ht := HT.out k hkn
      have hi := HI.out k hkn
      generalize L.getD k ByteArray.empty = x at hck ht hi
      by_cases hx : (x.toList == s.toList) = true
      · have hi' := Lib.hid (hi hx)
        clear ht hi hf
        go_wp2
        go_ret
        refine ⟨?_, rfl⟩
        rw [hi'.out]
        rfl
      · have hx : (x.toList == s.toList) = false := by simpa using hx
        rw [hf, hx] at ht
        clear hi hf
        go_wp2
        go_roundw
        case rel => exact ⟨k + 1, by omega, by simp, ht⟩
        case measure => simp [intOf]; omega
    · obtain rfl : k = n := by omega
      have hk1 : ¬ (k : Int) < k := by omega
      rw [hall] at hf
      have hf' := Lib.hid hf
      clear hf
      go_wp2
      go_ret
      refine ⟨?_, rfl⟩
      rw [hf'.out]
      rfl
noncomputable def listsB : List ByteArray := (Try.f21.body.map codeVals).getD []
noncomputable def flowsB : List ByteArray := listsB.take 5
noncomputable def writesB : List ByteArray := (listsB.drop 5).take 8
noncomputable def modsB : List ByteArray := (listsB.drop 13).take 12
theorem lists_length : flowsB.length = 5 ∧ writesB.length = 8 ∧ modsB.length = 12 := ⟨by kernel_rfl, by kernel_rfl, by kernel_rfl⟩
theorem toList_map (L : List ByteArray) : L.map ByteArray.toList = L.map (fun s => s.data.toList) := by
  congr 1
  funext s
  exact Lib.toList_data s
theorem flows_list : flowsB.map (fun s => s.data.toList) = [[66, 82, 75], [74, 83, 82], [82, 84, 73], [82, 84, 83], [74, 77, 80]] := by kernel_rfl
theorem writes_list : writesB.map (fun s => s.data.toList) = [[83, 84, 65], [83, 84, 88], [83, 84, 89], [83, 65, 88], [83, 72, 65], [83, 72, 88], [83, 72, 89], [84, 65, 83]] := by kernel_rfl
theorem mods_list : modsB.map (fun s => s.data.toList) = [[65, 83, 76], [76, 83, 82], [82, 79, 76], [82, 79, 82], [73, 78, 67], [68, 69, 67], [83, 76, 79], [82, 76, 65], [83, 82, 69], [82, 82, 65], [68, 67, 80], [73, 83, 67]] := by kernel_rfl
/-- The kind, where it is known in which lists the name stands. -/
def kindB (n m : List UInt8) (f w d : Bool) : Int :=
  if (n == [74, 65, 77]) = true then 8
  else if (n == [80, 72, 65] || n == [80, 72, 80]) = true then 6
  else if (n == [80, 76, 65] || n == [80, 76, 80]) = true then 7
  else if f = true then 5
  else if (m == [114, 101, 108]) = true then 4
  else if w = true then 2
  else if (d && m != [105, 109, 112]) = true then 3
  else if (m == [105, 109, 112]) = true then 0
  else 1
theorem kindB_eq (n m : ByteArray) : kindR n.data.toList m.data.toList = kindB n.toList m.toList (inL n.toList (flowsB.map ByteArray.toList)) (inL n.toList (writesB.map ByteArray.toList)) (inL n.toList (modsB.map ByteArray.toList)) := by
  rw [toList_map, toList_map, toList_map, flows_list, writes_list, mods_list, Lib.toList_data, Lib.toList_data]
  rfl
theorem listed (L : List ByteArray) (s : ByteArray) (n : Nat) (hn : L.length = n) (hn1 : n ≤ 100) (w : World) (b : Nat) (hb : b = w.heap.size) (arr : Array Value) (h : arr = (L.map Value.string).toArray) :
    Calls Try.prog 25 #[.slice (some ⟨b, 0, none⟩) n n, .string s] (w.alloc (.cells arr 9)) fun e w' => e = .returned (.bool (inL s.toList (L.map ByteArray.toList))) ∧ w.alloc (.cells arr 9) = w' :=
  in_any L s b n n _ hn hn1 (fun j hj => list_cells L w b hb arr h j (by omega))
set_option maxHeartbeats 3200000 in
set_option maxRecDepth 100000 in
theorem kindRef_any (n m : ByteArray) (w : World) :
    Calls Try.prog 21 #[.string n, .string m] w fun e w' => e = .returned (.int .i64 (kindR n.data.toList m.data.toList)) ∧ Below w.heap.size w w' := by
  rw [kindB_eq]
  have HF := Lib.hid (listed flowsB n 5 lists_length.1 (by decide))
  have HW := Lib.hid (listed writesB n 8 lists_length.2.1 (by decide))
  have HD := Lib.hid (listed modsB n 12 lists_length.2.2 (by decide))
  generalize inL n.toList (flowsB.map ByteArray.toList) = f at HF ⊢
  generalize inL n.toList (writesB.map ByteArray.toList) = wr at HW ⊢
  generalize inL n.toList (modsB.map ByteArray.toList) = d at HD ⊢
  go_enter Try.func21, Try.ntmps21
  by_cases h1 : (n.toList == [74, 65, 77]) = true
  · go_wp2_with fail
    go_ret
    refine ⟨ret_int ?_, Below.refl _ _⟩
    simp [kindB, h1]
  have h1 : (n.toList == [74, 65, 77]) = false := by simpa using h1
  by_cases h2 : (n.toList == [80, 72, 65]) = true
  · go_wp2_with fail
    go_ret
    refine ⟨ret_int ?_, Below.refl _ _⟩
    simp [kindB, h1, h2]
  have h2 : (n.toList == [80, 72, 65]) = false := by simpa using h2
  by_cases h3 : (n.toList == [80, 72, 80]) = true
  · go_wp2_with fail
    go_ret
    refine ⟨ret_int ?_, Below.refl _ _⟩
    simp [kindB, h1, h2, h3]
  have h3 : (n.toList == [80, 72, 80]) = false := by simpa using h3
  by_cases h4 : (n.toList == [80, 76, 65]) = true
  · go_wp2_with fail
    go_ret
    refine ⟨ret_int ?_, Below.refl _ _⟩
    simp [kindB, h1, h2, h3, h4]
  have h4 : (n.toList == [80, 76, 65]) = false := by simpa using h4
  by_cases h5 : (n.toList == [80, 76, 80]) = true
  · go_wp2_with fail
    go_ret
    refine ⟨ret_int ?_, Below.refl _ _⟩
    simp [kindB, h1, h2, h3, h4, h5]
  have h5 : (n.toList == [80, 76, 80]) = false := by simpa using h5
  go_wp2_with fail
  go_at_call 25
  refine (HF.out _ _ ?hb _ ?hx).mono ?_
  case hb => simp
  case hx => kernel_rfl
  rintro e w' ⟨rfl, rfl⟩
  go_wp2_with fail
  go_at_call 25
  refine (HW.out _ _ ?hb _ ?hx).mono ?_
  case hb => simp
  case hx => kernel_rfl
  rintro e w' ⟨rfl, rfl⟩
  go_wp2_with fail
  go_at_call 25
  refine (HD.out _ _ ?hb _ ?hx).mono ?_
  case hb => simp
  case hx => kernel_rfl
  rintro e w' ⟨rfl, rfl⟩
  go_wp2
  all_goals
    go_ret
    refine ⟨ret_int ?_, (((Below.refl _ w).alloc (Nat.le_refl _) _).alloc (by simp) _).alloc (by simp; omega) _⟩
    first | (simp [kindB, *]; done) | (simp_all [kindB]; done)
theorem mode_text (c : Nat) (w : World) (hc : c < 256) : Calls Try.prog 20 #[.string (modeT c)] w fun e w' => e = .returned (.int .i64 (modeI c)) ∧ Below w.heap.size w w' := by
  have hf := (cell_facts c hc).2.2.2.1
  have hk := (km_at c hc).1
  have e : (modeT c).data.toList = textL (cellL c) := by simp [modeT]
  have h12 : modeI (c : Int) < 12 := by
    generalize modeI (c : Int) = x at hk
    generalize kindI c = y at hk
    simp [kmList] at hk
    omega
  rw [← hf] at h12 ⊢
  exact mode_any _ _ w (by rw [e]) (by omega)
theorem kind_text (c : Nat) (w : World) (hc : c < 256) : Calls Try.prog 21 #[.string (nameN c), .string (modeT c)] w fun e w' => e = .returned (.int .i64 (kindI c)) ∧ Below w.heap.size w w' := by
  have hf := (cell_facts c hc).2.2.2.2
  have e : (modeT c).data.toList = textL (cellL c) := by simp [modeT]
  have h := kindRef_any (nameN c) (modeT c) w
  rw [nameN_list, e, hf] at h
  exact h
set_option maxHeartbeats 3200000 in
set_option maxRecDepth 100000 in
theorem ofRef_any (c : Nat) (w : World) (hc : c < 256) :
    Calls Try.prog 11 #[.int .u8 c] w fun e w' => e = .returned (.agg #[.string (nameN c), .int .i64 (modeI c), .int .i64 (kindI c)]) ∧ Below w.heap.size w w' := by
  have HC := Lib.hid (fun w => cell_any c w hc)
  have HM := Lib.hid (fun w => mode_text c w hc)
  have HK := Lib.hid (fun w => kind_text c w hc)
  generalize nameN c = n at HC HK ⊢
  generalize modeT c = t at HC HM HK
  generalize modeI c = m at HM ⊢
  generalize kindI c = k at HK ⊢
  go_enter Try.func11, Try.ntmps11
  go_wp2_with fail
  go_at_call 14
  refine (HC.out _).mono ?_
  rintro e w1 ⟨rfl, hb1⟩
  go_wp2_with fail
  go_at_call 20
  refine (HM.out _).mono ?_
  rintro e w2 ⟨rfl, hb2⟩
  go_wp2_with fail
  go_at_call 21
  refine (HK.out _).mono ?_
  rintro e w3 ⟨rfl, hb3⟩
  have B0 := Blk.new w 24 #[.string ByteArray.empty, .int .i64 0, .int .i64 0]
  have hlt : w.heap.size < (w.alloc (.cells #[.string ByteArray.empty, .int .i64 0, .int .i64 0] 24)).heap.size := by simp
  have hb1' : Below (w.alloc (.cells #[.string ByteArray.empty, .int .i64 0, .int .i64 0] 24)).heap.size (w.alloc (.cells #[.string ByteArray.empty, .int .i64 0, .int .i64 0] 24)) w1 := hb1
  have hb12 := hb1'.trans (hb2.mono hb1'.size)
  have hb13 := hb12.trans (hb3.mono hb12.size)
  have B3 := B0.below hb13 hlt
  have hb := ((Below.refl w.heap.size w).alloc (Nat.le_refl _) (.cells #[.string ByteArray.empty, .int .i64 0, .int .i64 0] 24)).trans (hb13.mono (Nat.le_of_lt hlt))
  have C0 : w3.cell? ⟨w.heap.size, 0, none⟩ = some (.string ByteArray.empty) := (B3.cell 0).trans rfl
  have C1 : w3.cell? ⟨w.heap.size, 1, none⟩ = some (.int .i64 0) := (B3.cell 1).trans rfl
  have C2 : w3.cell? ⟨w.heap.size, 2, none⟩ = some (.int .i64 0) := (B3.cell 2).trans rfl
  have F0 := B3.frozen 0
  have F1 := B3.frozen 1
  have F2 := B3.frozen 2
  clear B0 hlt hb1' hb12 hb13 B3 hb1 hb2 hb3
  go_wp2
  refine bodyPost_ret (v := .agg #[.string n, .int .i64 m, .int .i64 k]) ?_ rfl ⟨rfl, ((hb.setCell (Nat.le_refl _) _).setCell (Nat.le_refl _) _).setCell (Nat.le_refl _) _⟩
  simp [results, Try.results11, go_sem, C0, C1, C2]
set_option maxHeartbeats 3200000 in
theorem sizeRef_any (m : Int) (w : World) : Calls Try.prog 13 #[.int .i64 m] w fun e w' => e = .returned (.int .i64 (sizeI m)) ∧ Below w.heap.size w w' := by
  unfold sizeI
  by_cases k0 : m < 0
  · rw [if_pos (.inl k0)]
    go_enter Try.func13, Try.ntmps13
    go_wp2
    go_ret
    exact ⟨rfl, Below.refl _ _⟩
  by_cases k1 : m > 11
  · rw [if_pos (.inr k1)]
    go_enter Try.func13, Try.ntmps13
    go_wp2
    go_ret
    exact ⟨rfl, Below.refl _ _⟩
  rw [if_neg (by omega)]
  have hm : m = 0 ∨ m = 1 ∨ m = 2 ∨ m = 3 ∨ m = 4 ∨ m = 5 ∨ m = 6 ∨ m = 7 ∨ m = 8 ∨ m = 9 ∨ m = 10 ∨ m = 11 := by omega
  clear k0 k1
  rcases hm with rfl | rfl | rfl | rfl | rfl | rfl | rfl | rfl | rfl | rfl | rfl | rfl
  all_goals
    go_enter Try.func13, Try.ntmps13
    go_wp2
    go_ret
    exact ⟨rfl, (Below.refl _ _).alloc (Nat.le_refl _) _⟩
set_option maxHeartbeats 3200000 in
set_option maxRecDepth 100000 in
theorem tells_any (c : Nat) (m mx : Int) (w : World) (hc : c < 256) (hm : w.cell? ⟨0, 0, none⟩ = some (.int .i64 mx)) :
    Calls Try.prog 3 #[.int .u8 c, .int .i64 m] w fun e w' => e = .returned (.bool true) ∧ Below w.heap.size w w' := by
  have HA := Lib.hid (awake_any mx w hm)
  have HX : Hid (∀ w1, Below w.heap.size w w1 → Calls Try.prog 10 #[.int .u8 (c : Int)] w1 fun e w' => e = .returned (.agg #[.string (nameN c), .int .i64 (modeI c), .int .i64 (kindI c)]) ∧ Below w1.heap.size w1 w') :=
    Lib.hid (fun w1 hb => of_any c mx w1 hc (cell_after hb hm))
  have HR := Lib.hid (fun w => ofRef_any c w hc)
  have HS := Lib.hid (size_any m)
  have HZ := Lib.hid (sizeRef_any m)
  generalize nameN c = n at HX HR
  generalize modeI c = x at HX HR
  generalize kindI c = k at HX HR
  generalize sizeI m = z at HS HZ
  clear hm
  go_enter Try.func3, Try.ntmps3
  go_wp2_with fail
  go_at_call 9
  refine HA.out.mono ?_
  rintro e w1 ⟨rfl, hb1⟩
  go_wp2_with fail
  go_at_call 10
  refine (HX.out _ hb1).mono ?_
  rintro e w2 ⟨rfl, hb2⟩
  have hb2' := hb1.trans (hb2.mono hb1.size)
  go_wp2_with fail
  go_at_call 11
  refine (HR.out _).mono ?_
  rintro e w3 ⟨rfl, hb3⟩
  have hb3' := hb2'.trans (hb3.mono hb2'.size)
  go_wp2_with fail
  go_at_call 12
  refine (HS.out _).mono ?_
  rintro e w4 ⟨rfl, rfl⟩
  go_wp2_with fail
  go_at_call 13
  refine (HZ.out _).mono ?_
  rintro e w4 ⟨rfl, hb4⟩
  have hb4' := hb3'.trans (hb4.mono hb3'.size)
  go_wp2
  go_ret
  exact ⟨rfl, hb4'⟩
theorem tells_row (W : World) (a m : Int) (h : 0 ≤ a ∧ a < 256) (mx : Int) (hm : W.cell? ⟨0, 0, none⟩ = some (.int .i64 mx)) :
    Calls Try.prog 3 #[.int .u8 a, .int .i64 m] W fun e w' => e = .returned (.bool true) ∧ Below W.heap.size W w' := by
  obtain ⟨c, rfl⟩ := Int.eq_ofNat_of_zero_le h.1
  exact tells_any c m mx W (by omega) hm
end Go.Proofs.Ytpicoihlbgceiaa.Own

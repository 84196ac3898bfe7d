/- The walk of OpsColumns: true at any two bytes. Condition: the library's own variable reads as an integer. -/
import Derived.Test.YtpicoihlbgceiaaTab
namespace Go.Proofs.Ytpicoihlbgceiaa.Own
open Go.RowKit

theorem nameL_length (c : Nat) (h : c < 256) : (nameL c).length = 3 := by
  have hl : namesL.length = 768 := names_size
  unfold nameL
  rw [List.length_take, List.length_drop, hl]
  omega
theorem nameN_size (c : Nat) (h : c < 256) : (nameN c).size = 3 := by
  rw [nameN_eq]
  simpa [ByteArray.size] using nameL_length c h
def colP (l x y : Int) : Bool := if l == 23 || l == 31 then x == y || x == 4 || y == 4 || x == 7 || y == 7 else x == y
theorem col_all : (List.range 256).all (fun a => a % 2 == 0 || (List.range 8).all (fun r => colP (a % 32 : Nat) (modeI (a : Int)) (modeI ((r * 32 + a % 32 : Nat) : Int)))) = true := by kernel_rfl
theorem or_all : (List.range 256).all (fun c => Go.bits .or .u8 (c : Int) 1 == ((c / 2 * 2 + 1 : Nat) : Int)) = true := by decide +kernel
theorem low_all : (List.range 256).all (fun c => Go.bits .and .u8 (c : Int) 31 == ((c % 32 : Nat) : Int)) = true := by decide +kernel
theorem hi_all : (List.range 256).all (fun c => Go.bits .and .u8 (c : Int) 224 == ((c / 32 * 32 : Nat) : Int)) = true := by decide +kernel
theorem xor_all : (List.range 256).all (fun c => (List.range 8).all (fun r => (Go.bits .xor .u8 (c : Int) ((r * 32 : Nat) : Int) == (((Nat.xor (c / 32) r) * 32 + c % 32 : Nat) : Int)) && decide (Nat.xor (c / 32) r < 8))) = true := by decide +kernel
theorem range_all {n : Nat} {P : Nat → Bool} (h : (List.range n).all P = true) (i : Nat) (hi : i < n) : P i = true := List.all_eq_true.1 h i (by simpa using hi)
/-- What the walk needs of the two codes. -/
theorem cols (c e : Nat) (hc : c < 256) (he : e < 256) : ∃ a b : Nat, a < 256 ∧ b < 256 ∧ Go.bits .or .u8 (c : Int) 1 = (a : Int) ∧ Go.bits .xor .u8 (a : Int) (Go.bits .and .u8 (e : Int) 224) = (b : Int) ∧
    Go.bits .and .u8 (a : Int) 31 = ((a % 32 : Nat) : Int) ∧ colP (a % 32 : Nat) (modeI (a : Int)) (modeI (b : Int)) = true := by
  have h1 := range_all or_all c hc
  have h2 := range_all hi_all e he
  simp only [beq_iff_eq] at h1 h2
  have ha : c / 2 * 2 + 1 < 256 := by omega
  generalize hA : c / 2 * 2 + 1 = a at *
  have h3 := range_all (range_all xor_all a ha) (e / 32) (by omega)
  have h4 := range_all low_all a ha
  have h5 := range_all col_all a ha
  simp only [Bool.and_eq_true, beq_iff_eq, decide_eq_true_eq, Bool.or_eq_true] at h3 h4 h5
  have h6 := range_all (h5.resolve_left (by omega)) _ h3.2
  exact ⟨a, _, ha, by omega, h1, by rw [h2]; exact h3.1, h4, h6⟩
theorem colP_out {l x y : Int} (h : colP l x y = true) (hl : (l == 23 || l == 31) = true) : (x == y || x == 4 || y == 4 || x == 7 || y == 7) = true := by
  unfold colP at h
  rwa [if_pos hl] at h
/-- An opcode that was laid stays as a later call leaves it. -/
theorem kept3 {w w' : World} {s m k : Value} {t : TypeId} (hb : Below (w.alloc (.cells #[s, m, k] t)).heap.size (w.alloc (.cells #[s, m, k] t)) w') :
    (∀ o, (w'.alloc o).cell? ⟨w.heap.size, 0, none⟩ = some s) ∧ (∀ o, (w'.alloc o).cell? ⟨w.heap.size, 1, none⟩ = some m) := by
  have hlt : w.heap.size < (w.alloc (.cells #[s, m, k] t)).heap.size := by simp
  have hlt' : w.heap.size < w'.heap.size := Nat.lt_of_lt_of_le hlt hb.size
  refine ⟨fun o => ?_, fun o => ?_⟩
  · rw [World.cell?_alloc_lt w' o _ hlt', hb.cell hlt]; simp [go_sem]
  · rw [World.cell?_alloc_lt w' o _ hlt', hb.cell hlt]; simp [go_sem]
set_option maxHeartbeats 3200000 in
set_option maxRecDepth 100000 in
theorem columns_any (c e : Nat) (mx : Int) (w : World) (hc : c < 256) (he : e < 256) (hm : w.cell? ⟨0, 0, none⟩ = some (.int .i64 mx)) :
    Calls Try.prog 6 #[.int .u8 c, .int .u8 e] w fun e w' => e = .returned (.bool true) ∧ Below w.heap.size w w' := by
  obtain ⟨a, b, ha, hb, e1, e2, e3, hP⟩ := cols c e hc he
  have HA := Lib.hid (awake_any mx w hm)
  have hsz := nameN_size a ha
  have HX : Hid (∀ w1, Below w.heap.size w w1 → Calls Try.prog 10 #[.int .u8 (a : Int)] w1 fun e w' => e = .returned (.agg #[.string (nameN a), .int .i64 (modeI a), .int .i64 (kindI a)]) ∧ Below w1.heap.size w1 w') :=
    Lib.hid (fun w1 hb => of_any a mx w1 ha (cell_after hb hm))
  have HY : Hid (∀ w1, Below w.heap.size w w1 → Calls Try.prog 10 #[.int .u8 (b : Int)] w1 fun e w' => e = .returned (.agg #[.string (nameN b), .int .i64 (modeI b), .int .i64 (kindI b)]) ∧ Below w1.heap.size w1 w') :=
    Lib.hid (fun w1 hb' => of_any b mx w1 hb (cell_after hb' hm))
  generalize nameN a = na at HX hsz
  generalize nameN b = nb at HY
  generalize modeI (a : Int) = x at HX hP
  generalize modeI (b : Int) = y at HY hP
  generalize kindI a = ka at HX
  generalize kindI b = kb at HY
  generalize ((a % 32 : Nat) : Int) = l at e3 hP
  clear hm
  go_enter Try.func6, Try.ntmps6
  go_wp2_with fail
  go_at_call 9
  refine HA.out.mono ?_
  rintro e w1 ⟨rfl, hb1⟩
  go_wp2_with fail
  go_at_call 10
  refine (HX.out _ hb1).mono ?_
  rintro e w2 ⟨rfl, hb2⟩
  have hb2' := hb1.trans (hb2.mono hb1.size)
  have hlt := hb2'.size
  go_wp2_with fail
  go_at_call 10
  refine (HY.out _ (hb2'.alloc hlt _)).mono ?_
  rintro e w3 ⟨rfl, hb3⟩
  have hb3' := (hb2'.alloc hlt _).trans (hb3.mono (hb2'.alloc hlt _).size)
  have hlt3 := hb3'.size
  obtain ⟨X0, X1⟩ := kept3 hb3
  clear hb3
  go_wp2
  all_goals
    first
    | (go_ret; exact ⟨rfl, hb3'.alloc hlt3 _⟩)
    | (exfalso; simp_all [colP]; done)
    | (have hv := colP_out hP (by simp_all)
       go_ret
       refine ⟨?_, hb3'.alloc hlt3 _⟩
       show Ending.returned (.bool (x == y || x == 4 || y == 4 || x == 7 || y == 7)) = _
       rw [hv])
theorem columns_row (W : World) (a b : Int) (h : 0 ≤ a ∧ a < 256) (h' : 0 ≤ b ∧ b < 256) (mx : Int) (hm : W.cell? ⟨0, 0, none⟩ = some (.int .i64 mx)) :
    Calls Try.prog 6 #[.int .u8 a, .int .u8 b] W fun e w' => e = .returned (.bool true) ∧ Below W.heap.size W w' := by
  obtain ⟨c, rfl⟩ := Int.eq_ofNat_of_zero_le h.1
  obtain ⟨d, rfl⟩ := Int.eq_ofNat_of_zero_le h'.1
  exact columns_any c d mx W (by omega) (by omega) hm
end Go.Proofs.Ytpicoihlbgceiaa.Own

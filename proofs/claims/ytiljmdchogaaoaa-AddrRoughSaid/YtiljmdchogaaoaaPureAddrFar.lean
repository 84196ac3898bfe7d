/- Where any address lies further on, and a branch off, roughly and rightly, is as the document says: the pure statement, for every 16-bit address and every byte, with no condition. -/
import Derived.Test.YtiljmdchogaaoaaPAddrFarx1
import Derived.Laws.BitsLemmas
namespace Go.Proofs.Ytiljmdchogaaoaa.Pure
open Go.RowKit Go.Proofs.Ytiljmdchogaaoaa.PAddrFar Go.Proofs.YtiljmdchogaaoaaW.PrintWords Go.Proofs.YtiljmdchogaaoaaW.PrintLast

theorem bd16 {a : Int} (h : (Lit.int .u16 a).wf = true) : 0 ≤ a ∧ a < 65536 := by
  simp [Lit.wf, IntKind.min, IntKind.max, IntKind.signed, IntKind.bits] at h
  omega
theorem bd8 {a : Int} (h : (Lit.int .u8 a).wf = true) : 0 ≤ a ∧ a < 256 := by
  simp [Lit.wf, IntKind.min, IntKind.max, IntKind.signed, IntKind.bits] at h
  omega
theorem w16 (n : Int) : IntKind.u16.wrap n = n % 65536 := by simp [IntKind.wrap, IntKind.bits, IntKind.signed]
theorem w8 (n : Int) : IntKind.u8.wrap n = n % 256 := by simp [IntKind.wrap, IntKind.bits, IntKind.signed]
theorem wr16 (n : Int) (h0 : 0 ≤ n) (h1 : n < 2 ^ 16) : IntKind.u16.wrap n = n := by rw [w16]; omega
theorem join16 (x y : Int) (hx0 : 0 ≤ x) (hx : x % 256 = 0) (hx1 : x < 65536) (hy0 : 0 ≤ y) (hy : y < 256) : Go.bits .or .u16 x y = x + y :=
  bits_join .u16 16 (by decide) wr16 8 x y hx0 hx hx1 hy0 hy (by omega)
theorem word_eq (x y : Int) (hx : 0 ≤ x ∧ x < 256) (hy : 0 ≤ y ∧ y < 256) : addr_Word.f x y = some (y * 256 + x) := by
  unfold addr_Word.f
  rw [w16, w16, w16, join16 _ _ (by omega) (by omega) (by omega) (by omega) (by omega)]
  congr 1
  omega
theorem high_eq (a : Int) (ha : 0 ≤ a ∧ a < 65536) : addr_High.f a = some (a / 256) := by
  unfold addr_High.f
  congr 1
  omega
theorem stack_eq (x : Int) (hx : 0 ≤ x ∧ x < 256) : addr_Stack.f x = some (256 + x) := by
  unfold addr_Stack.f
  rw [w16, join16 _ _ (by omega) (by omega) (by omega) (by omega) (by omega)]
  congr 1
  omega
theorem end_eq (k : Nat) (a b : Int) (l : List Int) (n i : Int) (h : ¬ i < n) (ha : 0 ≤ a ∧ a < 65536) :
    addr_sum.l0 (k + 1) a b l n i = some (a / 256 * 256 + b % 256, b) := by
  rw [addr_sum.l0, if_neg h, high_eq a ha]
  simp only [Option.bind_some]
  rw [word_eq _ _ (by omega) (by omega)]
  simp only [Option.bind_some]
theorem sum1 (k : Nat) (a x : Int) (ha : 0 ≤ a ∧ a < 65536) : addr_sum.f (k + 2) a [x] = some (a / 256 * 256 + (a + x) % 65536 % 256, (a + x) % 65536) := by
  show addr_sum.l0 (k + 1 + 1) a a [x] 1 0 = _
  have e : rd [x] 0 = x := rfl
  have e2 : wrap64 (0 + 1) = 1 := by unfold wrap64; decide
  rw [addr_sum.l0, if_pos (by decide), if_pos (by decide), if_pos (by simp), e, w16, e2]
  exact end_eq k a ((a + x) % 65536) [x] 1 1 (by decide) ha
theorem sum2 (k : Nat) (a x y : Int) (ha : 0 ≤ a ∧ a < 65536) : addr_sum.f (k + 3) a [x, y] = some (a / 256 * 256 + (a + x + y) % 65536 % 256, (a + x + y) % 65536) := by
  show addr_sum.l0 (k + 2 + 1) a a [x, y] 2 0 = _
  have e : rd [x, y] 0 = x := rfl
  have e1 : rd [x, y] 1 = y := rfl
  have e2 : wrap64 (0 + 1) = 1 := by unfold wrap64; decide
  have e4 : wrap64 (1 + 1) = 2 := by unfold wrap64; decide
  have e3 : ((a + x) % 65536 + y) % 65536 = (a + x + y) % 65536 := by omega
  rw [addr_sum.l0, if_pos (by decide), if_pos (by decide), if_pos (by simp), e, w16, e2]
  rw [addr_sum.l0, if_pos (by decide), if_pos (by decide), if_pos (by simp), e1, w16, e3, e4]
  exact end_eq k a ((a + x + y) % 65536) [x, y] 2 2 (by decide) ha
theorem index_eq (k : Nat) (a x : Int) (ha : 0 ≤ a ∧ a < 65536) (hx : 0 ≤ x ∧ x < 256) : addr_Index.f (k + 2) a x = some (a / 256 * 256 + (a + x) % 65536 % 256, (a + x) % 65536) := by
  unfold addr_Index.f
  rw [w16, sum1 k a _ ha]
  simp only [Option.bind_some]
  have : x % 65536 = x := by omega
  rw [this]
theorem awake_eq (k : Nat) : keepsakelaw16_awake.f (k + 2) = some true := by
  unfold keepsakelaw16_awake.f
  rw [index_eq k _ _ (by omega) (by omega)]
  simp only [Option.bind_some]
  rw [if_pos (by decide), if_pos (by decide), word_eq _ _ (by omega) (by omega)]
  simp only [Option.bind_some]
  rw [if_pos (by decide), high_eq _ (by omega)]
  simp only [Option.bind_some]
  rw [if_pos (by decide), stack_eq _ (by omega)]
  rfl

theorem branch_eq (k : Nat) (a x : Int) (ha : 0 ≤ a ∧ a < 65536) (hx : 0 ≤ x ∧ x < 256) :
    addr_Branch.f (k + 3) a x = some (a / 256 * 256 + (a + (if x > 127 then x + 65280 else x)) % 65536 % 256, (a + (if x > 127 then x + 65280 else x)) % 65536) := by
  unfold addr_Branch.f
  have e : x % 65536 = x := by omega
  by_cases h : x > 127
  · rw [if_pos h, if_pos h, w16, sum2 k a _ _ ha, e]
    simp only [Option.bind_some]
    rw [show a + x + 65280 = a + (x + 65280) from by omega]
  · rw [if_neg h, if_neg h, w16, sum1 (k + 1) a _ ha, e]
    simp only [Option.bind_some]
theorem wid (n : Int) (h0 : -65536 * 4 ≤ n) (h1 : n < 65536 * 4) : wrap64 n = n := by unfold wrap64; omega
theorem far_eq (a x : Int) (ha : 0 ≤ a ∧ a < 65536) (hx : -256 ≤ x ∧ x < 256) : keepsakeref16_far.f a x = some (a / 256 * 256 + (a + x) % 65536 % 256, (a + x) % 65536) := by
  unfold keepsakeref16_far.f
  simp only [w16]
  have e1 : wrap64 (a + x) = a + x := wid _ (by omega) (by omega)
  rw [e1]
  have e2 : wrap64 (a + x + 65536) = a + x + 65536 := wid _ (by omega) (by omega)
  rw [e2]
  rw [Int.tmod_eq_emod_of_nonneg (by omega : 0 ≤ a + x + 65536), Int.tmod_eq_emod_of_nonneg (by omega : 0 ≤ a), Int.tmod_eq_emod_of_nonneg (by omega : 0 ≤ (a + x + 65536) % 65536)]
  rw [wid (a - a % 256) (by omega) (by omega), wid (a - a % 256 + _) (by omega) (by omega)]
  simp only [Option.some.injEq, Prod.mk.injEq]
  omega
theorem AddrFar : keepsakelaw16_AddrFar.Pure := by
  intro a x h g
  have ha := bd16 h
  have hx := bd8 g
  refine ⟨3, ?_⟩
  unfold keepsakelaw16_AddrFar.f
  rw [awake_eq 1, index_eq 1 a x ha hx]
  simp only [Option.bind_some]
  unfold keepsakeref16_Index.f
  rw [wid a (by omega) (by omega), wid x (by omega) (by omega), far_eq a x ha (by omega)]
  simp only [Option.bind_some]
  rw [branch_eq 0 a x ha hx]
  simp only [Option.bind_some]
  unfold keepsakeref16_Branch.f
  rw [wid a (by omega) (by omega), wid x (by omega) (by omega)]
  by_cases hc : x > 127
  · rw [if_pos hc, if_pos hc, wid (x - 256) (by omega) (by omega), far_eq a (x - 256) ha (by omega), show (a + (x + 65280)) % 65536 = (a + (x - 256)) % 65536 from by omega]
    simp
  · rw [if_neg hc, if_neg hc, far_eq a x ha (by omega)]
    simp

end Go.Proofs.Ytiljmdchogaaoaa.Pure

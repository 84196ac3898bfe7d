/- What any bytes and addresses are put together to is as the document says: the pure statement, for every 16-bit address and any two bytes, with no condition. -/
import Derived.Test.YtiljmdchogaaoaaPAddrTellsx1
import Derived.Laws.BitsLemmas
namespace Go.Proofs.Ytiljmdchogaaoaa.Pure
open Go.RowKit Go.Proofs.Ytiljmdchogaaoaa.PAddrTells Go.Proofs.YtiljmdchogaaoaaW.PrintWords Go.Proofs.YtiljmdchogaaoaaW.PrintLast

theorem bd16 {a : Int} (h : (Lit.int .u16 a).wf = true) : 0 ≤ a ∧ a < 65536 := by
  simp [Lit.wf, IntKind.min, IntKind.max, IntKind.signed, IntKind.bits] at h
  omega
theorem bd8 {a : Int} (h : (Lit.int .u8 a).wf = true) : 0 ≤ a ∧ a < 256 := by
  simp [Lit.wf, IntKind.min, IntKind.max, IntKind.signed, IntKind.bits] at h
  omega
theorem w16 (n : Int) : IntKind.u16.wrap n = n % 65536 := by simp [IntKind.wrap, IntKind.bits, IntKind.signed]
theorem w8 (n : Int) : IntKind.u8.wrap n = n % 256 := by simp [IntKind.wrap, IntKind.bits, IntKind.signed]
theorem wr16 (n : Int) (h0 : 0 ≤ n) (h1 : n < 2 ^ 16) : IntKind.u16.wrap n = n := by rw [w16]; omega
theorem join16 (x y : Int) (hx0 : 0 ≤ x) (hx : x % 256 = 0) (hx1 : x < 65536) (hy0 : 0 ≤ y) (hy : y < 256) : Go.bits .or .u16 x y = x + y :=
  bits_join .u16 16 (by decide) wr16 8 x y hx0 hx hx1 hy0 hy (by omega)
theorem word_eq (x y : Int) (hx : 0 ≤ x ∧ x < 256) (hy : 0 ≤ y ∧ y < 256) : addr_Word.f x y = some (y * 256 + x) := by
  unfold addr_Word.f
  rw [w16, w16, w16, join16 _ _ (by omega) (by omega) (by omega) (by omega) (by omega)]
  congr 1
  omega
theorem high_eq (a : Int) (ha : 0 ≤ a ∧ a < 65536) : addr_High.f a = some (a / 256) := by
  unfold addr_High.f
  congr 1
  omega
theorem stack_eq (x : Int) (hx : 0 ≤ x ∧ x < 256) : addr_Stack.f x = some (256 + x) := by
  unfold addr_Stack.f
  rw [w16, join16 _ _ (by omega) (by omega) (by omega) (by omega) (by omega)]
  congr 1
  omega
theorem end_eq (k : Nat) (a b : Int) (l : List Int) (n i : Int) (h : ¬ i < n) (ha : 0 ≤ a ∧ a < 65536) :
    addr_sum.l0 (k + 1) a b l n i = some (a / 256 * 256 + b % 256, b) := by
  rw [addr_sum.l0, if_neg h, high_eq a ha]
  simp only [Option.bind_some]
  rw [word_eq _ _ (by omega) (by omega)]
  simp only [Option.bind_some]
theorem sum1 (k : Nat) (a x : Int) (ha : 0 ≤ a ∧ a < 65536) : addr_sum.f (k + 2) a [x] = some (a / 256 * 256 + (a + x) % 65536 % 256, (a + x) % 65536) := by
  show addr_sum.l0 (k + 1 + 1) a a [x] 1 0 = _
  have e : rd [x] 0 = x := rfl
  have e2 : wrap64 (0 + 1) = 1 := by unfold wrap64; decide
  rw [addr_sum.l0, if_pos (by decide), if_pos (by decide), if_pos (by simp), e, w16, e2]
  exact end_eq k a ((a + x) % 65536) [x] 1 1 (by decide) ha
theorem sum2 (k : Nat) (a x y : Int) (ha : 0 ≤ a ∧ a < 65536) : addr_sum.f (k + 3) a [x, y] = some (a / 256 * 256 + (a + x + y) % 65536 % 256, (a + x + y) % 65536) := by
  show addr_sum.l0 (k + 2 + 1) a a [x, y] 2 0 = _
  have e : rd [x, y] 0 = x := rfl
  have e1 : rd [x, y] 1 = y := rfl
  have e2 : wrap64 (0 + 1) = 1 := by unfold wrap64; decide
  have e4 : wrap64 (1 + 1) = 2 := by unfold wrap64; decide
  have e3 : ((a + x) % 65536 + y) % 65536 = (a + x + y) % 65536 := by omega
  rw [addr_sum.l0, if_pos (by decide), if_pos (by decide), if_pos (by simp), e, w16, e2]
  rw [addr_sum.l0, if_pos (by decide), if_pos (by decide), if_pos (by simp), e1, w16, e3, e4]
  exact end_eq k a ((a + x + y) % 65536) [x, y] 2 2 (by decide) ha
theorem index_eq (k : Nat) (a x : Int) (ha : 0 ≤ a ∧ a < 65536) (hx : 0 ≤ x ∧ x < 256) : addr_Index.f (k + 2) a x = some (a / 256 * 256 + (a + x) % 65536 % 256, (a + x) % 65536) := by
  unfold addr_Index.f
  rw [w16, sum1 k a _ ha]
  simp only [Option.bind_some]
  have : x % 65536 = x := by omega
  rw [this]
theorem awake_eq (k : Nat) : keepsakelaw16_awake.f (k + 2) = some true := by
  unfold keepsakelaw16_awake.f
  rw [index_eq k _ _ (by omega) (by omega)]
  simp only [Option.bind_some]
  rw [if_pos (by decide), if_pos (by decide), word_eq _ _ (by omega) (by omega)]
  simp only [Option.bind_some]
  rw [if_pos (by decide), high_eq _ (by omega)]
  simp only [Option.bind_some]
  rw [if_pos (by decide), stack_eq _ (by omega)]
  rfl

theorem next_eq (k : Nat) (a : Int) (ha : 0 ≤ a ∧ a < 65536) : addr_Next.f (k + 2) a = some (a / 256 * 256 + (a + 1) % 256) := by
  unfold addr_Next.f
  rw [sum1 k a _ ha]
  simp only [Option.bind_some]
  congr 1
  omega

theorem zero_eq (k : Nat) (x y : Int) (hx : 0 ≤ x ∧ x < 256) (hy : 0 ≤ y ∧ y < 256) : addr_Zero.f (k + 2) x y = some ((x + y) % 256) := by
  unfold addr_Zero.f
  rw [w16, w16, sum1 k _ _ (by omega)]
  simp only [Option.bind_some]
  congr 1
  omega
theorem wid (n : Int) (h0 : -65536 * 4 ≤ n) (h1 : n < 65536 * 4) : wrap64 n = n := by unfold wrap64; omega
theorem AddrTells : keepsakelaw16_AddrTells.Pure := by
  intro a x y h g g1
  have ha := bd16 h
  have hx := bd8 g
  have hy := bd8 g1
  refine ⟨2, ?_⟩
  unfold keepsakelaw16_AddrTells.f keepsakeref16_Word.f keepsakeref16_High.f keepsakeref16_Stack.f keepsakeref16_Zero.f keepsakeref16_Next.f
  rw [awake_eq 0, word_eq x y hx hy, high_eq a ha, stack_eq x hx, zero_eq 0 x y hx hy, next_eq 0 a ha]
  simp only [Option.bind_some, w16, if_true]
  rw [wid a (by omega) (by omega), wid x (by omega) (by omega), wid y (by omega) (by omega), wid (256 * y) (by omega) (by omega), wid (256 * y + x) (by omega) (by omega), wid (256 + x) (by omega) (by omega), wid (x + y) (by omega) (by omega)]
  rw [Int.tdiv_eq_ediv_of_nonneg (by omega : 0 ≤ a), Int.tmod_eq_emod_of_nonneg (by omega : 0 ≤ a), Int.tmod_eq_emod_of_nonneg (by omega : 0 ≤ x + y)]
  rw [wid (a / 256) (by omega) (by omega), wid (a - a % 256) (by omega) (by omega), wid (a % 256 + 1) (by omega) (by omega)]
  rw [Int.tmod_eq_emod_of_nonneg (by omega : 0 ≤ a % 256 + 1)]
  rw [wid (a - a % 256 + _) (by omega) (by omega)]
  rw [if_pos (by omega), if_pos (by omega), if_pos (by omega), if_pos (by omega)]
  simp only [Option.some.injEq, beq_iff_eq]
  omega

end Go.Proofs.Ytiljmdchogaaoaa.Pure

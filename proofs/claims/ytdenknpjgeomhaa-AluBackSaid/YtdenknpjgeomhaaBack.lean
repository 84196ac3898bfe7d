/- What is turned one way is turned back, nine times round it is as it was: the walk. Conditions: bytes are bytes. -/
import Derived.Test.YtdenknpjgeomhaaOrder
namespace Go.Proofs.Ytdenknpjgeomhaa.Own
open Go.RowKit

theorem rolF_by {m p : Int} (hp : By p) : By (rolF m p) := shF_by hp _
theorem rorF_by {m p : Int} (hp : By p) : By (rorF m p) := shF_by hp _
theorem aslF_by {m p : Int} (hp : By p) : By (aslF m p) := shF_by hp _
theorem rolF_one {m p : Int} (hp : By p) : rolF m p % 2 = num (decide (128 ≤ m)) 1 := by
  rw [← and_one (rolF_by hp)]
  exact nzc_1 hp _ _ _
theorem rorF_one {m p : Int} (hp : By p) : Go.bits .and .u8 (rorF m p) 1 = num (m % 2 == 1) 1 := nzc_1 hp _ _ _
def step2 (s : Int × Int) : Int × Int := (s.1 * 2 % 256 + s.2, num (decide (128 ≤ s.1)) 1)
def rounds2 : Nat → Int × Int → Int × Int
  | 0, s => s
  | n + 1, s => step2 (rounds2 n s)
theorem nine (x c : Int) (hx : By x) (hc : c = 0 ∨ c = 1) : rounds2 9 (x, c) = (x, c) := by
  rcases hc with rfl | rfl
  · exact byte_all (P := fun x => rounds2 9 (x, 0) = (x, 0)) (by decide +kernel) hx
  · exact byte_all (P := fun x => rounds2 9 (x, 1) = (x, 1)) (by decide +kernel) hx
def rolN : Nat → Int × Int → Int × Int
  | 0, s => s
  | n + 1, s => (rolV (rolN n s).1 (rolN n s).2, rolF (rolN n s).1 (rolN n s).2)
theorem rolN_by {x q : Int} (hx : By x) (hq : By q) : ∀ n, By (rolN n (x, q)).1 ∧ By (rolN n (x, q)).2
  | 0 => ⟨hx, hq⟩
  | n + 1 => ⟨rolV_by _ _, rolF_by (rolN_by hx hq n).2⟩
theorem rolN_small {x q : Int} (hx : By x) (hq : By q) : ∀ n, ((rolN n (x, q)).1, (rolN n (x, q)).2 % 2) = rounds2 n (x, q % 2)
  | 0 => rfl
  | n + 1 => by
    have ih := rolN_small hx hq n
    show (rolV (rolN n (x, q)).1 (rolN n (x, q)).2, rolF (rolN n (x, q)).1 (rolN n (x, q)).2 % 2) = step2 (rounds2 n (x, q % 2))
    rw [← ih, rolF_one (rolN_by hx hq n).2]
    rfl
theorem num_bit (v : Int) : num (v % 2 == 1) 1 = v % 2 := by
  unfold num
  rcases (show v % 2 = 0 ∨ v % 2 = 1 by omega) with h | h <;> rw [h] <;> rfl
theorem low7 {m : Int} (hm : By m) : Go.bits .and .u8 m 127 = m % 128 := byte_all (P := fun m => Go.bits .and .u8 m 127 = m % 128) (by decide +kernel) hm

set_option maxHeartbeats 3200000 in
theorem back_walk (m p : Int) (w : World) (hm : By m) (hp : By p) :
    Calls Try.prog 4 #[.int .u8 m, .int .u8 p] w fun e w' => e = .returned (.bool true) ∧ Below w.heap.size w w' := by
  have hx := rolV_by m p
  have hf := rolF_by (m := m) hp
  have HR := Lib.hid (show ∀ w, Calls Try.prog 16 #[.int .u8 m, .int .u8 p] w fun e w' => e = .returned (.tuple #[.int .u8 (rolV m p), .int .u8 (rolF m p)]) ∧ w = w' from fun w => rol_any m p w hm hp)
  have eB : rorV (rolV m p) (rolF m p) = m := by
    unfold rorV
    rw [rolF_one hp]
    unfold rolV num By at *
    by_cases h : 128 ≤ m
    · simp [h]; omega
    · simp [h]; omega
  have HB := Lib.hid (show ∀ w, Calls Try.prog 18 #[.int .u8 (rolV m p), .int .u8 (rolF m p)] w fun e w' => e = .returned (.tuple #[.int .u8 m, .int .u8 (rorF (rolV m p) (rolF m p))]) ∧ w = w' from fun w => by
    have := ror_any (rolV m p) (rolF m p) w hx hf
    rw [eB] at this
    exact this)
  have hg1 : Go.bits .and .u8 (rorF (rolV m p) (rolF m p)) 1 = p % 2 := by
    rw [rorF_one hf, num_bit]
    unfold rolV
    omega
  have hp1 := and_one hp
  have HA := Lib.hid (show ∀ w, Calls Try.prog 12 #[.int .u8 m, .int .u8 p] w fun e w' => e = .returned (.tuple #[.int .u8 (aslV m), .int .u8 (aslF m p)]) ∧ w = w' from fun w => asl_any m p w hm hp)
  have eD : lsrV (aslV m) = m % 128 := by unfold lsrV aslV; omega
  have HL := Lib.hid (show ∀ w, Calls Try.prog 14 #[.int .u8 (aslV m), .int .u8 (aslF m p)] w fun e w' => e = .returned (.tuple #[.int .u8 (m % 128), .int .u8 (lsrF (aslV m) (aslF m p))]) ∧ w = w' from fun w => by
    have := lsr_any (aslV m) (aslF m p) w (mod_by _) (aslF_by hp)
    rw [eD] at this
    exact this)
  have h7 := low7 hm
  have hf124 : Go.bits .and .u8 (rolF m p) 124 = Go.bits .and .u8 p 124 := nzc_124 hp _ _ _
  have hn : ((rolN 9 (m, p)).1, (rolN 9 (m, p)).2 % 2) = (m, p % 2) := by rw [rolN_small hm hp 9, nine m (p % 2) hm (by omega)]
  simp only [Prod.mk.injEq] at hn
  obtain ⟨hn1, hn2⟩ := hn
  have hn3 : Go.bits .and .u8 (rolN 9 (m, p)).2 1 = p % 2 := by rw [and_one (rolN_by hm hp 9).2, hn2]
  generalize rorF (rolV m p) (rolF m p) = g at *
  generalize rolV m p = a at *
  generalize rolF m p = f at *
  generalize lsrF (aslV m) (aslF m p) = l at *
  generalize aslV m = s at *
  generalize aslF m p = t at *
  clear eB eD hn2
  have HN1 := Lib.hid hn1
  have HN3 := Lib.hid hn3
  clear hn1 hn3
  have hm' := hm
  have hp' := hp
  obtain ⟨hm0, hm1⟩ := hm
  obtain ⟨hp0, hp1'⟩ := hp
  go_enter Try.func4, Try.ntmps4
  go_wp2_with fail
  go_at_call 11
  refine (awake_any _).mono ?_
  rintro e w1 ⟨rfl, hb1⟩
  go_wp2_with fail
  go_at_call 16
  refine (HR.out _).mono ?_
  rintro e w' ⟨rfl, rfl⟩
  go_wp2_with fail
  go_at_call 18
  refine (HB.out _).mono ?_
  rintro e w' ⟨rfl, rfl⟩
  go_wp2_with fail
  go_at_call 12
  refine (HA.out _).mono ?_
  rintro e w' ⟨rfl, rfl⟩
  go_wp2_with fail
  go_at_call 14
  refine (HL.out _).mono ?_
  rintro e w' ⟨rfl, rfl⟩
  go_wp2
  go_loopw [14, 15, 16] (fun xv qv iv wr => ∃ k : Nat, k ≤ 9 ∧ iv = .int .i64 k ∧ xv = .int .u8 (rolN k (m, p)).1 ∧ qv = .int .u8 (rolN k (m, p)).2 ∧ wr = w1) (fun _ _ iv _ => 9 - (intOf iv).toNat)
  case atStart => exact ⟨0, by omega, rfl, rfl, rfl, rfl⟩
  case round =>
    obtain ⟨k, hk, rfl, rfl, rfl, rfl⟩ := hrel
    by_cases hlt : k < 9
    · go_wp2_with fail
      go_at_call 16
      refine (rol_any _ _ _ (rolN_by hm' hp' k).1 (rolN_by hm' hp' k).2).mono ?_
      rintro e w' ⟨rfl, rfl⟩
      go_wp2
      exact ⟨⟨k + 1, by omega, by go_num, rfl, rfl, trivial⟩, by simp [intOf]; omega⟩
    · obtain rfl : k = 9 := by omega
      have hn1 := HN1.out
      have hn3 := HN3.out
      generalize (rolN 9 (m, p)).2 = q9 at *
      rw [hn1]
      clear hn1
      go_wp2
      go_ret
      exact ⟨rfl, hb1⟩
end Go.Proofs.Ytdenknpjgeomhaa.Own

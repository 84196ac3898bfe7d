/- A console while it is made. No conditions. · The console's block as it is made first. No conditions. -/
import Derived.Test.YtifajfjiloajfaaGreatDoorMConG
import Derived.Test.YtifajfjiloajfaaGreatDoorUnp
import Derived.Test.YtifajfjiloajfaaGreatDoorCloneZ
import Derived.Test.YtifajfjiloajfaaGreatDoorMFlashE
import Derived.Test.YtifajfjiloajfaaGreatDoorConH
namespace Go.Proofs.YtifajfjiloajfaaGreatDoor.OwnCon
open Go.RowKit Go.Proofs.YtifajfjiloajfaaGreatDoor.Own Go.Proofs.YtifajfjiloajfaaGreatDoor.OwnChip Go.Proofs.YtifajfjiloajfaaGreatDoor.OwnCpu Go.Proofs.YtifajfjiloajfaaGreatDoor.OwnGeo
/-- A console that is being made. -/
structure Base (τ : Nat → Nat) (w : World) (K : KC) : Prop where
  own : Cb K w
  t0 : τ K.g = 0
  cpu : CpuIn (Own τ w 1) w K.cpu newC resetL
  tc : τ K.cpu = 1
  tm : TimQ true w K.tm
  t2 : τ K.tm = 2
  pd : Pad w K.pd
  t3 : τ K.pd = 3
  rom : Rm K.zs w K.rb
  t7 : τ K.rb = 7
  geo : OwnGeo.GeoAt w
  t9 : τ 0 = 9
  mx : ∃ m, w.cell? ⟨1, 0, none⟩ = some (.int .i64 m)
  t1 : τ 1 = 9
  ee : ∀ x, K.wi = some x → ∃ n, Kd K.e n ∧ Ee (Own τ w 4) K.e n w x
  fl : ∀ x, K.fl = some x → Fl (Own τ w 5) (K.f * 256) w x
  sr : ∀ x, K.sr = some x → Sr (Own τ w 6) (K.s * 64) w x
section
variable {τ : Nat → Nat} {w w' w0 : World} {K : KC}
theorem Base.con (h : Base τ w K) (ok : K.Ok) : Con τ w K newC resetL true := ⟨ok, h.own, h.t0, h.cpu, h.tm, h.t2, h.pd, h.t3, h.ee, h.fl, h.sr, h.rom, h.t7, h.geo, h.t9, h.mx, h.t1, h.tc⟩
theorem Base.below (h : Base τ w K) (k : Below w.heap.size w w') (i : Nat) : Base (retag τ w.heap.size i) w' K := by
  have kf : Kept (fun _ => False) w w' := Kept.below k
  have hs := k.size
  have hr : ∀ b j, b < w.heap.size → τ b = j → retag τ w.heap.size i b = j := fun b j hb e => (retag_old hb).trans e
  obtain ⟨m, hm⟩ := h.mx
  have h1l := cell_lt hm
  have hcl : K.cpu < w.heap.size := by
    obtain ⟨v, hv, -⟩ := h.cpu
    exact hv.lt
  have hk : ∀ j b, Own τ w j b → Own (retag τ w.heap.size i) w' j b := fun j b hb => ⟨Nat.lt_of_lt_of_le hb.1 hs, (retag_old hb.1).trans hb.2⟩
  refine ⟨Sh.kept kf (fun h => h) h.own, hr _ _ (Sh.lt h.own) h.t0, (h.cpu.kept kf (fun _ _ h => h)).mono fun b _ hb => hk 1 b hb, hr _ _ hcl h.tc, h.tm.kept kf (fun h => h), hr _ _ h.tm.lt h.t2, Sh.kept kf (fun h => h) h.pd, hr _ _ (Sh.lt h.pd) h.t3, h.rom.kept kf (fun h => h), hr _ _ h.rom.1 h.t7, h.geo.kept kf (fun h => h), hr _ _ (by omega) h.t9, ⟨m, (cell_of (k.block 1 h1l)).trans hm⟩, hr _ _ h1l h.t1, ?_, ?_, ?_⟩
  · intro x hx
    obtain ⟨n, kd, he⟩ := h.ee x hx
    exact ⟨n, kd, (he.kept kf (fun _ _ h => h)).mono (hk 4)⟩
  · intro x hx
    exact (fl_out kf (fun _ _ h => h) (h.fl x hx)).mono (hk 5)
  · intro x hx
    exact ((h.sr x hx).kept kf (fun _ _ h => h)).mono (hk 6)
/-- Its own block is written. -/
theorem Base.put (h : Base τ w K) (k : Kept (· = K.g) w w') {a b d : Option Nat} (hc : Cb { K with wi := a, fl := b, sr := d } w')
    (ee : ∀ x, a = some x → ∃ n, Kd K.e n ∧ Ee (Own τ w 4) K.e n w x) (fl : ∀ x, b = some x → Fl (Own τ w 5) (K.f * 256) w x) (sr : ∀ x, d = some x → Sr (Own τ w 6) (K.s * 64) w x) : Base τ w' { K with wi := a, fl := b, sr := d } := by
  have hs := k.size
  have hn : ∀ j b, τ b = j → j ≠ 0 → ¬ b = K.g := fun j b e hj e2 => hj (by rw [← e, e2, h.t0])
  have hk : ∀ j b, Own τ w j b → Own τ w' j b := fun j b hb => ⟨Nat.lt_of_lt_of_le hb.1 hs, hb.2⟩
  have ho : ∀ j, j ≠ 0 → ∀ b, Own τ w j b → ¬ b = K.g := fun j hj b hb => hn j b hb.2 hj
  obtain ⟨m, hm⟩ := h.mx
  have h1l := cell_lt hm
  refine ⟨hc, h.t0, (h.cpu.kept k (ho 1 (by decide))).mono fun b _ hb => hk 1 b hb, h.tc, h.tm.kept k (hn 2 _ h.t2 (by decide)), h.t2, Sh.kept k (hn 3 _ h.t3 (by decide)) h.pd, h.t3, h.rom.kept k (hn 7 _ h.t7 (by decide)), h.t7, h.geo.kept k (hn 9 _ h.t9 (by decide)), h.t9, ⟨m, (cell_of (k.block 1 h1l (hn 9 _ h.t1 (by decide)))).trans hm⟩, h.t1, ?_, ?_, ?_⟩
  · intro x hx
    obtain ⟨n, kd, he⟩ := ee x hx
    exact ⟨n, kd, (he.kept k (ho 4 (by decide))).mono (hk 4)⟩
  · intro x hx
    exact (fl_out k (ho 5 (by decide)) (fl x hx)).mono (hk 5)
  · intro x hx
    exact ((sr x hx).kept k (ho 6 (by decide))).mono (hk 6)
theorem Base.drew (h : Base τ w K) : Base τ w.drew K :=
  h.put (a := K.wi) (b := K.fl) (d := K.sr) (Kept.refl _ _).drew (Sh.kept (S := fun _ => False) (Kept.refl _ _).drew (fun h => h) h.own) h.ee h.fl h.sr
theorem Own.fresh (i : Nat) (hs : w.heap.size ≤ w'.heap.size) : ∀ b, (w.heap.size ≤ b ∧ b < w'.heap.size) → Own (retag τ w.heap.size i) w' i b := fun _ h => Own.new hs _ (Or.inr h)
theorem Cb.setWi (h : Cb K w) (x : Nat) (v : Value) : Cb { K with wi := some x } ((w.setCell ⟨K.g, 2063, none⟩ (ptr x)).setCell ⟨K.g, 2066, none⟩ v) := by
  have h1 : Cb { K with wi := some x } (w.setCell ⟨K.g, 2063, none⟩ (ptr x)) := by
    refine Sh.turn h 2063 _ ?_ ?_
    · refine ⟨?_, ?_, ?_, ?_, ?_, ?_, ?_, ?_, ?_, ?_, ?_, ?_, ?_, fun _ => rfl, ?_, ?_⟩ <;> intro e <;> omega
    · rintro j v hj ⟨h0, h1, h2, h3, h4, h5, h6, h7, h8, h9, h10, h11, h12, h13, h14, h15⟩
      exact ⟨h0, h1, h2, h3, h4, h5, h6, h7, h8, h9, h10, h11, h12, fun e => absurd e hj, h14, h15⟩
  refine Sh.set h1 2066 v ?_
  refine ⟨?_, ?_, ?_, ?_, ?_, ?_, ?_, ?_, ?_, ?_, ?_, ?_, ?_, ?_, ?_, ?_⟩ <;> intro e <;> omega
theorem Cb.setFl (h : Cb K w) (x : Nat) (v : Value) : Cb { K with fl := some x } ((w.setCell ⟨K.g, 2064, none⟩ (ptr x)).setCell ⟨K.g, 2067, none⟩ v) := by
  have h1 : Cb { K with fl := some x } (w.setCell ⟨K.g, 2064, none⟩ (ptr x)) := by
    refine Sh.turn h 2064 _ ?_ ?_
    · refine ⟨?_, ?_, ?_, ?_, ?_, ?_, ?_, ?_, ?_, ?_, ?_, ?_, ?_, ?_, fun _ => rfl, ?_⟩ <;> intro e <;> omega
    · rintro j v hj ⟨h0, h1, h2, h3, h4, h5, h6, h7, h8, h9, h10, h11, h12, h13, h14, h15⟩
      exact ⟨h0, h1, h2, h3, h4, h5, h6, h7, h8, h9, h10, h11, h12, h13, fun e => absurd e hj, h15⟩
  refine Sh.set h1 2067 v ?_
  refine ⟨?_, ?_, ?_, ?_, ?_, ?_, ?_, ?_, ?_, ?_, ?_, ?_, ?_, ?_, ?_, ?_⟩ <;> intro e <;> omega
theorem Cb.setSr (h : Cb K w) (x : Nat) : Cb { K with sr := some x } (w.setCell ⟨K.g, 2065, none⟩ (ptr x)) := by
  refine Sh.turn h 2065 _ ?_ ?_
  · refine ⟨?_, ?_, ?_, ?_, ?_, ?_, ?_, ?_, ?_, ?_, ?_, ?_, ?_, ?_, ?_, fun _ => rfl⟩ <;> intro e <;> omega
  · rintro j v hj ⟨h0, h1, h2, h3, h4, h5, h6, h7, h8, h9, h10, h11, h12, h13, h14, h15⟩
    exact ⟨h0, h1, h2, h3, h4, h5, h6, h7, h8, h9, h10, h11, h12, h13, h14, fun e => absurd e hj⟩
/-- One that is being made, above what there was. -/
def Made (w0 : World) (τ : Nat → Nat) (w : World) (K : KC) : Prop := Base τ w K ∧ Below w0.heap.size w0 w ∧ w0.heap.size ≤ K.g ∧ ∀ b, b < w0.heap.size → τ b = if b = K.rb then 7 else 9
theorem Made.below (h : Made w0 τ w K) (k : Below w.heap.size w w') (i : Nat) : Made w0 (retag τ w.heap.size i) w' K := ⟨h.1.below k i, bel_trans h.2.1 k, h.2.2.1, fun b hb => (retag_old (Nat.lt_of_lt_of_le hb h.2.1.size)).trans (h.2.2.2 b hb)⟩
theorem Made.set (h : Made w0 τ w K) (k : Kept (· = K.g) w w') : Below w0.heap.size w0 w' := Kept.none_below ((Kept.below h.2.1).trans (k.mono (by rintro j - rfl; exact Or.inr h.2.2.1)))
theorem Made.ee (h : Made w0 τ w K) (k : Below w.heap.size w w') (x n : Nat) (v : Value) (kd : Kd K.e n) (he : Ee (fun j => w.heap.size ≤ j ∧ j < w'.heap.size) K.e n w' x) :
    Made w0 (retag τ w.heap.size 4) ((w'.setCell ⟨K.g, 2063, none⟩ (ptr x)).setCell ⟨K.g, 2066, none⟩ v).drew { K with wi := some x } := by
  have h1 := h.below k 4
  have kk : Kept (· = K.g) w' ((w'.setCell ⟨K.g, 2063, none⟩ (ptr x)).setCell ⟨K.g, 2066, none⟩ v) := kset (S := (· = K.g)) (Kept.set (S := (· = K.g)) K.g 2063 _ rfl) rfl 2066 _
  refine ⟨(h1.1.put (a := some x) (b := K.fl) (d := K.sr) kk (h1.1.own.setWi x v) (fun y hy => ?_) h1.1.fl h1.1.sr).drew, h1.set kk.drew, h.2.2.1, h1.2.2.2⟩
  cases hy
  exact ⟨n, kd, he.mono (Own.fresh 4 k.size)⟩
theorem Made.fl (h : Made w0 τ w K) (k : Below w.heap.size w w') (x : Nat) (v : Value) (he : Fl (fun j => w.heap.size ≤ j ∧ j < w'.heap.size) (K.f * 256) w' x) :
    Made w0 (retag τ w.heap.size 5) ((w'.setCell ⟨K.g, 2064, none⟩ (ptr x)).setCell ⟨K.g, 2067, none⟩ v).drew { K with fl := some x } := by
  have h1 := h.below k 5
  have kk : Kept (· = K.g) w' ((w'.setCell ⟨K.g, 2064, none⟩ (ptr x)).setCell ⟨K.g, 2067, none⟩ v) := kset (S := (· = K.g)) (Kept.set (S := (· = K.g)) K.g 2064 _ rfl) rfl 2067 _
  refine ⟨(h1.1.put (a := K.wi) (b := some x) (d := K.sr) kk (h1.1.own.setFl x v) h1.1.ee (fun y hy => ?_) h1.1.sr).drew, h1.set kk.drew, h.2.2.1, h1.2.2.2⟩
  cases hy
  exact he.mono (Own.fresh 5 k.size)
theorem Made.sr (h : Made w0 τ w K) (k : Below w.heap.size w w') (x : Nat) (he : Sr (fun j => w.heap.size ≤ j ∧ j < w'.heap.size) (K.s * 64) w' x) :
    Made w0 (retag τ w.heap.size 6) (w'.setCell ⟨K.g, 2065, none⟩ (ptr x)) { K with sr := some x } := by
  have h1 := h.below k 6
  have kk : Kept (· = K.g) w' (w'.setCell ⟨K.g, 2065, none⟩ (ptr x)) := Kept.set (S := (· = K.g)) K.g 2065 _ rfl
  refine ⟨h1.1.put (a := K.wi) (b := K.fl) (d := some x) kk (h1.1.own.setSr x) h1.1.ee h1.1.fl (fun y hy => ?_), h1.set kk, h.2.2.1, h1.2.2.2⟩
  cases hy
  exact he.mono (Own.fresh 6 k.size)
end
end Go.Proofs.YtifajfjiloajfaaGreatDoor.OwnCon
namespace Go.Proofs.YtifajfjiloajfaaGreatDoor.OwnCon
open Go.RowKit Go.Proofs.YtifajfjiloajfaaGreatDoor.Own Go.Proofs.YtifajfjiloajfaaGreatDoor.OwnChip Go.Proofs.YtifajfjiloajfaaGreatDoor.OwnCpu Go.Proofs.YtifajfjiloajfaaGreatDoor.OwnGeo
/-- What each cell of an empty console is. -/
def zok (i : Nat) (v : Value) : Bool :=
  if (decide (7 ≤ i) && decide (i < 2055)) || i == 2057 || i == 2058 then (match v with | .int .u8 x => x == 0 | _ => false)
  else if decide (2059 ≤ i) && decide (i < 2063) then (match v with | .bool _ => true | _ => false)
  else if decide (2063 ≤ i) && decide (i < 2066) then (match v with | .pointer none => true | _ => false)
  else true
def zall : Nat → List Value → Bool
  | _, [] => true
  | i, v :: r => zok i v && zall (i + 1) r
theorem zall_get : ∀ (l : List Value) (i j : Nat) (v : Value), zall i l = true → l[j]? = some v → zok (i + j) v = true
  | [], _, _, _, _, h => by simp at h
  | u :: r, i, j, v, ha, h => by
    simp only [zall, Bool.and_eq_true] at ha
    cases j with
    | zero =>
      simp at h
      rw [← h]
      exact ha.1
    | succ j =>
      have := zall_get r (i + 1) j v ha.2 (by simpa using h)
      rwa [show i + 1 + j = i + (j + 1) by omega] at this
theorem zero_size : Tryz.zeroCells83.size = 2068 := by kernel_rfl
theorem zero_all : zall 0 Tryz.zeroCells83.toList = true := by kernel_rfl
theorem zero_get (i : Nat) (v : Value) (h : Tryz.zeroCells83[i]? = some v) : zok i v = true := by
  have := zall_get Tryz.zeroCells83.toList 0 i v zero_all (by rw [Array.getElem?_toList]; exact h)
  rwa [Nat.zero_add] at this
noncomputable abbrev firstZ (K : KC) : Array Value := ((((((((((((((Tryz.zeroCells83.setIfInBounds 0 (.int .i64 8)).setIfInBounds 1 (.int .i64 K.nb)).setIfInBounds 2 (.int .i64 K.e)).setIfInBounds 3 (.int .i64 K.f)).setIfInBounds 4 (.int .i64 K.s)).setIfInBounds 5 (.slice (some ⟨K.rb, 0, none⟩) (K.nb * 256) K.rcap)).setIfInBounds 6 (ptr K.cpu)).setIfInBounds 2055 (ptr K.tm)).setIfInBounds 2056 (ptr K.pd)).setIfInBounds 2059 (.bool true)).setIfInBounds 2060 (.bool true)).setIfInBounds 2062 (.bool true)).setIfInBounds 2066 (.iface 74 (.agg #[]))).setIfInBounds 2067 (.iface 74 (.agg #[])))
theorem firstZ_far (K : KC) (i : Nat) (h : (7 ≤ i ∧ i < 2055) ∨ i = 2057 ∨ i = 2058 ∨ i = 2061 ∨ i = 2063 ∨ i = 2064 ∨ i = 2065) : (firstZ K)[i]? = Tryz.zeroCells83[i]? := by
  have e : ∀ (A : Array Value) (k : Nat) (u : Value), k ≠ i → (A.setIfInBounds k u)[i]? = A[i]? := fun A k u hk => by rw [Array.getElem?_setIfInBounds, if_neg hk]
  unfold firstZ
  rw [e _ 2067 _ (by omega), e _ 2066 _ (by omega), e _ 2062 _ (by omega), e _ 2060 _ (by omega), e _ 2059 _ (by omega), e _ 2056 _ (by omega), e _ 2055 _ (by omega), e _ 6 _ (by omega), e _ 5 _ (by omega), e _ 4 _ (by omega), e _ 3 _ (by omega), e _ 2 _ (by omega), e _ 1 _ (by omega), e _ 0 _ (by omega)]
theorem zero_byte {i : Nat} {v : Value} (hi : (7 ≤ i ∧ i < 2055) ∨ i = 2057 ∨ i = 2058) (h : Tryz.zeroCells83[i]? = some v) : v = .int .u8 0 := by
  have z := zero_get i v h
  unfold zok at z
  rw [if_pos (by simp; omega)] at z
  split at z
  · simp at z
    rw [z]
  · simp at z
theorem zero_bit {i : Nat} {v : Value} (h0 : 2059 ≤ i) (h1 : i < 2063) (h : Tryz.zeroCells83[i]? = some v) : ∃ b, v = .bool b := by
  have z := zero_get i v h
  unfold zok at z
  rw [if_neg (by simp; omega), if_pos (by simp; omega)] at z
  split at z
  · exact ⟨_, rfl⟩
  · simp at z
theorem zero_ptr {i : Nat} {v : Value} (h0 : 2063 ≤ i) (h1 : i < 2066) (h : Tryz.zeroCells83[i]? = some v) : v = .pointer none := by
  have z := zero_get i v h
  unfold zok at z
  rw [if_neg (by simp; omega), if_neg (by simp; omega), if_pos (by simp; omega)] at z
  split at z
  · rfl
  · simp at z
theorem first_own (K : KC) (w : World) (hg : K.g = w.heap.size) (hw : K.wi = none) (hf : K.fl = none) (hs : K.sr = none) (hbr : K.br = 0) (hbf : K.bf = 0) : Cb K (w.alloc (.cells (firstZ K) 83)) := by
  refine ⟨firstZ K, by rw [hg]; exact Blk.new w 83 _, by simp, ?_⟩
  intro i v hv
  have hz := zero_size
  refine ⟨?_, ?_, ?_, ?_, ?_, ?_, ?_, ?_, ?_, ?_, ?_, ?_, ?_, ?_, ?_, ?_⟩
  · rintro rfl
    simp [hz] at hv
    exact hv.symm
  · rintro rfl
    simp [hz] at hv
    exact hv.symm
  · rintro rfl
    simp [hz] at hv
    exact hv.symm
  · rintro rfl
    simp [hz] at hv
    exact hv.symm
  · rintro rfl
    simp [hz] at hv
    exact hv.symm
  · rintro rfl
    simp [hz] at hv
    exact hv.symm
  · rintro rfl
    simp [hz] at hv
    exact hv.symm
  · intro h0 h1
    rw [firstZ_far K i (Or.inl ⟨h0, h1⟩)] at hv
    exact ⟨0, by_0, zero_byte (Or.inl ⟨h0, h1⟩) hv⟩
  · rintro rfl
    simp [hz] at hv
    exact hv.symm
  · rintro rfl
    simp [hz] at hv
    exact hv.symm
  · rintro rfl
    rw [firstZ_far K _ (by omega)] at hv
    rw [hbr]
    exact zero_byte (by omega) hv
  · rintro rfl
    rw [firstZ_far K _ (by omega)] at hv
    rw [hbf]
    exact zero_byte (by omega) hv
  · intro h0 h1
    rcases (by omega : i = 2059 ∨ i = 2060 ∨ i = 2061 ∨ i = 2062) with rfl | rfl | rfl | rfl
    · simp [hz] at hv
      exact ⟨true, hv.symm⟩
    · simp [hz] at hv
      exact ⟨true, hv.symm⟩
    · rw [firstZ_far K _ (by omega)] at hv
      exact zero_bit (by omega) (by omega) hv
    · simp [hz] at hv
      exact ⟨true, hv.symm⟩
  · rintro rfl
    rw [firstZ_far K _ (by omega)] at hv
    rw [hw]
    exact zero_ptr (by omega) (by omega) hv
  · rintro rfl
    rw [firstZ_far K _ (by omega)] at hv
    rw [hf]
    exact zero_ptr (by omega) (by omega) hv
  · rintro rfl
    rw [firstZ_far K _ (by omega)] at hv
    rw [hs]
    exact zero_ptr (by omega) (by omega) hv
/-- The first console: its processor, timer and pad one behind the other. -/
theorem made_first (K : KC) (w8 w9 w10 w11 : World) (hcpu : K.cpu = w8.heap.size) (htm : K.tm = w9.heap.size) (hpd : K.pd = w10.heap.size) (hg : K.g = w11.heap.size) (hw : K.wi = none) (hf : K.fl = none) (hs : K.sr = none) (hbr : K.br = 0) (hbf : K.bf = 0)
    (hgeo : OwnGeo.GeoAt w8) (hmx : ∃ m, w8.cell? ⟨1, 0, none⟩ = some (.int .i64 m)) (hrm : Rm K.zs w8 K.rb) (hr0 : 1 < K.rb)
    (b9 : Below w8.heap.size w8 w9) (hc : ∃ v, CAt w9 w8.heap.size newC v ∧ PlanAt w9 v resetL ∧ v.ownBlock ≠ some w8.heap.size ∧ (∀ b, v.ownBlock = some b → w8.heap.size ≤ b))
    (b10 : Below w9.heap.size w9 w10) (ht : TimQ true w10 w9.heap.size) (b11 : Below w10.heap.size w10 w11) (hp : Pad w11 w10.heap.size) :
    Made w8 (retag (retag (retag (retag (fun b => if b = K.rb then 7 else 9) w8.heap.size 1) w9.heap.size 2) w10.heap.size 3) w11.heap.size 0) (w11.alloc (.cells (firstZ K) 83)) K := by
  obtain ⟨v, h1, h2, h3, h4⟩ := hc
  have s8 : w8.heap.size < w9.heap.size := h1.lt
  have s9 : w9.heap.size < w10.heap.size := ht.lt
  have s10 : w10.heap.size < w11.heap.size := Sh.lt hp
  have b12 : Below w11.heap.size w11 (w11.alloc (.cells (firstZ K) 83)) := (Below.refl _ _).alloc (Nat.le_refl _) _
  have k11 : Below w9.heap.size w9 w11 := bel_trans b10 b11
  have k12 : Below w9.heap.size w9 (w11.alloc (.cells (firstZ K) 83)) := bel_trans k11 b12
  have k8 : Below w8.heap.size w8 (w11.alloc (.cells (firstZ K) 83)) := bel_trans b9 k12
  have hsz : (w11.alloc (.cells (firstZ K) 83)).heap.size = w11.heap.size + 1 := by simp
  obtain ⟨m, hm⟩ := hmx
  have h1l := cell_lt hm
  have hrl := hrm.1
  have tau : ∀ b j, ((b < w8.heap.size ∧ (if b = K.rb then 7 else 9) = j) ∨ (w8.heap.size ≤ b ∧ b < w9.heap.size ∧ j = 1) ∨ (w9.heap.size ≤ b ∧ b < w10.heap.size ∧ j = 2) ∨ (w10.heap.size ≤ b ∧ b < w11.heap.size ∧ j = 3) ∨ (w11.heap.size ≤ b ∧ j = 0)) →
      (retag (retag (retag (retag (fun b => if b = K.rb then 7 else 9) w8.heap.size 1) w9.heap.size 2) w10.heap.size 3) w11.heap.size 0) b = j := by
    intro b j h
    unfold retag
    rcases h with ⟨h, e⟩ | ⟨h, h', rfl⟩ | ⟨h, h', rfl⟩ | ⟨h, h', rfl⟩ | ⟨h, rfl⟩
    · rw [if_pos (by omega), if_pos (by omega), if_pos (by omega), if_pos h]
      exact e
    · rw [if_pos (by omega), if_pos (by omega), if_pos (by omega), if_neg (by omega)]
    · rw [if_pos (by omega), if_pos (by omega), if_neg (by omega)]
    · rw [if_pos (by omega), if_neg (by omega)]
    · rw [if_neg (by omega)]
  refine ⟨⟨first_own K w11 hg hw hf hs hbr hbf, tau _ _ (by omega), ?_, tau _ _ (by omega), ?_, tau _ _ (by omega), ?_, tau _ _ (by omega), hrm.kept (Kept.below k8 : Kept (fun _ => False) _ _) (fun h => h), tau _ _ (Or.inl ⟨hrl, if_pos rfl⟩), hgeo.below k8, tau _ _ (Or.inl ⟨by omega, if_neg (by omega)⟩), ⟨m, (cell_of (k8.block 1 h1l)).trans hm⟩, tau _ _ (Or.inl ⟨h1l, if_neg (by omega)⟩), ?_, ?_, ?_⟩, k8, by omega, fun b hb => tau b _ (Or.inl ⟨hb, rfl⟩)⟩
  · rw [hcpu]
    have z : CpuIn (fun j => w8.heap.size ≤ j ∧ j < w9.heap.size) w9 w8.heap.size newC resetL := ⟨v, h1, h2, h3, ⟨Nat.le_refl _, s8⟩, fun b hb => ⟨h4 b hb, h2.lt b hb⟩⟩
    exact (z.kept (Kept.below k12 : Kept (fun _ => False) _ _) (fun _ _ h => h)).mono fun b hb h => ⟨hb, tau _ _ (Or.inr (Or.inl ⟨h.1, h.2, rfl⟩))⟩
  · rw [htm]
    exact ht.kept (Kept.below (bel_trans b11 b12) : Kept (fun _ => False) _ _) (fun h => h)
  · rw [hpd]
    exact Sh.kept (Kept.below b12 : Kept (fun _ => False) _ _) (fun h => h) hp
  · intro x hx
    rw [hw] at hx
    simp at hx
  · intro x hx
    rw [hf] at hx
    simp at hx
  · intro x hx
    rw [hs] at hx
    simp at hx
end Go.Proofs.YtifajfjiloajfaaGreatDoor.OwnCon

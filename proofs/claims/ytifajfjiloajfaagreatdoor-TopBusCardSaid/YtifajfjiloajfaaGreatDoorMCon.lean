/- The console's state: which blocks are whose; what a call of one part leaves of the others. No conditions. · What comes of a call on one of the console's parts; a bit; what a register tells. Conditions: the console's state. · What a register tells. Conditions: the console's state. · A register is told a byte. Conditions: the console's state; a byte. · What lies at a spot is read. Conditions: the console's state; the spot is one that is there. · A byte is laid at a spot. Conditions: the console's state; the spot is one that is there; a byte. -/
import Derived.Test.YtifajfjiloajfaaGreatDoorMTimer
import Derived.Test.YtifajfjiloajfaaGreatDoorOut
import Derived.Test.YtifajfjiloajfaaGreatDoorMEeK
import Derived.Test.YtifajfjiloajfaaGreatDoorMFlashE
import Derived.Test.YtifajfjiloajfaaGreatDoorCpuIn
import Derived.Test.YtifajfjiloajfaaGreatDoorMWhere
import Derived.BigQuiet
import Derived.StillTailTactics
namespace Go.Proofs.YtifajfjiloajfaaGreatDoor.OwnCon
open Go.RowKit Go.Proofs.YtifajfjiloajfaaGreatDoor.Own Go.Proofs.YtifajfjiloajfaaGreatDoor.OwnChip Go.Proofs.YtifajfjiloajfaaGreatDoor.OwnCpu

/-- The blocks that bear a tag. -/
def Own (τ : Nat → Nat) (w : World) (i : Nat) : Nat → Prop := fun b => b < w.heap.size ∧ τ b = i
/-- New blocks get a tag. -/
def retag (τ : Nat → Nat) (a i : Nat) : Nat → Nat := fun b => if b < a then τ b else i
section
variable {τ : Nat → Nat} {w w' : World} {i j : Nat}
theorem retag_old {a b : Nat} (h : b < a) : retag τ a i b = τ b := if_pos h
theorem Own.keep (_hij : j ≠ i) (hs : w.heap.size ≤ w'.heap.size) : ∀ b, Own τ w j b → Own (retag τ w.heap.size i) w' j b := fun _ h => ⟨Nat.lt_of_lt_of_le h.1 hs, (retag_old h.1).trans h.2⟩
theorem Own.new (hs : w.heap.size ≤ w'.heap.size) : ∀ b, (Own τ w i b ∨ (w.heap.size ≤ b ∧ b < w'.heap.size)) → Own (retag τ w.heap.size i) w' i b := by
  rintro b (h | h)
  · exact ⟨Nat.lt_of_lt_of_le h.1 hs, (retag_old h.1).trans h.2⟩
  · exact ⟨h.2, if_neg (by omega)⟩
theorem Own.apart (hij : j ≠ i) : ∀ b, Own τ w j b → ¬ Own τ w i b := fun _ h k => hij (h.2.symm.trans k.2)
theorem Own.one {b : Nat} (_hb : b < w.heap.size) (h : τ b = j) (hij : j ≠ i) : ¬ Own τ w i b := fun k => hij (h.symm.trans k.2)
end
/-- What is old keeps its tag; what is written bears one up to six. -/
def Goes (τ : Nat → Nat) (w : World) (τ' : Nat → Nat) (w' : World) : Prop := (∀ b, b < w.heap.size → τ' b = τ b) ∧ Kept (fun b => τ b ≤ 6) w w'
section
variable {τ τ1 τ2 : Nat → Nat} {w w1 w2 : World} {i : Nat}
theorem Goes.refl (τ : Nat → Nat) (w : World) : Goes τ w τ w := ⟨fun _ _ => rfl, Kept.refl _ _⟩
theorem Goes.trans (h : Goes τ w τ1 w1) (k : Goes τ1 w1 τ2 w2) : Goes τ w τ2 w2 := by
  refine ⟨fun b hb => (k.1 b (Nat.lt_of_lt_of_le hb h.2.size)).trans (h.1 b hb), h.2.trans (k.2.mono ?_)⟩
  intro b hb ht
  by_cases hl : b < w.heap.size
  · exact Or.inl (by rw [← h.1 b hl]; exact ht)
  · exact Or.inr (by omega)
theorem Goes.of (k : Kept (Own τ w i) w w1) (hi : i ≤ 6) : Goes τ w (retag τ w.heap.size i) w1 := ⟨fun _ hb => retag_old hb, k.mono fun b _ h => by rw [h.2]; exact hi⟩
theorem Goes.below (k : Below w.heap.size w w1) : Goes τ w (retag τ w.heap.size i) w1 := ⟨fun _ hb => retag_old hb, Kept.below k⟩
end
abbrev optp (o : Option Nat) : Value := .pointer (o.map fun x => ⟨x, 0, none⟩)
/-- What a console is: where its parts lie; its game. -/
structure KC where
  g : Nat
  cpu : Nat
  tm : Nat
  pd : Nat
  rb : Nat
  wi : Option Nat
  fl : Option Nat
  sr : Option Nat
  e : Int
  f : Nat
  s : Nat
  nb : Nat
  rcap : Nat
  zs : List Int
  br : Int
  bf : Int
structure KC.Ok (K : KC) : Prop where
  e0 : 0 ≤ K.e
  e1 : K.e ≤ 3
  f1 : K.f ≤ 2
  s1 : K.s ≤ 2
  n0 : 1 ≤ K.nb
  n1 : K.nb ≤ 2
  br : By K.br
  bf : By K.bf
  zl : K.zs.length = K.nb * 256
  zb : ∀ x ∈ K.zs, By x
  f0 : K.f ≠ 0 → ∃ x, K.fl = some x
  s0 : K.s ≠ 0 → ∃ x, K.sr = some x
/-- A cell of its block. -/
def okc (K : KC) (i : Nat) (v : Value) : Prop := (i = 0 → v = .int .i64 8) ∧ (i = 1 → v = .int .i64 K.nb) ∧ (i = 2 → v = .int .i64 K.e) ∧ (i = 3 → v = .int .i64 K.f) ∧ (i = 4 → v = .int .i64 K.s) ∧ (i = 5 → v = .slice (some ⟨K.rb, 0, none⟩) (K.nb * 256) K.rcap) ∧ (i = 6 → v = ptr K.cpu) ∧
  (7 ≤ i → i < 2055 → ∃ x, By x ∧ v = .int .u8 x) ∧ (i = 2055 → v = ptr K.tm) ∧ (i = 2056 → v = ptr K.pd) ∧ (i = 2057 → v = .int .u8 K.br) ∧ (i = 2058 → v = .int .u8 K.bf) ∧ (2059 ≤ i → i < 2063 → ∃ b, v = .bool b) ∧ (i = 2063 → v = optp K.wi) ∧ (i = 2064 → v = optp K.fl) ∧ (i = 2065 → v = optp K.sr)
abbrev Cb (K : KC) (w : World) : Prop := Sh 83 2068 (okc K) w K.g
section
variable {K : KC} {w : World}
theorem Cb.at (h : Cb K w) (i : Nat) (hi : i < 2068) (v : Value) (hv : ∀ u, okc K i u → u = v) : w.cell? ⟨K.g, i, none⟩ = some v := by
  obtain ⟨u, hu, hk⟩ := Sh.cell h i hi
  rw [hu, hv u hk]
theorem Cb.c0 (h : Cb K w) : w.cell? ⟨K.g, 0, none⟩ = some (.int .i64 8) := h.at 0 (by decide) _ fun _ k => k.1 rfl
theorem Cb.c1 (h : Cb K w) : w.cell? ⟨K.g, 1, none⟩ = some (.int .i64 K.nb) := h.at 1 (by decide) _ fun _ k => k.2.1 rfl
theorem Cb.c2 (h : Cb K w) : w.cell? ⟨K.g, 2, none⟩ = some (.int .i64 K.e) := h.at 2 (by decide) _ fun _ k => k.2.2.1 rfl
theorem Cb.c3 (h : Cb K w) : w.cell? ⟨K.g, 3, none⟩ = some (.int .i64 K.f) := h.at 3 (by decide) _ fun _ k => k.2.2.2.1 rfl
theorem Cb.c4 (h : Cb K w) : w.cell? ⟨K.g, 4, none⟩ = some (.int .i64 K.s) := h.at 4 (by decide) _ fun _ k => k.2.2.2.2.1 rfl
theorem Cb.c5 (h : Cb K w) : w.cell? ⟨K.g, 5, none⟩ = some (.slice (some ⟨K.rb, 0, none⟩) (K.nb * 256) K.rcap) := h.at 5 (by decide) _ fun _ k => k.2.2.2.2.2.1 rfl
theorem Cb.c6 (h : Cb K w) : w.cell? ⟨K.g, 6, none⟩ = some (ptr K.cpu) := h.at 6 (by decide) _ fun _ k => k.2.2.2.2.2.2.1 rfl
theorem Cb.ram (h : Cb K w) (a : Nat) (ha : a < 2048) : ∃ x, By x ∧ w.cell? ⟨K.g, 7 + a, none⟩ = some (.int .u8 x) := by
  obtain ⟨u, hu, hk⟩ := Sh.cell h (7 + a) (by omega)
  obtain ⟨x, hx, rfl⟩ := hk.2.2.2.2.2.2.2.1 (by omega) (by omega)
  exact ⟨x, hx, hu⟩
theorem Cb.tm (h : Cb K w) : w.cell? ⟨K.g, 2055, none⟩ = some (ptr K.tm) := h.at 2055 (by decide) _ fun _ k => k.2.2.2.2.2.2.2.2.1 rfl
theorem Cb.pd (h : Cb K w) : w.cell? ⟨K.g, 2056, none⟩ = some (ptr K.pd) := h.at 2056 (by decide) _ fun _ k => k.2.2.2.2.2.2.2.2.2.1 rfl
theorem Cb.br (h : Cb K w) : w.cell? ⟨K.g, 2057, none⟩ = some (.int .u8 K.br) := h.at 2057 (by decide) _ fun _ k => k.2.2.2.2.2.2.2.2.2.2.1 rfl
theorem Cb.bf (h : Cb K w) : w.cell? ⟨K.g, 2058, none⟩ = some (.int .u8 K.bf) := h.at 2058 (by decide) _ fun _ k => k.2.2.2.2.2.2.2.2.2.2.2.1 rfl
theorem Cb.bit (h : Cb K w) (i : Nat) (h0 : 2059 ≤ i) (h1 : i < 2063) : ∃ b, w.cell? ⟨K.g, i, none⟩ = some (.bool b) := by
  obtain ⟨u, hu, hk⟩ := Sh.cell h i (by omega)
  obtain ⟨b, rfl⟩ := hk.2.2.2.2.2.2.2.2.2.2.2.2.1 h0 h1
  exact ⟨b, hu⟩
theorem Cb.wi (h : Cb K w) : w.cell? ⟨K.g, 2063, none⟩ = some (optp K.wi) := h.at 2063 (by decide) _ fun _ k => k.2.2.2.2.2.2.2.2.2.2.2.2.2.1 rfl
theorem Cb.fl (h : Cb K w) : w.cell? ⟨K.g, 2064, none⟩ = some (optp K.fl) := h.at 2064 (by decide) _ fun _ k => k.2.2.2.2.2.2.2.2.2.2.2.2.2.2.1 rfl
theorem Cb.sr (h : Cb K w) : w.cell? ⟨K.g, 2065, none⟩ = some (optp K.sr) := h.at 2065 (by decide) _ fun _ k => k.2.2.2.2.2.2.2.2.2.2.2.2.2.2.2 rfl
theorem Cb.setBit (h : Cb K w) (i : Nat) (h0 : 2059 ≤ i) (h1 : i < 2063) (b : Bool) : Cb K (w.setCell ⟨K.g, i, none⟩ (.bool b)) := by
  refine Sh.set h i _ ?_
  refine ⟨?_, ?_, ?_, ?_, ?_, ?_, ?_, ?_, ?_, ?_, ?_, ?_, fun _ _ => ⟨b, rfl⟩, ?_, ?_, ?_⟩ <;> intro e <;> omega
theorem Cb.setRam (h : Cb K w) (a : Nat) (ha : a < 2048) (x : Int) (hx : By x) : Cb K (w.setCell ⟨K.g, 7 + a, none⟩ (.int .u8 x)) := by
  refine Sh.set h (7 + a) _ ?_
  refine ⟨?_, ?_, ?_, ?_, ?_, ?_, ?_, fun _ _ => ⟨x, hx, rfl⟩, ?_, ?_, ?_, ?_, ?_, ?_, ?_, ?_⟩ <;> intro e <;> omega
/-- A cell is turned, and what is asked of it too. -/
theorem Sh.turn {t n : Nat} {ok ok' : Nat → Value → Prop} {w : World} {g : Nat} (h : Sh t n ok w g) (i : Nat) (u : Value) (hu : ok' i u) (hk : ∀ j v, j ≠ i → ok j v → ok' j v) : Sh t n ok' (w.setCell ⟨g, i, none⟩ u) g := by
  obtain ⟨cs, hb, hn, hc⟩ := h
  refine ⟨_, hb.set_ i u, by simpa using hn, ?_⟩
  intro j v hv
  rw [Array.getElem?_setIfInBounds] at hv
  split at hv
  · rename_i e
    subst e
    split at hv
    · simp at hv
      subst hv
      exact hu
    · simp at hv
  · rename_i e
    exact hk j v (fun e2 => e e2.symm) (hc j v hv)
theorem Cb.setBr (h : Cb K w) (x : Int) : Cb { K with br := x } (w.setCell ⟨K.g, 2057, none⟩ (.int .u8 x)) := by
  refine Sh.turn h 2057 _ ?_ ?_
  · refine ⟨?_, ?_, ?_, ?_, ?_, ?_, ?_, ?_, ?_, ?_, fun _ => rfl, ?_, ?_, ?_, ?_, ?_⟩ <;> intro e <;> omega
  · rintro j v hj ⟨h0, h1, h2, h3, h4, h5, h6, h7, h8, h9, h10, h11, h12, h13, h14, h15⟩
    exact ⟨h0, h1, h2, h3, h4, h5, h6, h7, h8, h9, fun e => absurd e hj, h11, h12, h13, h14, h15⟩
theorem Cb.setBf (h : Cb K w) (x : Int) : Cb { K with bf := x } (w.setCell ⟨K.g, 2058, none⟩ (.int .u8 x)) := by
  refine Sh.turn h 2058 _ ?_ ?_
  · refine ⟨?_, ?_, ?_, ?_, ?_, ?_, ?_, ?_, ?_, ?_, ?_, fun _ => rfl, ?_, ?_, ?_, ?_⟩ <;> intro e <;> omega
  · rintro j v hj ⟨h0, h1, h2, h3, h4, h5, h6, h7, h8, h9, h10, h11, h12, h13, h14, h15⟩
    exact ⟨h0, h1, h2, h3, h4, h5, h6, h7, h8, h9, h10, fun e => absurd e hj, h12, h13, h14, h15⟩
end
/-- A list of bytes at a block's head. -/
def Rm (zs : List Int) (w : World) (b : Nat) : Prop := b < w.heap.size ∧ ∀ j, j < zs.length → w.cell? ⟨b, j, none⟩ = some (.int .u8 (zs.getD j 0))
theorem Rm.kept {zs : List Int} {T : Nat → Prop} {w w' : World} {b : Nat} (k : Kept T w w') (hb : ¬ T b) (h : Rm zs w b) : Rm zs w' b :=
  ⟨Nat.lt_of_lt_of_le h.1 k.size, fun j hj => (cell_of (k.block b h.1 hb)).trans (h.2 j hj)⟩
/-- The console at work. -/
structure Con (τ : Nat → Nat) (w : World) (K : KC) (c : C) (pl : List (Nat × Nat)) (q : Bool) : Prop where
  ok : K.Ok
  own : Cb K w
  t0 : τ K.g = 0
  cpu : CpuIn (Own τ w 1) w K.cpu c pl
  tm : TimQ q w K.tm
  t2 : τ K.tm = 2
  pd : Pad w K.pd
  t3 : τ K.pd = 3
  ee : ∀ x, K.wi = some x → ∃ n, Kd K.e n ∧ Ee (Own τ w 4) K.e n w x
  fl : ∀ x, K.fl = some x → Fl (Own τ w 5) (K.f * 256) w x
  sr : ∀ x, K.sr = some x → Sr (Own τ w 6) (K.s * 64) w x
  rom : Rm K.zs w K.rb
  t7 : τ K.rb = 7
  geo : OwnGeo.GeoAt w
  t9 : τ 0 = 9
  mx : ∃ m, w.cell? ⟨1, 0, none⟩ = some (.int .i64 m)
  t1 : τ 1 = 9
  tc : τ K.cpu = 1
/-- What comes of a call on one part (i). -/
theorem Con.go {τ : Nat → Nat} {w w' : World} {K K' : KC} {c c' : C} {pl pl' : List (Nat × Nat)} {q q' : Bool} (h : Con τ w K c pl q) (i : Nat) (h7 : i ≠ 7) (h9 : i ≠ 9) (k : Kept (Own τ w i) w w')
    (hK : ∃ x y, By x ∧ By y ∧ K' = { K with br := x, bf := y }) (e0 : i ≠ 0 → K' = K) (e1 : i ≠ 1 → c' = c ∧ pl' = pl) (e2 : i ≠ 2 → q' = q)
    (n0 : i = 0 → Cb K' w') (n1 : i = 1 → CpuIn (Own (retag τ w.heap.size i) w' 1) w' K.cpu c' pl') (n2 : i = 2 → TimQ q' w' K.tm) (n3 : i = 3 → Pad w' K.pd)
    (n4 : i = 4 → ∀ x, K.wi = some x → ∃ n, Kd K.e n ∧ Ee (Own (retag τ w.heap.size i) w' 4) K.e n w' x) (n5 : i = 5 → ∀ x, K.fl = some x → Fl (Own (retag τ w.heap.size i) w' 5) (K.f * 256) w' x) (n6 : i = 6 → ∀ x, K.sr = some x → Sr (Own (retag τ w.heap.size i) w' 6) (K.s * 64) w' x) :
    Con (retag τ w.heap.size i) w' K' c' pl' q' := by
  obtain ⟨x, y, hx, hy, rfl⟩ := hK
  have hs := k.size
  have hr : ∀ b j, b < w.heap.size → τ b = j → retag τ w.heap.size i b = j := fun b j hb e => (retag_old hb).trans e
  have hgl := Sh.lt h.own
  obtain ⟨m, hm⟩ := h.mx
  have h1l := cell_lt hm
  have h0l : 0 < w.heap.size := by omega
  have hcl : K.cpu < w.heap.size := by
    obtain ⟨v, hv, -⟩ := h.cpu
    exact hv.lt
  refine ⟨⟨h.ok.e0, h.ok.e1, h.ok.f1, h.ok.s1, h.ok.n0, h.ok.n1, hx, hy, h.ok.zl, h.ok.zb, h.ok.f0, h.ok.s0⟩, ?_, hr _ _ hgl h.t0, ?_, ?_, hr _ _ h.tm.lt h.t2, ?_, hr _ _ (Sh.lt h.pd) h.t3, ?_, ?_, ?_, ?_, hr _ _ h.rom.1 h.t7, ?_, hr _ _ h0l h.t9, ⟨m, ?_⟩, hr _ _ h1l h.t1, hr _ _ hcl h.tc⟩
  · by_cases hi : i = 0
    · exact n0 hi
    · have e := e0 hi
      rw [e]
      exact Sh.kept k (Own.one hgl h.t0 (fun e => hi e.symm)) h.own
  · by_cases hi : i = 1
    · exact n1 hi
    · obtain ⟨rfl, rfl⟩ := e1 hi
      exact (h.cpu.kept k (Own.apart (fun e => hi e.symm))).mono fun b _ hb => Own.keep (fun e => hi e.symm) hs b hb
  · by_cases hi : i = 2
    · exact n2 hi
    · rw [e2 hi]
      exact h.tm.kept k (Own.one h.tm.lt h.t2 (fun e => hi e.symm))
  · by_cases hi : i = 3
    · exact n3 hi
    · exact Sh.kept k (Own.one (Sh.lt h.pd) h.t3 (fun e => hi e.symm)) h.pd
  · by_cases hi : i = 4
    · exact n4 hi
    · intro x hx
      obtain ⟨n, kd, he⟩ := h.ee x hx
      exact ⟨n, kd, (he.kept k (Own.apart (fun e => hi e.symm))).mono (Own.keep (fun e => hi e.symm) hs)⟩
  · by_cases hi : i = 5
    · exact n5 hi
    · intro x hx
      exact (fl_out k (Own.apart (fun e => hi e.symm)) (h.fl x hx)).mono (Own.keep (fun e => hi e.symm) hs)
  · by_cases hi : i = 6
    · exact n6 hi
    · intro x hx
      exact ((h.sr x hx).kept k (Own.apart (fun e => hi e.symm))).mono (Own.keep (fun e => hi e.symm) hs)
  · exact h.rom.kept k (Own.one h.rom.1 h.t7 (fun e => h7 e.symm))
  · exact h.geo.kept k (Own.one h0l h.t9 (fun e => h9 e.symm))
  · exact (cell_of (k.block 1 h1l (Own.one h1l h.t1 (fun e => h9 e.symm)))).trans hm
end Go.Proofs.YtifajfjiloajfaaGreatDoor.OwnCon
namespace Go.Proofs.YtifajfjiloajfaaGreatDoor.OwnCon
open Go.RowKit Go.Proofs.YtifajfjiloajfaaGreatDoor.Own Go.Proofs.YtifajfjiloajfaaGreatDoor.OwnChip Go.Proofs.YtifajfjiloajfaaGreatDoor.OwnCpu

/-- The console behind a call. -/
def CR (τ : Nat → Nat) (w : World) (K : KC) (c : C) (pl : List (Nat × Nat)) (q : Bool) (w' : World) : Prop := ∃ τ', Con τ' w' K c pl q ∧ Goes τ w τ' w'
section
variable {τ τ1 : Nat → Nat} {w w1 w2 : World} {K : KC} {c c' : C} {pl pl' : List (Nat × Nat)} {q q' : Bool}
theorem CR.refl (h : Con τ w K c pl q) : CR τ w K c pl q w := ⟨τ, h, Goes.refl _ _⟩
theorem CR.after (h : Goes τ w τ1 w1) (k : CR τ1 w1 K c pl q w2) : CR τ w K c pl q w2 := by
  obtain ⟨τ', h1, h2⟩ := k
  exact ⟨τ', h1, h.trans h2⟩
theorem same_banks (h : Con τ w K c pl q) : ∃ x y, By x ∧ By y ∧ K = { K with br := x, bf := y } := ⟨K.br, K.bf, h.ok.br, h.ok.bf, rfl⟩
theorem one_own {g i : Nat} (hg : g < w.heap.size) (ht : τ g = i) (k : Kept (· = g) w w1) : Kept (Own τ w i) w w1 := k.mono (by rintro b hb rfl; exact ⟨hg, ht⟩)
theorem cr_own (h : Con τ w K c pl q) {x y : Int} (hx : By x) (hy : By y) (k : Kept (· = K.g) w w1) (hc : Cb { K with br := x, bf := y } w1) : CR τ w { K with br := x, bf := y } c pl q w1 := by
  have k2 := one_own (Sh.lt h.own) h.t0 k
  exact ⟨_, h.go 0 (by decide) (by decide) k2 ⟨x, y, hx, hy, rfl⟩ (fun e => absurd rfl e) (fun _ => ⟨rfl, rfl⟩) (fun _ => rfl) (fun _ => hc) (by simp) (by simp) (by simp) (by simp) (by simp) (by simp), Goes.of k2 (by decide)⟩
theorem cr_same (h : Con τ w K c pl q) (k : Kept (· = K.g) w w1) (hc : Cb K w1) : CR τ w K c pl q w1 := cr_own (x := K.br) (y := K.bf) h h.ok.br h.ok.bf k hc
theorem cr_cpu (h : Con τ w K c pl q) (k : Kept (Own τ w 1) w w1) (hn : CpuIn (fun b => Own τ w 1 b ∨ w.heap.size ≤ b) w1 K.cpu c' pl') : CR τ w K c' pl' q w1 := by
  refine ⟨_, h.go 1 (by decide) (by decide) k (same_banks h) (fun _ => rfl) (fun e => absurd rfl e) (fun _ => rfl) (by simp) (fun _ => ?_) (by simp) (by simp) (by simp) (by simp) (by simp), Goes.of k (by decide)⟩
  exact hn.mono fun b hb hj => Own.new k.size b (hj.imp id fun h => ⟨h, hb⟩)
theorem cr_tm (h : Con τ w K c pl q) (k : Kept (· = K.tm) w w1) (hn : TimQ q' w1 K.tm) : CR τ w K c pl q' w1 := by
  have k2 := one_own h.tm.lt h.t2 k
  exact ⟨_, h.go 2 (by decide) (by decide) k2 (same_banks h) (fun _ => rfl) (fun _ => ⟨rfl, rfl⟩) (fun e => absurd rfl e) (by simp) (by simp) (fun _ => hn) (by simp) (by simp) (by simp) (by simp), Goes.of k2 (by decide)⟩
theorem cr_pd (h : Con τ w K c pl q) (k : Kept (· = K.pd) w w1) (hn : Pad w1 K.pd) : CR τ w K c pl q w1 := by
  have k2 := one_own (Sh.lt h.pd) h.t3 k
  exact ⟨_, h.go 3 (by decide) (by decide) k2 (same_banks h) (fun _ => rfl) (fun _ => ⟨rfl, rfl⟩) (fun _ => rfl) (by simp) (by simp) (by simp) (fun _ => hn) (by simp) (by simp) (by simp), Goes.of k2 (by decide)⟩
theorem cr_ee {x n : Nat} (h : Con τ w K c pl q) (hx : K.wi = some x) (kd : Kd K.e n) (hn : EeQ (Own τ w 4) K.e n w w1 x) : CR τ w K c pl q w1 := by
  obtain ⟨he, k⟩ := hn
  refine ⟨_, h.go 4 (by decide) (by decide) k (same_banks h) (fun _ => rfl) (fun _ => ⟨rfl, rfl⟩) (fun _ => rfl) (by simp) (by simp) (by simp) (by simp) (fun _ x' hx' => ?_) (by simp) (by simp), Goes.of k (by decide)⟩
  have e : x' = x := by simpa using hx'.symm.trans hx
  rw [e]
  exact ⟨n, kd, he.mono fun b hj => Own.new k.size b hj⟩
theorem cr_fl {x : Nat} (h : Con τ w K c pl q) (hx : K.fl = some x) (hn : FlR (Own τ w 5) (K.f * 256) w w1 x) : CR τ w K c pl q w1 := by
  obtain ⟨he, k⟩ := hn
  refine ⟨_, h.go 5 (by decide) (by decide) k (same_banks h) (fun _ => rfl) (fun _ => ⟨rfl, rfl⟩) (fun _ => rfl) (by simp) (by simp) (by simp) (by simp) (by simp) (fun _ x' hx' => ?_) (by simp), Goes.of k (by decide)⟩
  have e : x' = x := by simpa using hx'.symm.trans hx
  rw [e]
  exact he.mono fun b hj => Own.new k.size b hj
theorem cr_sr {x : Nat} (h : Con τ w K c pl q) (hx : K.sr = some x) (he : Sr (Own τ w 6) (K.s * 64) w1 x) (k : Kept (Own τ w 6) w w1) : CR τ w K c pl q w1 := by
  refine ⟨_, h.go 6 (by decide) (by decide) k (same_banks h) (fun _ => rfl) (fun _ => ⟨rfl, rfl⟩) (fun _ => rfl) (by simp) (by simp) (by simp) (by simp) (by simp) (by simp) (fun _ x' hx' => ?_), Goes.of k (by decide)⟩
  have e : x' = x := by simpa using hx'.symm.trans hx
  rw [e]
  exact he.mono fun b hj => Own.new k.size b (Or.inl hj)
theorem cr_below (h : Con τ w K c pl q) (k : Below w.heap.size w w1) : CR τ w K c pl q w1 :=
  ⟨_, h.go 10 (by decide) (by decide) (Kept.below k) (same_banks h) (fun _ => rfl) (fun _ => ⟨rfl, rfl⟩) (fun _ => rfl) (by simp) (by simp) (by simp) (by simp) (by simp) (by simp) (by simp), Goes.below k⟩
theorem cr_still (h : Con τ w K c pl q) (e : w1.heap = w.heap) (os : w1.os = w.os) (tape : w1.tape = w.tape) (output : w1.output = w.output) : CR τ w K c pl q w1 :=
  cr_below h ⟨os, tape, output, by rw [e]; exact Nat.le_refl _, fun b _ => by rw [e]⟩
end
theorem bit_any (b : Bool) (k : Nat) (hk : k ≤ 1) (w : World) : ∃ x, By x ∧ Calls Tryz.prog 88 #[.bool b, .int .i64 (k : Int)] w fun e w' => e = .returned (.int .u8 x) ∧ w' = w := by
  rcases (by omega : k = 0 ∨ k = 1) with rfl | rfl <;> cases b
  · refine ⟨0, by_0, ?_⟩
    go_enter Tryz.func88, Tryz.ntmps88
    go_wp2
    go_ret
    exact ⟨rfl, rfl⟩
  · refine ⟨1, ⟨by decide, by decide⟩, ?_⟩
    go_enter Tryz.func88, Tryz.ntmps88
    go_wp2
    go_ret
    exact ⟨rfl, rfl⟩
  · refine ⟨0, by_0, ?_⟩
    go_enter Tryz.func88, Tryz.ntmps88
    go_wp2
    go_ret
    exact ⟨rfl, rfl⟩
  · refine ⟨2, ⟨by decide, by decide⟩, ?_⟩
    go_enter Tryz.func88, Tryz.ntmps88
    go_wp2
    go_ret
    exact ⟨rfl, rfl⟩
end Go.Proofs.YtifajfjiloajfaaGreatDoor.OwnCon
namespace Go.Proofs.YtifajfjiloajfaaGreatDoor.OwnCon
open Go.RowKit Go.Proofs.YtifajfjiloajfaaGreatDoor.Own Go.Proofs.YtifajfjiloajfaaGreatDoor.OwnChip Go.Proofs.YtifajfjiloajfaaGreatDoor.OwnCpu
theorem bit_0 (b : Bool) : ∃ x, By x ∧ ∀ w, Calls Tryz.prog 88 #[.bool b, .int .i64 0] w fun e w' => e = .returned (.int .u8 x) ∧ w' = w := by
  cases b
  · refine ⟨0, by_0, fun w => ?_⟩
    go_enter Tryz.func88, Tryz.ntmps88
    go_wp2
    go_ret
    exact ⟨rfl, rfl⟩
  · refine ⟨1, ⟨by decide, by decide⟩, fun w => ?_⟩
    go_enter Tryz.func88, Tryz.ntmps88
    go_wp2
    go_ret
    exact ⟨rfl, rfl⟩
theorem bit_1 (b : Bool) : ∃ x, By x ∧ ∀ w, Calls Tryz.prog 88 #[.bool b, .int .i64 1] w fun e w' => e = .returned (.int .u8 x) ∧ w' = w := by
  cases b
  · refine ⟨0, by_0, fun w => ?_⟩
    go_enter Tryz.func88, Tryz.ntmps88
    go_wp2
    go_ret
    exact ⟨rfl, rfl⟩
  · refine ⟨2, ⟨by decide, by decide⟩, fun w => ?_⟩
    go_enter Tryz.func88, Tryz.ntmps88
    go_wp2
    go_ret
    exact ⟨rfl, rfl⟩
section
variable {τ : Nat → Nat} {w : World} {K : KC} {c : C} {pl : List (Nat × Nat)} {q : Bool}
set_option maxHeartbeats 3200000 in
theorem con_told (r : Int) (h : Con τ w K c pl q) :
    Calls Tryz.prog 65 #[.pointer (some ⟨K.g, 0, none⟩), .int .i64 r] w fun e w' => (∃ x, By x ∧ e = .returned (.int .u8 x)) ∧ CR τ w K c pl q w' := by
  have HC := Lib.hid h
  have hbr := h.ok.br
  have hbf := h.ok.bf
  by_cases r3 : r = 3
  · subst r3
    have cp := h.own.pd
    have HP := Lib.hid (pad_read K.pd w h.pd)
    clear h
    go_enter Tryz.func65, Tryz.ntmps65
    go_wp2_with (go_at_call 87; refine HP.out.mono ?_; rintro e w1 ⟨⟨x, hx, rfl⟩, q1, q2⟩; have Q := Lib.hid (cr_pd HC.out q2 q1); clear q1 q2)
    go_ret
    exact ⟨⟨x, hx, rfl⟩, Q.out⟩
  by_cases r4 : r = 4
  · subst r4
    obtain ⟨b0, cb0⟩ := h.own.bit 2059 (by decide) (by decide)
    obtain ⟨b1, cb1⟩ := h.own.bit 2062 (by decide) (by decide)
    obtain ⟨x0, hx0, B0⟩ := bit_0 b0
    obtain ⟨x1, hx1, B1⟩ := bit_1 b1
    have H0 := Lib.hid B0
    have H1 := Lib.hid B1
    clear h B0 B1
    go_enter Tryz.func65, Tryz.ntmps65
    go_wp2_with fail
    go_quiet (first | (go_at_call 88; with_reducible exact Calls.quiet_of_same (H0.out _)) | (go_at_call 88; with_reducible exact Calls.quiet_of_same (H1.out _)))
    go_wp2
    go_ret
    exact ⟨⟨_, by_bits _ _ _, rfl⟩, cr_still HC.out rfl rfl rfl rfl⟩
  by_cases r5 : r = 5
  · subst r5
    have cb := h.own.br
    clear h
    go_enter Tryz.func65, Tryz.ntmps65
    go_wp2
    go_ret
    exact ⟨⟨_, hbr, rfl⟩, CR.refl HC.out⟩
  by_cases r6 : r = 6
  · subst r6
    obtain ⟨x0, hx0, B0⟩ := bit_0 false
    have cs := h.own.sr
    have H0 := Lib.hid B0
    rcases hs : K.sr with _ | x
    · rw [hs] at cs
      have cs' : w.cell? ⟨K.g, 2065, none⟩ = some (.pointer none) := cs
      clear h B0 cs hs
      go_enter Tryz.func65, Tryz.ntmps65
      go_wp2_with (go_at_call 88; with_reducible refine (H0.out _).mono ?_; rintro e w1 ⟨rfl, rfl⟩)
      go_ret
      exact ⟨⟨_, hx0, rfl⟩, CR.refl HC.out⟩
    · rw [hs] at cs
      have cs' : w.cell? ⟨K.g, 2065, none⟩ = some (ptr x) := cs
      have HL := Lib.hid (sr_locked (Own τ w 6) (K.s * 64) x w (h.sr x hs))
      have H2 := Lib.hid (fun b => bit_0 b)
      clear h B0 cs hs
      go_enter Tryz.func65, Tryz.ntmps65
      go_wp2_with (first
        | (go_at_call 83; refine HL.out.mono ?_; rintro e w1 ⟨⟨b, rfl⟩, rfl⟩; obtain ⟨x2, hx2, B2⟩ := H2.out b; have H3 := Lib.hid B2; clear B2)
        | (go_at_call 88; with_reducible refine (H3.out _).mono ?_; rintro e w1 ⟨rfl, rfl⟩))
      go_ret
      exact ⟨⟨_, hx2, rfl⟩, CR.refl HC.out⟩
  by_cases r7 : r = 7
  · subst r7
    have cb := h.own.bf
    clear h
    go_enter Tryz.func65, Tryz.ntmps65
    go_wp2
    go_ret
    exact ⟨⟨_, hbf, rfl⟩, CR.refl HC.out⟩
  by_cases r8 : r = 8
  · subst r8
    obtain ⟨b0, cb0⟩ := h.own.bit 2061 (by decide) (by decide)
    obtain ⟨x0, hx0, B0⟩ := bit_0 b0
    have H0 := Lib.hid B0
    clear h B0
    go_enter Tryz.func65, Tryz.ntmps65
    go_wp2_with (go_at_call 88; with_reducible refine (H0.out _).mono ?_; rintro e w1 ⟨rfl, rfl⟩)
    go_ret
    exact ⟨⟨_, hx0, rfl⟩, CR.refl HC.out⟩
  · have s3 : (r == 3) = false := by simpa using r3
    have s4 : (r == 4) = false := by simpa using r4
    have s5 : (r == 5) = false := by simpa using r5
    have s6 : (r == 6) = false := by simpa using r6
    have s7 : (r == 7) = false := by simpa using r7
    have s8 : (r == 8) = false := by simpa using r8
    have ct := h.own.tm
    have HT := Lib.hid (tq_read q K.tm r w h.tm)
    clear h r3 r4 r5 r6 r7 r8
    go_enter Tryz.func65, Tryz.ntmps65
    go_wp2_with (go_at_call 89; refine HT.out.mono ?_; rintro e w1 ⟨⟨x, hx, rfl⟩, q1, q2⟩; have Q := Lib.hid (cr_tm (q' := q) HC.out q2 q1); clear q1 q2)
    go_ret
    exact ⟨⟨x, hx, rfl⟩, Q.out⟩
end
end Go.Proofs.YtifajfjiloajfaaGreatDoor.OwnCon
namespace Go.Proofs.YtifajfjiloajfaaGreatDoor.OwnCon
open Go.RowKit Go.Proofs.YtifajfjiloajfaaGreatDoor.Own Go.Proofs.YtifajfjiloajfaaGreatDoor.OwnChip Go.Proofs.YtifajfjiloajfaaGreatDoor.OwnCpu
/-- Which banks there are then; whether the timer never asks. -/
def tellK (K : KC) (r v : Int) : KC := { K with br := if r = 5 then v else K.br, bf := if r = 7 then v else K.bf }
def tellQ (q : Bool) (r v : Int) : Bool := q && !(r == 2 && Go.bits .and .u8 v 2 == 2)
section
variable {τ : Nat → Nat} {w w1 : World} {K : KC} {c : C} {pl : List (Nat × Nat)} {q : Bool}
theorem tell_same {r v : Int} (h5 : r ≠ 5) (h7 : r ≠ 7) (h2 : r ≠ 2) (h : CR τ w K c pl q w1) : CR τ w (tellK K r v) c pl (tellQ q r v) w1 := by
  have e1 : tellK K r v = K := by simp [tellK, h5, h7]
  have e2 : tellQ q r v = q := by simp [tellQ, h2]
  rw [e1, e2]
  exact h
theorem own_set (i : Nat) (u : Value) : Kept (· = K.g) w (w.setCell ⟨K.g, i, none⟩ u) := Kept.set (S := (· = K.g)) K.g i u rfl
set_option maxHeartbeats 3200000 in
theorem con_tell (r v : Int) (hv : By v) (h : Con τ w K c pl q) :
    Calls Tryz.prog 62 #[.pointer (some ⟨K.g, 0, none⟩), .int .i64 r, .int .u8 v] w fun e w' => e = .returned (.tuple #[]) ∧ CR τ w (tellK K r v) c pl (tellQ q r v) w' := by
  have HC := Lib.hid h
  by_cases r3 : r = 3
  · subst r3
    have cp := h.own.pd
    have HP := Lib.hid (pad_write K.pd v w h.pd)
    clear h
    go_enter Tryz.func62, Tryz.ntmps62
    go_wp2_with (go_at_call 80; refine HP.out.mono ?_; rintro e w1 ⟨rfl, q1, q2⟩; have Q := Lib.hid (cr_pd HC.out q2 q1); clear q1 q2)
    go_end0
    exact ⟨rfl, tell_same (by decide) (by decide) (by decide) Q.out⟩
  by_cases r4 : r = 4
  · subst r4
    obtain ⟨b0, cb0⟩ := h.own.bit 2059 (by decide) (by decide)
    obtain ⟨b1, cb1⟩ := h.own.bit 2060 (by decide) (by decide)
    have f0 := Sh.frozen h.own 2059
    have f1 := Sh.frozen h.own 2060
    clear h
    go_enter Tryz.func62, Tryz.ntmps62
    go_wp2
    go_end0
    exact ⟨rfl, tell_same (by decide) (by decide) (by decide) (cr_same HC.out (kset (S := (· = K.g)) (own_set 2059 _) rfl 2060 _) ((HC.out.own.setBit 2059 (by decide) (by decide) _).setBit 2060 (by decide) (by decide) _))⟩
  by_cases r5 : r = 5
  · subst r5
    have cb := h.own.br
    have f0 := Sh.frozen h.own 2057
    clear h
    go_enter Tryz.func62, Tryz.ntmps62
    go_wp2
    go_end0
    rw [show tellK K 5 v = { K with br := v, bf := K.bf } by simp [tellK], show tellQ q 5 v = q by simp [tellQ]]
    exact ⟨rfl, cr_own (x := v) (y := K.bf) HC.out hv HC.out.ok.bf (own_set 2057 _) (HC.out.own.setBr v)⟩
  by_cases r6 : r = 6
  · subst r6
    have cs := h.own.sr
    rcases hs : K.sr with _ | x
    · rw [hs] at cs
      have cs' : w.cell? ⟨K.g, 2065, none⟩ = some (.pointer none) := cs
      clear h cs hs
      go_enter Tryz.func62, Tryz.ntmps62
      go_wp2
      go_end0
      exact ⟨rfl, tell_same (by decide) (by decide) (by decide) (CR.refl HC.out)⟩
    · rw [hs] at cs
      have cs' : w.cell? ⟨K.g, 2065, none⟩ = some (ptr x) := cs
      have HL := Lib.hid (sr_latch (Own τ w 6) (K.s * 64) x v w (h.sr x hs))
      have HS := Lib.hid hs
      clear h cs hs
      go_enter Tryz.func62, Tryz.ntmps62
      go_wp2_with (go_at_call 81; refine HL.out.mono ?_; rintro e w1 ⟨rfl, q1, q2⟩; have Q := Lib.hid (cr_sr HC.out HS.out q1 q2); clear q1 q2)
      go_end0
      exact ⟨rfl, tell_same (by decide) (by decide) (by decide) Q.out⟩
  by_cases r7 : r = 7
  · subst r7
    have cb := h.own.bf
    have f0 := Sh.frozen h.own 2058
    clear h
    go_enter Tryz.func62, Tryz.ntmps62
    go_wp2
    go_end0
    rw [show tellK K 7 v = { K with br := K.br, bf := v } by simp [tellK], show tellQ q 7 v = q by simp [tellQ]]
    exact ⟨rfl, cr_own (x := K.br) (y := v) HC.out HC.out.ok.br hv (own_set 2058 _) (HC.out.own.setBf v)⟩
  by_cases r8 : r = 8
  · subst r8
    obtain ⟨b0, cb0⟩ := h.own.bit 2061 (by decide) (by decide)
    have f0 := Sh.frozen h.own 2061
    clear h
    go_enter Tryz.func62, Tryz.ntmps62
    go_wp2
    go_end0
    exact ⟨rfl, tell_same (by decide) (by decide) (by decide) (cr_same HC.out (own_set 2061 _) (HC.out.own.setBit 2061 (by decide) (by decide) _))⟩
  · have s3 : (r == 3) = false := by simpa using r3
    have s4 : (r == 4) = false := by simpa using r4
    have s5 : (r == 5) = false := by simpa using r5
    have s6 : (r == 6) = false := by simpa using r6
    have s7 : (r == 7) = false := by simpa using r7
    have s8 : (r == 8) = false := by simpa using r8
    have e1 := Lib.hid (show tellK K r v = K by simp [tellK, r5, r7])
    have ct := h.own.tm
    have HT := Lib.hid (tq_write q (tellQ q r v) K.tm r v w h.tm hv (by
      intro e
      simp only [tellQ, Bool.and_eq_true, Bool.not_eq_true'] at e
      refine ⟨e.1, fun e2 => ?_⟩
      have e3 := e.2
      rw [e2] at e3
      simpa using e3))
    clear h r3 r4 r5 r6 r7 r8
    go_enter Tryz.func62, Tryz.ntmps62
    go_wp2_with (go_at_call 82; refine HT.out.mono ?_; rintro e w1 ⟨rfl, q1, q2⟩; have Q := Lib.hid (cr_tm (q' := tellQ q r v) HC.out q2 q1); clear q1 q2)
    go_end0
    rw [e1.out]
    exact ⟨rfl, Q.out⟩
end
end Go.Proofs.YtifajfjiloajfaaGreatDoor.OwnCon
namespace Go.Proofs.YtifajfjiloajfaaGreatDoor.OwnCon
open Go.RowKit Go.Proofs.YtifajfjiloajfaaGreatDoor.Own Go.Proofs.YtifajfjiloajfaaGreatDoor.OwnChip Go.Proofs.YtifajfjiloajfaaGreatDoor.OwnCpu
def SpotOk (K : KC) (r : Int) (a : Nat) : Prop := r = 0 ∨ (r = 1 ∧ a < 2048) ∨ (r = 2 ∧ a < 16) ∨ (r = 3 ∧ 1 ≤ K.s ∧ a < K.s * 64) ∨ (r = 4 ∧ 1 ≤ K.f ∧ a < K.f * 256) ∨ (r = 5 ∧ a < K.nb * 256)
theorem drewK {T : Nat → Prop} {w w' : World} (k : Kept T w.drew w') : Kept T w w' := ⟨k.os, k.tape, k.output, k.size, k.block⟩
theorem flDrew {S : Nat → Prop} {n g : Nat} {w w' : World} (h : FlR S n w.drew w' g) : FlR S n w w' g := ⟨h.1, drewK h.2⟩
section
variable {τ : Nat → Nat} {w : World} {K : KC} {c : C} {pl : List (Nat × Nat)} {q : Bool}
set_option maxHeartbeats 3200000 in
set_option maxRecDepth 100000 in
theorem con_read (r : Int) (a : Nat) (h : Con τ w K c pl q) (hs : SpotOk K r a) :
    Calls Tryz.prog 39 #[.pointer (some ⟨K.g, 0, none⟩), .agg #[.int .i64 r, .int .i64 a]] w fun e w' => (∃ x, (By x ∧ (r = 5 → x = K.zs.getD a 0)) ∧ e = .returned (.int .u8 x)) ∧ CR τ w K c pl q w' := by
  obtain ⟨W, hW⟩ : ∃ W, W = w.alloc (.cells #[.int .i64 r, .int .i64 a] 51) := ⟨_, rfl⟩
  have hbel : Below w.heap.size w W := by
    rw [hW]
    exact (Below.refl _ w).alloc (Nat.le_refl _) _
  have eB : W.cell? ⟨w.heap.size, 1, none⟩ = some (.int .i64 a) := by
    rw [hW]
    exact ((Blk.new w 51 #[.int .i64 r, .int .i64 a]).cell 1).trans rfl
  have HW := Lib.hid hW
  clear hW
  obtain ⟨τ1, h1, g1⟩ := cr_below h hbel
  have H1 := Lib.hid h1
  have G1 := Lib.hid g1
  have hlt := Sh.lt h.own
  have hok := Lib.hid h.ok
  rcases hs with rfl | ⟨rfl, ha⟩ | ⟨rfl, ha⟩ | ⟨rfl, hs1, ha⟩ | ⟨rfl, hf1, ha⟩ | ⟨rfl, ha⟩
  · clear h h1 g1 hbel eB
    have hWs := HW.out
    clear HW
    subst hWs
    go_enter Tryz.func39, Tryz.ntmps39
    go_wp2
    go_ret
    exact ⟨⟨0, ⟨by_0, by simp⟩, rfl⟩, ⟨τ1, H1.out, G1.out⟩⟩
  · obtain ⟨x, hx, cx⟩ := h.own.ram a ha
    clear h h1 g1 hbel eB
    have hWs := HW.out
    clear HW
    subst hWs
    go_enter Tryz.func39, Tryz.ntmps39
    go_wp2_with fail
    go_quiet (fail)
    go_wp2
    go_ret
    exact ⟨⟨x, ⟨hx, by simp⟩, rfl⟩, CR.after G1.out (cr_still H1.out rfl rfl rfl rfl)⟩
  · have HT := Lib.hid (con_told (a : Int) h1)
    clear h h1 g1 hbel eB
    have hWs := HW.out
    clear HW
    subst hWs
    go_enter Tryz.func39, Tryz.ntmps39
    go_wp2_with (go_at_call 65; refine HT.out.mono ?_; rintro e w1 ⟨⟨x, hx, rfl⟩, q1⟩; have Q := Lib.hid q1; clear q1)
    go_ret
    exact ⟨⟨x, ⟨hx, by simp⟩, rfl⟩, CR.after G1.out Q.out⟩
  · obtain ⟨x, hsx⟩ := h.ok.s0 (by omega)
    have cs := h1.own.sr
    rw [hsx] at cs
    have cs' : W.cell? ⟨K.g, 2065, none⟩ = some (ptr x) := cs
    have HX := Lib.hid hsx
    have HS := Lib.hid (sr_read (Own τ1 W 6) (K.s * 64) x a W.drew ((h1.sr x hsx).kept (T := fun _ => False) (Kept.refl _ _).drew (fun _ _ h => h)) ha (by have := h.ok.s1; omega))
    clear h h1 g1 hbel cs hsx
    go_enter Tryz.func39, Tryz.ntmps39
    go_wp2_with fail
    rw [← HW.out]
    refine wp_region_still_tail 6 (by kernel_rfl) (by kernel_rfl) ?_
    simp only [List.take_succ_cons, List.take_zero, List.drop_succ_cons, List.drop_zero]
    repeat still_step
    refine wpStill_nil ?_
    change wpList _ _ _ _ _ W.drew
    go_wp2_with (go_at_call 66; with_reducible refine HS.out.mono ?_; rintro e w1 ⟨⟨y, hy, rfl⟩, q1, q2⟩; have Q := Lib.hid (cr_sr H1.out HX.out q1 (drewK q2)); clear q1 q2)
    go_ret
    exact ⟨⟨y, ⟨hy, by simp⟩, rfl⟩, CR.after G1.out Q.out⟩
  · obtain ⟨x, hfx⟩ := h.ok.f0 (by omega)
    have cs := h1.own.fl
    rw [hfx] at cs
    have cs' : W.cell? ⟨K.g, 2064, none⟩ = some (ptr x) := cs
    have HX := Lib.hid hfx
    have HS := Lib.hid (fl_read (Own τ1 W 5) K.f x a W.drew (fl_out (T := fun _ => False) (Kept.refl _ _).drew (fun _ _ h => h) (h1.fl x hfx)) ha h.ok.f1)
    clear h h1 g1 hbel cs hfx
    go_enter Tryz.func39, Tryz.ntmps39
    go_wp2_with fail
    rw [← HW.out]
    refine wp_region_still_tail 6 (by kernel_rfl) (by kernel_rfl) ?_
    simp only [List.take_succ_cons, List.take_zero, List.drop_succ_cons, List.drop_zero]
    repeat still_step
    refine wpStill_nil ?_
    change wpList _ _ _ _ _ W.drew
    go_wp2_with (go_at_call 67; with_reducible refine HS.out.mono ?_; rintro e w1 ⟨⟨y, hy, rfl⟩, q1, q2⟩; have Q := Lib.hid (cr_fl H1.out HX.out (FlR.of q1 (drewK q2))); clear q1 q2)
    go_ret
    exact ⟨⟨y, ⟨hy, by simp⟩, rfl⟩, CR.after G1.out Q.out⟩
  · have c5 := h.own.c5
    have hz := h.rom.2 a (by rw [h.ok.zl]; exact ha)
    have hzb : By (K.zs.getD a 0) := by
      have hl : a < K.zs.length := by rw [h.ok.zl]; exact ha
      rw [List.getD_eq_getElem?_getD, List.getElem?_eq_getElem hl]
      exact h.ok.zb _ (List.getElem_mem hl)
    have hrl := h.rom.1
    obtain ⟨z, hzz⟩ : ∃ z, z = K.zs.getD a 0 := ⟨_, rfl⟩
    rw [← hzz] at hz hzb
    have HZ := Lib.hid hzz
    clear h h1 g1 hbel hzz eB
    have hWs := HW.out
    clear HW
    subst hWs
    go_enter Tryz.func39, Tryz.ntmps39
    go_wp2_with fail
    go_quiet (fail)
    go_wp2
    go_ret
    exact ⟨⟨z, ⟨hzb, fun _ => HZ.out⟩, rfl⟩, CR.after G1.out (cr_still H1.out rfl rfl rfl rfl)⟩
end
end Go.Proofs.YtifajfjiloajfaaGreatDoor.OwnCon
namespace Go.Proofs.YtifajfjiloajfaaGreatDoor.OwnCon
open Go.RowKit Go.Proofs.YtifajfjiloajfaaGreatDoor.Own Go.Proofs.YtifajfjiloajfaaGreatDoor.OwnChip Go.Proofs.YtifajfjiloajfaaGreatDoor.OwnCpu
def wrK (K : KC) (r a v : Int) : KC := if r = 2 then tellK K a v else K
def wrQ (q : Bool) (r a v : Int) : Bool := if r = 2 then tellQ q a v else q
section
variable {τ : Nat → Nat} {w w1 : World} {K : KC} {c : C} {pl : List (Nat × Nat)} {q : Bool}
theorem wr_same {r a v : Int} (h2 : r ≠ 2) (h : CR τ w K c pl q w1) : CR τ w (wrK K r a v) c pl (wrQ q r a v) w1 := by
  rw [show wrK K r a v = K from if_neg h2, show wrQ q r a v = q from if_neg h2]
  exact h
set_option maxHeartbeats 3200000 in
set_option maxRecDepth 100000 in
theorem con_write (r : Int) (a : Nat) (v : Int) (hv : By v) (h : Con τ w K c pl q) (hs : SpotOk K r a) :
    Calls Tryz.prog 38 #[.pointer (some ⟨K.g, 0, none⟩), .agg #[.int .i64 r, .int .i64 a], .int .u8 v] w fun e w' => e = .returned (.tuple #[]) ∧ CR τ w (wrK K r a v) c pl (wrQ q r a v) w' := by
  obtain ⟨W, hW⟩ : ∃ W, W = w.alloc (.cells #[.int .i64 r, .int .i64 a] 51) := ⟨_, rfl⟩
  have hbel : Below w.heap.size w W := by
    rw [hW]
    exact (Below.refl _ w).alloc (Nat.le_refl _) _
  have eB : W.cell? ⟨w.heap.size, 1, none⟩ = some (.int .i64 a) := by
    rw [hW]
    exact ((Blk.new w 51 #[.int .i64 r, .int .i64 a]).cell 1).trans rfl
  have HW := Lib.hid hW
  clear hW
  obtain ⟨τ1, h1, g1⟩ := cr_below h hbel
  have H1 := Lib.hid h1
  have G1 := Lib.hid g1
  have hlt := Sh.lt h.own
  rcases hs with rfl | ⟨rfl, ha⟩ | ⟨rfl, ha⟩ | ⟨rfl, hs1, ha⟩ | ⟨rfl, hf1, ha⟩ | ⟨rfl, ha⟩
  · clear h h1 g1 hbel eB
    have hWs := HW.out
    clear HW
    subst hWs
    go_enter Tryz.func38, Tryz.ntmps38
    go_wp2
    go_end0
    exact ⟨rfl, wr_same (by decide) ⟨τ1, H1.out, G1.out⟩⟩
  · have HC := Lib.hid h
    obtain ⟨x, hx, cx⟩ := h.own.ram a ha
    have fx := Sh.frozen h.own (7 + a)
    clear h h1 g1 hbel eB
    have hWs := HW.out
    clear HW
    subst hWs
    go_enter Tryz.func38, Tryz.ntmps38
    go_wp2_with fail
    go_region
    all_goals
      go_wp2
      go_end0
      obtain ⟨τ2, h2, g2⟩ := cr_same (w1 := w.setCell ⟨K.g, 7 + a, none⟩ (.int .u8 v)) HC.out (own_set (7 + a) _) (HC.out.own.setRam a ha v hv)
      exact ⟨rfl, wr_same (by decide) (CR.after g2 (cr_below h2 (Kept.none_below (Kept.drew (Kept.alloc _)))))⟩
  · have HT := Lib.hid (con_tell (a : Int) v hv h1)
    clear h h1 g1 hbel eB
    have hWs := HW.out
    clear HW
    subst hWs
    go_enter Tryz.func38, Tryz.ntmps38
    go_wp2_with (go_at_call 62; refine HT.out.mono ?_; rintro e w1 ⟨rfl, q1⟩; have Q := Lib.hid q1; clear q1)
    go_end0
    rw [show wrK K 2 a v = tellK K a v from if_pos rfl, show wrQ q 2 a v = tellQ q a v from if_pos rfl]
    exact ⟨rfl, CR.after G1.out Q.out⟩
  · obtain ⟨x, hsx⟩ := h.ok.s0 (by omega)
    have cs := h1.own.sr
    rw [hsx] at cs
    have cs' : W.cell? ⟨K.g, 2065, none⟩ = some (ptr x) := cs
    have HX := Lib.hid hsx
    have HS := Lib.hid (sr_write (Own τ1 W 6) (K.s * 64) x a v W.drew ((h1.sr x hsx).kept (T := fun _ => False) (Kept.refl _ _).drew (fun _ _ h => h)) ha (by have := h.ok.s1; omega) hv)
    clear h h1 g1 hbel cs hsx
    go_enter Tryz.func38, Tryz.ntmps38
    go_wp2_with fail
    rw [← HW.out]
    refine wp_region_still_tail 7 (by kernel_rfl) (by kernel_rfl) ?_
    simp only [List.take_succ_cons, List.take_zero, List.drop_succ_cons, List.drop_zero]
    repeat still_step
    refine wpStill_nil ?_
    change wpList _ _ _ _ _ W.drew
    go_wp2_with (go_at_call 63; with_reducible refine HS.out.mono ?_; rintro e w1 ⟨⟨b, rfl⟩, q1, q2⟩; have Q := Lib.hid (cr_sr H1.out HX.out q1 (drewK q2)); clear q1 q2)
    go_end0
    exact ⟨rfl, wr_same (by decide) (CR.after G1.out Q.out)⟩
  · obtain ⟨x, hfx⟩ := h.ok.f0 (by omega)
    have cs := h1.own.fl
    rw [hfx] at cs
    have cs' : W.cell? ⟨K.g, 2064, none⟩ = some (ptr x) := cs
    have HX := Lib.hid hfx
    have HS := Lib.hid (fl_write (Own τ1 W 5) K.f x a v W.drew (fl_out (T := fun _ => False) (Kept.refl _ _).drew (fun _ _ h => h) (h1.fl x hfx)) ha h.ok.f1 hv)
    clear h h1 g1 hbel cs hfx
    go_enter Tryz.func38, Tryz.ntmps38
    go_wp2_with fail
    rw [← HW.out]
    refine wp_region_still_tail 7 (by kernel_rfl) (by kernel_rfl) ?_
    simp only [List.take_succ_cons, List.take_zero, List.drop_succ_cons, List.drop_zero]
    repeat still_step
    refine wpStill_nil ?_
    change wpList _ _ _ _ _ W.drew
    go_wp2_with (go_at_call 64; with_reducible refine HS.out.mono ?_; rintro e w1 ⟨rfl, q1⟩; have Q := Lib.hid (cr_fl H1.out HX.out (flDrew q1)); clear q1)
    go_end0
    exact ⟨rfl, wr_same (by decide) (CR.after G1.out Q.out)⟩
  · clear h h1 g1 hbel eB
    have hWs := HW.out
    clear HW
    subst hWs
    go_enter Tryz.func38, Tryz.ntmps38
    go_wp2
    go_end0
    exact ⟨rfl, wr_same (by decide) ⟨τ1, H1.out, G1.out⟩⟩
end
end Go.Proofs.YtifajfjiloajfaaGreatDoor.OwnCon

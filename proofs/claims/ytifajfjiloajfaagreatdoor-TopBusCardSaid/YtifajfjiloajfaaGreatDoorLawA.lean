/- The two processors side by side: what holds from round to round. No conditions. -/
import Derived.Test.YtifajfjiloajfaaGreatDoorConP
namespace Go.Proofs.YtifajfjiloajfaaGreatDoor.OwnCon
open Go.RowKit Go.Proofs.YtifajfjiloajfaaGreatDoor.Own Go.Proofs.YtifajfjiloajfaaGreatDoor.OwnChip Go.Proofs.YtifajfjiloajfaaGreatDoor.OwnCpu Go.Proofs.YtifajfjiloajfaaGreatDoor.OwnGeo
section
variable {τ τ1 τ2 : Nat → Nat} {w w0 w1 w2 : World} {K : KC} {c c' : C} {pl pl' : List (Nat × Nat)} {q : Bool} {y b t : Nat} {cs : Array Value}
theorem Goes.far (g : Goes τ w τ1 w1) (ht : 6 < τ b) (h : Blk w b t cs) : Blk w1 b t cs ∧ 6 < τ1 b :=
  ⟨g.2.blk h (by omega), by rw [g.1 b h.lt]; exact ht⟩
theorem Goes.rom {zs : List Int} (g : Goes τ w τ1 w1) (ht : 6 < τ b) (h : Rm zs w b) : Rm zs w1 b ∧ 6 < τ1 b :=
  ⟨h.kept g.2 (by omega), by rw [g.1 b h.1]; exact ht⟩
theorem Goes.cpu (g : Goes τ w τ1 w1) (h : CpuIn (Own τ w 8) w y c pl) : CpuIn (Own τ1 w1 8) w1 y c pl :=
  (h.kept g.2 (fun j hj h6 => by have := hj.2; omega)).mono fun j _ hj => ⟨Nat.lt_of_lt_of_le hj.1 g.2.size, (g.1 j hj.1).trans hj.2⟩
theorem Goes.low (g : Goes τ w τ1 w1) (hw : w0.heap.size ≤ w.heap.size) (h : ∀ b, b < w0.heap.size → τ b = 9) : ∀ b, b < w0.heap.size → τ1 b = 9 := fun b hb => (g.1 b (by omega)).trans (h b hb)
theorem Goes.base (g : Goes τ w τ1 w1) (hb : Below w0.heap.size w0 w) (h : ∀ b, b < w0.heap.size → τ b = 9) : Below w0.heap.size w0 w1 :=
  Kept.none_below ((Kept.below hb).trans (g.2.mono fun j _ hj => Or.inr (by
    by_cases hl : j < w0.heap.size
    · have := h j hl
      omega
    · omega)))
/-- What is a block of the law's own, or was there before, is kept when the law's own processor steps. -/
theorem own_step (h : Con τ w K c pl q) (k : Kept (Own τ w 8) w w1) : Con (retag τ w.heap.size 8) w1 K c pl q :=
  h.go 8 (by decide) (by decide) k (same_banks h) (fun _ => rfl) (fun _ => ⟨rfl, rfl⟩) (fun _ => rfl) (by simp) (by simp) (by simp) (by simp) (by simp) (by simp) (by simp)
theorem own_cpu (k : Kept (Own τ w 8) w w1) (hn : CpuIn (fun b => Own τ w 8 b ∨ w.heap.size ≤ b) w1 y c' pl') : CpuIn (Own (retag τ w.heap.size 8) w1 8) w1 y c' pl' :=
  hn.mono fun b hb hj => Own.new k.size b (hj.imp id fun h => ⟨h, hb⟩)
theorem own_far (k : Kept (Own τ w 8) w w1) (h8 : τ b ≠ 8) (h : Blk w b t cs) : Blk w1 b t cs ∧ retag τ w.heap.size 8 b = τ b := ⟨k.blk h (fun e => h8 e.2), retag_old h.lt⟩
theorem own_rom {zs : List Int} (k : Kept (Own τ w 8) w w1) (h8 : τ b ≠ 8) (h : Rm zs w b) : Rm zs w1 b ∧ retag τ w.heap.size 8 b = τ b := ⟨h.kept k (fun e => h8 e.2), retag_old h.1⟩
theorem own_base (k : Kept (Own τ w 8) w w1) (hb : Below w0.heap.size w0 w) (h : ∀ b, b < w0.heap.size → τ b = 9) : Below w0.heap.size w0 w1 ∧ ∀ b, b < w0.heap.size → retag τ w.heap.size 8 b = 9 := by
  refine ⟨Kept.none_below ((Kept.below hb).trans (k.mono fun j _ hj => Or.inr ?_)), fun b hl => (retag_old (Nat.lt_of_lt_of_le hl hb.size)).trans (h b hl)⟩
  by_cases hl : j < w0.heap.size
  · have := h j hl
    have := hj.2
    omega
  · omega
end
/-- The law's cartridge, as it lies in a variable. -/
abbrev cartC (e : Int) (f s nb rb cap : Nat) : Array Value := #[.int .i64 8, .int .i64 nb, .int .i64 e, .int .i64 f, .int .i64 s, .slice (some ⟨rb, 0, none⟩) (nb * 256) cap]
/-- Ahead of round i: the console, the processor alone, the banks, all alike. -/
structure Rel (w0 : World) (g y tc tb : Nat) (e : Int) (f s nb rb cap : Nat) (zs : List Int) (i : Nat) (τ : Nat → Nat) (K : KC) (c : C) (pl : List (Nat × Nat)) (w : World) : Prop where
  con : Con τ w K c pl true
  kg : K.g = g
  ke : K.e = e
  kf : K.f = f
  ks : K.s = s
  kn : K.nb = nb
  kz : K.zs = zs
  cpu : CpuIn (Own τ w 8) w y c pl
  cs : Cs i c pl
  cart : Blk w tc 30 (cartC e f s nb rb cap)
  tcT : τ tc = 9 ∨ τ tc = 10
  banks : Blk w tb 41 #[.int .u8 K.br, .int .u8 K.bf]
  tbT : τ tb = 10
  rom : Rm zs w rb
  rbT : τ rb = 9 ∨ τ rb = 10
  low : ∀ b, b < w0.heap.size → τ b = 9
  base : Below w0.heap.size w0 w
section
variable {w0 w w1 : World} {g y tc tb : Nat} {e : Int} {f s nb rb cap : Nat} {zs : List Int} {i : Nat} {τ τ1 : Nat → Nat} {K K' : KC} {c c' : C} {pl pl' : List (Nat × Nat)} {q : Bool}
/-- What goes with the console's own doing. -/
structure Side (w0 : World) (y tc tb : Nat) (e : Int) (f s nb rb cap : Nat) (zs : List Int) (x z : Int) (τ : Nat → Nat) (c : C) (pl : List (Nat × Nat)) (w : World) : Prop where
  cpu : CpuIn (Own τ w 8) w y c pl
  cart : Blk w tc 30 (cartC e f s nb rb cap)
  tcT : τ tc = 9 ∨ τ tc = 10
  banks : Blk w tb 41 #[.int .u8 x, .int .u8 z]
  tbT : τ tb = 10
  rom : Rm zs w rb
  rbT : τ rb = 9 ∨ τ rb = 10
  low : ∀ b, b < w0.heap.size → τ b = 9
  base : Below w0.heap.size w0 w
theorem Rel.side (h : Rel w0 g y tc tb e f s nb rb cap zs i τ K c pl w) : Side w0 y tc tb e f s nb rb cap zs K.br K.bf τ c pl w := ⟨h.cpu, h.cart, h.tcT, h.banks, h.tbT, h.rom, h.rbT, h.low, h.base⟩
theorem Side.goes {x z : Int} (h : Side w0 y tc tb e f s nb rb cap zs x z τ c pl w) (k : Goes τ w τ1 w1) : Side w0 y tc tb e f s nb rb cap zs x z τ1 c pl w1 := by
  have h1 := k.far (by rcases h.tcT with t | t <;> omega) h.cart
  have h2 := k.far (by have := h.tbT; omega) h.banks
  have h3 := k.rom (by rcases h.rbT with t | t <;> omega) h.rom
  refine ⟨k.cpu h.cpu, h1.1, ?_, h2.1, (k.1 tb h.banks.lt).trans h.tbT, h3.1, ?_, k.low h.base.size h.low, k.base h.base h.low⟩
  · rw [k.1 tc h.cart.lt]
    exact h.tcT
  · rw [k.1 rb h.rom.1]
    exact h.rbT
/-- The banks are written. -/
theorem Side.bank {x z : Int} (h : Side w0 y tc tb e f s nb rb cap zs x z τ c pl w) (hc : Con τ w K c' pl' q) (k : Kept (· = tb) w w1) {x' z' : Int} (hb : Blk w1 tb 41 #[.int .u8 x', .int .u8 z']) (hne : tc ≠ tb) (hne2 : rb ≠ tb) :
    Side w0 y tc tb e f s nb rb cap zs x' z' (retag τ w.heap.size 10) c pl w1 ∧ Con (retag τ w.heap.size 10) w1 K c' pl' q := by
  have ko : Kept (Own τ w 10) w w1 := one_own h.banks.lt h.tbT k
  have hr : ∀ b j, b < w.heap.size → τ b = j → retag τ w.heap.size 10 b = j := fun b j hb e => (retag_old hb).trans e
  refine ⟨⟨?_, k.blk h.cart hne, ?_, hb, hr _ _ h.banks.lt h.tbT, h.rom.kept k hne2, ?_, fun b hb => hr _ _ (Nat.lt_of_lt_of_le hb h.base.size) (h.low b hb), ?_⟩, hc.go 10 (by decide) (by decide) ko (same_banks hc) (fun _ => rfl) (fun _ => ⟨rfl, rfl⟩) (fun _ => rfl) (by simp) (by simp) (by simp) (by simp) (by simp) (by simp) (by simp)⟩
  · exact (h.cpu.kept ko (Own.apart (by decide))).mono fun b _ hb => Own.keep (by decide) k.size b hb
  · exact h.tcT.imp (hr _ _ h.cart.lt) (hr _ _ h.cart.lt)
  · exact h.rbT.imp (hr _ _ h.rom.1) (hr _ _ h.rom.1)
  · refine Kept.none_below ((Kept.below h.base).trans (k.mono ?_))
    rintro j - rfl
    refine Or.inr ?_
    by_cases hl : j < w0.heap.size
    · have := h.low j hl
      have := h.tbT
      omega
    · omega
/-- The processor alone steps. -/
theorem Side.step {x z : Int} (h : Side w0 y tc tb e f s nb rb cap zs x z τ c pl w) (hc : Con τ w K c' pl' q) (k : Kept (Own τ w 8) w w1) (hn : CpuIn (fun b => Own τ w 8 b ∨ w.heap.size ≤ b) w1 y c' pl') :
    Side w0 y tc tb e f s nb rb cap zs x z (retag τ w.heap.size 8) c' pl' w1 ∧ Con (retag τ w.heap.size 8) w1 K c' pl' q := by
  have h1 := own_far k (by rcases h.tcT with t | t <;> omega) h.cart
  have h2 := own_far k (by have := h.tbT; omega) h.banks
  have h3 := own_rom k (by rcases h.rbT with t | t <;> omega) h.rom
  have h4 := own_base k h.base h.low
  refine ⟨⟨own_cpu k hn, h1.1, ?_, h2.1, h2.2.trans h.tbT, h3.1, ?_, h4.2, h4.1⟩, own_step hc k⟩
  · rw [h1.2]
    exact h.tcT
  · rw [h3.2]
    exact h.rbT
theorem Side.rel {x z : Int} (h : Side w0 y tc tb e f s nb rb cap zs x z τ c pl w) (hc : Con τ w K c pl true) (hk : K.g = g ∧ K.e = e ∧ K.f = f ∧ K.s = s ∧ K.nb = nb ∧ K.zs = zs) (hx : K.br = x) (hz : K.bf = z) (hcs : Cs i c pl) : Rel w0 g y tc tb e f s nb rb cap zs i τ K c pl w :=
  ⟨hc, hk.1, hk.2.1, hk.2.2.1, hk.2.2.2.1, hk.2.2.2.2.1, hk.2.2.2.2.2, h.cpu, hcs, h.cart, h.tcT, by rw [hx, hz]; exact h.banks, h.tbT, h.rom, h.rbT, h.low, h.base⟩
end
end Go.Proofs.YtifajfjiloajfaaGreatDoor.OwnCon

/- Words for blocks: what a call may write; a whole value stored into the midst of a block. No conditions. · A block whose cells are all of a shape; the pad: made, pressed, read, written. Conditions: a pad is a block of eleven cells, each in its range. -/
import Derived.Test.YtifajfjiloajfaaGreatDoorMAluSpec
import Derived.Deep.MidRow
import Derived.Deep.RegionHeld3
import Derived.Deep.RegionLaw
import Derived.Deep.LoopGhost
namespace Go.Proofs.YtifajfjiloajfaaGreatDoor.Own
open Go.RowKit

/-- w' is w but for what lies in block b. -/
structure Only (b : Nat) (w w' : World) : Prop where
  os : w'.os = w.os
  tape : w'.tape = w.tape
  output : w'.output = w.output
  size : w'.heap.size = w.heap.size
  block : ∀ k, k ≠ b → w'.heap[k]? = w.heap[k]?
def splice (cs : Array Value) (off : Nat) (new : Array Value) : Array Value := (cs.toList.take off ++ new.toList ++ cs.toList.drop (off + new.size)).toArray
theorem setCells_heap (b : Nat) : ∀ (vs : List Value) (o : Nat) (w : World) (t : TypeId) (cs : Array Value), Blk w b t cs → o + vs.length ≤ cs.size →
    Blk (w.setCells b o vs) b t (splice cs o vs.toArray) ∧ Only b w (w.setCells b o vs)
  | [], o, w, t, cs, h, hf => by
    refine ⟨?_, rfl, rfl, rfl, rfl, fun _ _ => rfl⟩
    have e : splice cs o (#[] : Array Value) = cs := by simp [splice]
    show Blk w b t (splice cs o #[])
    rw [e]; exact h
  | v :: r, o, w, t, cs, h, hf => by
    have h1 := h.set_ o v
    have hf' : o + (r.length + 1) ≤ cs.size := by simpa using hf
    obtain ⟨h2, k⟩ := setCells_heap b r (o + 1) _ t _ h1 (by simp; omega)
    refine ⟨?_, ?_⟩
    · rw [World.setCells]
      have e : splice (cs.setIfInBounds o v) (o + 1) r.toArray = splice cs o (v :: r).toArray := by
        simp only [splice, Array.toList_setIfInBounds]
        congr 1
        apply List.ext_getElem?
        intro j
        simp only [List.getElem?_append, List.getElem?_take, List.getElem?_drop, List.getElem?_set, List.length_append, List.length_take, List.length_set, Array.length_toList, List.size_toArray, List.length_cons]
        have hsz : o < cs.size := by omega
        rw [Nat.min_eq_left (by omega), Nat.min_eq_left (by omega)]
        by_cases h1 : j < o
        · simp [h1, show j < o + 1 by omega, show j < o + 1 + r.length by omega, show j < o + (r.length + 1) by omega, show ¬ o = j by omega]
        · by_cases h2 : j = o
          · subst h2
            rw [if_pos (show j < j + 1 + r.length by omega), if_pos (show j < j + (r.length + 1) by omega), if_pos (show j < j + 1 by omega), if_neg (show ¬ j < j by omega)]
            simp [hsz]
          · by_cases h3 : j < o + (r.length + 1)
            · have e1 : ¬ j < o + 1 := by omega
              have e2 : j < o + 1 + r.length := by omega
              obtain ⟨m, rfl⟩ : ∃ m, j = o + 1 + m := ⟨j - (o + 1), by omega⟩
              simp only [e1, e2, h1, h3, if_true, if_false]
              rw [show o + 1 + m - o = m + 1 by omega, show o + 1 + m - (o + 1) = m by omega, List.getElem?_cons_succ]
            · have e2 : ¬ j < o + 1 + r.length := by omega
              simp only [e2, h3, if_false]
              rw [show o + 1 + r.length + (j - (o + 1 + r.length)) = o + (r.length + 1) + (j - (o + (r.length + 1))) by omega]
              simp [show ¬ o = o + (r.length + 1) + (j - (o + (r.length + 1))) by omega]
      rw [← e]; exact h2
    · rw [World.setCells]
      exact ⟨k.os, k.tape, k.output, k.size.trans (by simp [World.setCell]), fun j hj => (k.block j hj).trans (Below.heap_setCell w _ v j (fun e => hj e))⟩
theorem store_blk {P : Program} {w : World} {b t off ty : Nat} {cs new : Array Value} (h : Blk w b t cs) (hi : (P.info? ty).map (·.size) = some new.size) (hf : off + new.size ≤ cs.size) (h1 : new.all (·.oneCell') = true) :
    ∃ w', (Instr.storeAt ty (.pointer (some ⟨b, off, none⟩)) (.agg new)).run P w = .ok () w' ∧ Blk w' b t (splice cs off new) ∧ Only b w w' := by
  obtain ⟨k1, k2⟩ := setCells_heap b new.toList off w t cs h (by simpa using hf)
  refine ⟨_, run_storeAt_mid w b off ty new (fun j hj => ⟨?_, h.frozen _⟩) hi h1, by simpa using k1, k2⟩
  rw [h.cell]
  simp [show off + j < cs.size by omega]
theorem load_blk {P : Program} {w : World} {b t off ty : Nat} {cs part : Array Value} {d : TypeDesc} (h : Blk w b t cs) (hu : P.underlying ty = some d) (hd : d.isRow = true) (hi : (P.info? ty).map (·.size) = some part.size)
    (hc : ∀ j, j < part.size → cs[off + j]? = part[j]?) : (Instr.loadAt ty (.pointer (some ⟨b, off, none⟩))).run P w = .ok (.agg part) w := by
  have := run_loadAt_mid (P := P) w b off ty part.toList d (fun j v hv => by
    have hj : j < part.size := by
      have := (List.getElem?_eq_some_iff.1 hv).1
      simpa using this
    rw [h.cell, hc j hj]
    simpa using hv) hu hd (by simpa using hi)
  simpa using this
section
variable {b : Nat} {w w' w2 : World}
theorem Only.refl (b : Nat) (w : World) : Only b w w := ⟨rfl, rfl, rfl, rfl, fun _ _ => rfl⟩
theorem Only.below (h : Only b w w') {B : Nat} (hb : B ≤ b) : Below B w w' := ⟨h.os, h.tape, h.output, Nat.le_of_eq h.size.symm, fun k hk => h.block k (by omega)⟩
theorem Only.grown (h : Only b w w') : w.grownBy w' (some b) := ⟨h.os, h.tape, h.output, Nat.le_of_eq h.size.symm, fun k _ hne => h.block k (fun e => hne (by rw [e]))⟩
theorem Only.blk (h : Only b w w') {g : Nat} {t : TypeId} {cs : Array Value} (hg : Blk w g t cs) (hne : g ≠ b) : Blk w' g t cs := (h.block g hne).trans hg
end
/-- w' is w but for the blocks of S, and new ones. -/
structure Kept (S : Nat → Prop) (w w' : World) : Prop where
  os : w'.os = w.os
  tape : w'.tape = w.tape
  output : w'.output = w.output
  size : w.heap.size ≤ w'.heap.size
  block : ∀ k, k < w.heap.size → ¬ S k → w'.heap[k]? = w.heap[k]?
section
variable {S T : Nat → Prop} {a b c w w' : World}
theorem Kept.refl (S : Nat → Prop) (w : World) : Kept S w w := ⟨rfl, rfl, rfl, Nat.le_refl _, fun _ _ _ => rfl⟩
theorem Kept.mono (h : Kept S a b) (hs : ∀ k, k < a.heap.size → S k → T k) : Kept T a b := ⟨h.os, h.tape, h.output, h.size, fun k hk hn => h.block k hk (fun x => hn (hs k hk x))⟩
/-- One behind the other: the second may write what the first took anew. -/
theorem Kept.trans (h : Kept S a b) (k : Kept (fun j => S j ∨ a.heap.size ≤ j) b c) : Kept S a c :=
  ⟨k.os.trans h.os, k.tape.trans h.tape, k.output.trans h.output, Nat.le_trans h.size k.size, fun j hj hn => (k.block j (Nat.lt_of_lt_of_le hj h.size) (by rintro (x | x); exact hn x; omega)).trans (h.block j hj hn)⟩
theorem Kept.below (h : Below a.heap.size a b) : Kept S a b := ⟨h.os, h.tape, h.output, h.size, fun k hk _ => h.block k hk⟩
theorem Kept.grown {g : Nat} (h : a.grownBy b (some g)) (hg : S g) : Kept S a b := ⟨h.os, h.tape, h.output, h.size, fun k hk hn => h.block k hk (fun e => hn (by simp at e; exact e ▸ hg))⟩
theorem Kept.only {g : Nat} (h : Only g a b) (hg : S g) : Kept S a b := Kept.grown h.grown hg
theorem Kept.blk (h : Kept S a b) {g : Nat} {t : TypeId} {cs : Array Value} (hg : Blk a g t cs) (hn : ¬ S g) : Blk b g t cs := (h.block g hg.lt hn).trans hg
theorem Kept.set (g i : Nat) (u : Value) (hg : S g) : Kept S a (a.setCell ⟨g, i, none⟩ u) := ⟨rfl, rfl, rfl, by simp [World.setCell], fun k _ hn => Below.heap_setCell a _ u k (fun e => hn (by simp at e; exact e ▸ hg))⟩
theorem Kept.alloc (o : Obj) : Kept S a (a.alloc o) := ⟨rfl, rfl, rfl, by simp, fun k hk _ => Below.heap_alloc a o k hk⟩
theorem Kept.drew (h : Kept S a b) : Kept S a b.drew := ⟨h.os, h.tape, h.output, h.size, h.block⟩
/-- Nothing old is written. -/
theorem Kept.none_below (h : Kept (fun _ => False) a b) : Below a.heap.size a b := ⟨h.os, h.tape, h.output, h.size, fun k hk => h.block k hk (fun x => x)⟩
end
end Go.Proofs.YtifajfjiloajfaaGreatDoor.Own
namespace Go.Proofs.YtifajfjiloajfaaGreatDoor.OwnChip
open Go.RowKit Go.Proofs.YtifajfjiloajfaaGreatDoor.Own

theorem by_bits (op : BinOp) (x y : Int) : By (Go.bits op .u8 x y) := by
  have h := wrap_within .u8 (Go.bits op .u8 x y)
  have e : IntKind.u8.wrap (Go.bits op .u8 x y) = Go.bits op .u8 x y := by unfold Go.bits; simp [IntKind.wrap, IntKind.bits, IntKind.signed]
  rw [e] at h
  have h1 : IntKind.u8.min = 0 := by rfl
  have h2 : IntKind.u8.max = 255 := by rfl
  rw [h1, h2] at h
  exact ⟨h.1, by omega⟩
/-- Block g: n cells of a type, each of its shape. -/
def Sh (t n : Nat) (ok : Nat → Value → Prop) (w : World) (g : Nat) : Prop := ∃ cs, Blk w g t cs ∧ cs.size = n ∧ ∀ i v, cs[i]? = some v → ok i v
section
variable {t n : Nat} {ok : Nat → Value → Prop} {w w' : World} {g : Nat}
theorem Sh.lt (h : Sh t n ok w g) : g < w.heap.size := by
  obtain ⟨cs, hb, -, -⟩ := h
  exact hb.lt
theorem Sh.cell (h : Sh t n ok w g) (i : Nat) (hi : i < n) : ∃ v, w.cell? ⟨g, i, none⟩ = some v ∧ ok i v := by
  obtain ⟨cs, hb, hn, hk⟩ := h
  have hc : i < cs.size := by omega
  exact ⟨cs[i], (hb.cell i).trans (Array.getElem?_eq_getElem hc), hk i _ (Array.getElem?_eq_getElem hc)⟩
theorem Sh.frozen (h : Sh t n ok w g) (i : Nat) : w.frozen? ⟨g, i, none⟩ = false := by
  obtain ⟨cs, hb, hn, hk⟩ := h
  exact hb.frozen i
theorem Sh.set (h : Sh t n ok w g) (i : Nat) (u : Value) (hu : ok i u) : Sh t n ok (w.setCell ⟨g, i, none⟩ u) g := by
  obtain ⟨cs, hb, hn, hk⟩ := h
  refine ⟨_, hb.set_ i u, by simpa using hn, ?_⟩
  intro j v hv
  rw [Array.getElem?_setIfInBounds] at hv
  split at hv
  · rename_i e
    subst e
    split at hv
    · simp at hv
      subst hv
      exact hu
    · simp at hv
  · exact hk j v hv
theorem Sh.of (h : w'.heap[g]? = w.heap[g]?) (k : Sh t n ok w g) : Sh t n ok w' g := by
  obtain ⟨cs, hb, hn, hk⟩ := k
  exact ⟨cs, h.trans hb, hn, hk⟩
theorem Sh.kept {S : Nat → Prop} (h : Kept S w w') (hg : ¬ S g) (k : Sh t n ok w g) : Sh t n ok w' g := k.of (h.block g k.lt hg)
end

/-- A pad's cells. -/
def okp (i : Nat) (u : Value) : Prop := (i < 9 → ∃ x, By x ∧ u = .int .u8 x) ∧ (i = 9 → ∃ n : Nat, n ≤ 8 ∧ u = .int .i64 n) ∧ (i = 10 → ∃ b, u = .bool b)
def Pad := Sh 118 11 okp
theorem okp_by (i : Nat) (x : Int) (hi : i < 9) (hx : By x) : okp i (.int .u8 x) := ⟨fun _ => ⟨x, hx, rfl⟩, fun h => absurd h (by omega), fun h => absurd h (by omega)⟩
theorem okp_next (n : Nat) (hn : n ≤ 8) : okp 9 (.int .i64 n) := ⟨fun h => absurd h (by omega), fun _ => ⟨n, hn, rfl⟩, fun h => absurd h (by omega)⟩
theorem okp_high (b : Bool) : okp 10 (.bool b) := ⟨fun h => absurd h (by omega), fun h => absurd h (by omega), fun _ => ⟨b, rfl⟩⟩
theorem Pad.cells {w : World} {g : Nat} (h : Pad w g) : ∃ (p : Int) (n : Nat) (b : Bool), By p ∧ n ≤ 8 ∧ w.cell? ⟨g, 0, none⟩ = some (.int .u8 p) ∧ w.cell? ⟨g, 9, none⟩ = some (.int .i64 n) ∧ w.cell? ⟨g, 10, none⟩ = some (.bool b) := by
  obtain ⟨v0, h0, k0⟩ := Sh.cell h 0 (by omega)
  obtain ⟨v9, h9, k9⟩ := Sh.cell h 9 (by omega)
  obtain ⟨v10, h10, k10⟩ := Sh.cell h 10 (by omega)
  obtain ⟨p, hp, rfl⟩ := k0.1 (by omega)
  obtain ⟨n, hn, rfl⟩ := k9.2.1 rfl
  obtain ⟨b, rfl⟩ := k10.2.2 rfl
  exact ⟨p, n, b, hp, hn, h0, h9, h10⟩
theorem Pad.taken {w : World} {g : Nat} (h : Pad w g) (k : Nat) (hk : k < 8) : ∃ x, By x ∧ w.cell? ⟨g, 1 + k, none⟩ = some (.int .u8 x) := by
  obtain ⟨v, h0, k0⟩ := Sh.cell h (1 + k) (by omega)
  obtain ⟨p, hp, rfl⟩ := k0.1 (by omega)
  exact ⟨p, hp, h0⟩

-- New
set_option maxHeartbeats 800000 in
theorem pad_new (w : World) :
    Calls Tryz.prog 28 #[] w fun e w' => e = .returned (.pointer (some ⟨w.heap.size, 0, none⟩)) ∧ Pad w' w.heap.size ∧ Below w.heap.size w w' := by
  go_enter Tryz.func28, Tryz.ntmps28
  go_wp2
  go_ret
  refine ⟨rfl, ⟨_, Blk.new _ _ _, rfl, ?_⟩, (Below.refl _ _).alloc (Nat.le_refl _) _⟩
  intro i v hv
  have hi : i < 11 := (Array.getElem?_eq_some_iff.1 hv).1
  have : (i < 9 ∧ v = .int .u8 0) ∨ (i = 9 ∧ v = .int .i64 0) ∨ (i = 10 ∧ v = .bool false) := by
    have : i = 0 ∨ i = 1 ∨ i = 2 ∨ i = 3 ∨ i = 4 ∨ i = 5 ∨ i = 6 ∨ i = 7 ∨ i = 8 ∨ i = 9 ∨ i = 10 := by omega
    rcases this with rfl | rfl | rfl | rfl | rfl | rfl | rfl | rfl | rfl | rfl | rfl <;> simp at hv <;> subst hv <;> simp
  rcases this with ⟨h, rfl⟩ | ⟨rfl, rfl⟩ | ⟨rfl, rfl⟩
  · exact okp_by i 0 h ⟨by omega, by omega⟩
  · exact okp_next 0 (by omega)
  · exact okp_high false

-- Press
set_option maxHeartbeats 800000 in
theorem pad_press (g : Nat) (v : Int) (w : World) (h : Pad w g) (hv : By v) :
    Calls Tryz.prog 37 #[.pointer (some ⟨g, 0, none⟩), .int .u8 v] w fun e w' => e = .returned (.tuple #[]) ∧ Pad w' g ∧ Kept (· = g) w w' := by
  obtain ⟨p, n, b, hp, hn, h0, h9, h10⟩ := h.cells
  have f0 := Sh.frozen h 0
  go_enter Tryz.func37, Tryz.ntmps37
  go_wp2
  go_end0
  exact ⟨rfl, Sh.set h 0 _ (okp_by 0 v (by omega) hv), Kept.set g 0 _ rfl⟩

-- Read
set_option maxHeartbeats 800000 in
theorem pad_read (g : Nat) (w : World) (h : Pad w g) :
    Calls Tryz.prog 87 #[.pointer (some ⟨g, 0, none⟩)] w fun e w' => (∃ x, By x ∧ e = .returned (.int .u8 x)) ∧ Pad w' g ∧ Kept (· = g) w w' := by
  obtain ⟨p, n, b, hp, hn, h0, h9, h10⟩ := h.cells
  have f9 := Sh.frozen h 9
  have HP := Lib.hid h
  cases b with
  | true =>
    clear h
    go_enter Tryz.func87, Tryz.ntmps87
    go_wp2
    go_ret
    exact ⟨⟨_, by_bits _ _ _, rfl⟩, HP.out, Kept.refl _ _⟩
  | false =>
    by_cases h8 : n = 8
    · subst h8
      clear h
      go_enter Tryz.func87, Tryz.ntmps87
      go_wp2
      go_ret
      exact ⟨⟨_, ⟨by omega, by omega⟩, rfl⟩, HP.out, Kept.refl _ _⟩
    · have HS : Pad (w.setCell ⟨g, 9, none⟩ (.int .i64 ((n : Int) + 1))) g := Sh.set h 9 _ (okp_next (n + 1) (by omega))
      obtain ⟨x, hx, hc2⟩ := HS.taken n (by omega)
      have HS := Lib.hid HS
      have hwr : IntKind.i64.wrap ((n : Int) + 1) = (n : Int) + 1 := IntWalk.i64_in _ (by omega)
      have hwr2 : IntKind.i64.wrap ((n : Int) + 1 - 1) = (n : Int) := by rw [show (n : Int) + 1 - 1 = n by omega]; exact IntWalk.i64_in _ (by omega)
      have hne : ((n : Int) == 8) = false := by simp; omega
      have hn8 : n < 8 := by omega
      clear h h8
      go_enter Tryz.func87, Tryz.ntmps87
      go_wp2_with fail
      go_region
      all_goals
        go_wp2
        go_ret
        exact ⟨⟨x, hx, rfl⟩, HS.out, (Kept.set (S := (· = g)) g 9 _ rfl).drew⟩

theorem land_one (v : Int) : (Go.bits .and .u8 v 1 == 1) = false ∨ (Go.bits .and .u8 v 1 == 1) = true := by
  cases (Go.bits .and .u8 v 1 == 1)
  · exact Or.inl rfl
  · exact Or.inr rfl
-- Write
set_option maxHeartbeats 1600000 in
theorem pad_write (g : Nat) (v : Int) (w : World) (h : Pad w g) :
    Calls Tryz.prog 80 #[.pointer (some ⟨g, 0, none⟩), .int .u8 v] w fun e w' => e = .returned (.tuple #[]) ∧ Pad w' g ∧ Kept (· = g) w w' := by
  obtain ⟨p, n, b, hp, hn, h0, h9, h10⟩ := h.cells
  have f10 := Sh.frozen h 10
  have HP := Lib.hid h
  have q := land_one v
  rcases q with q | q
  · cases b with
    | true =>
      clear h
      go_enter Tryz.func80, Tryz.ntmps80
      go_wp2_with fail
      go_loopg [17] 8 (fun m iv wr => ∃ k : Nat, k + m = 8 ∧ iv = .int .i64 k ∧ Hid (Pad wr g) ∧ Hid (Kept (· = g) w wr))
      case atStart => exact ⟨0, rfl, rfl, HP, Lib.hid (Kept.refl _ _)⟩
      case round =>
        obtain ⟨k, hk, rfl, HW, HK⟩ := hrel
        by_cases hlt : k < 8
        · obtain ⟨p2, n2, b2, hp2, -, c0, -, -⟩ := HW.out.cells
          obtain ⟨x, -, ck⟩ := HW.out.taken k hlt
          have fk := Sh.frozen HW.out (1 + k)
          have hlt2 : (decide ((k : Int) < 8)) = true := by simp; omega
          have hlt3 : (k : Int) < 8 := by omega
          have hk0 : ¬ (k : Int) < 0 := by omega
          have hwr : IntKind.i64.wrap ((k : Int) + 1) = (k : Int) + 1 := IntWalk.i64_in _ (by omega)
          clear h0 h9 f10 h10
          go_wp2_with fail
          go_region
          all_goals
            go_wp2_with fail
            go_roundg (gk - 1)
            case measure => omega
            case rel => exact ⟨k + 1, by omega, by go_num, Lib.hid (Sh.set HW.out (1 + k) _ (okp_by _ _ (by omega) (by_bits _ _ _))), Lib.hid (HK.out.trans ((Kept.set (S := (· = g)) g (1 + k) _ rfl).mono (fun k _ h => Or.inl h))).drew⟩
        · obtain rfl : k = 8 := by omega
          obtain ⟨p2, n2, b2, hp2, -, c0, c9, c10⟩ := HW.out.cells
          have f9 := Sh.frozen HW.out 9
          have f10 := Sh.frozen HW.out 10
          have H9 := Lib.hid (Sh.set HW.out 9 _ (okp_next 0 (by omega)))
          clear h0 h9 h10
          go_wp2
          go_end0
          exact ⟨rfl, Sh.set H9.out 10 _ (okp_high _), HK.out.trans (((Kept.set (S := (· = g)) g 9 _ rfl).trans (Kept.set g 10 _ (Or.inl rfl))).mono (fun k _ h => Or.inl h))⟩
    | false =>
      clear h
      go_enter Tryz.func80, Tryz.ntmps80
      go_wp2
      go_end0
      exact ⟨rfl, Sh.set HP.out 10 _ (okp_high _), Kept.set g 10 _ rfl⟩
  · cases b with
    | true =>
      clear h
      go_enter Tryz.func80, Tryz.ntmps80
      go_wp2
      go_end0
      exact ⟨rfl, Sh.set HP.out 10 _ (okp_high _), Kept.set g 10 _ rfl⟩
    | false =>
      clear h
      go_enter Tryz.func80, Tryz.ntmps80
      go_wp2
      go_end0
      exact ⟨rfl, Sh.set HP.out 10 _ (okp_high _), Kept.set g 10 _ rfl⟩
end Go.Proofs.YtifajfjiloajfaaGreatDoor.OwnChip

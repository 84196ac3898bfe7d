/- The flash chip: its shape; where an address lies; what it begins. Conditions: one or two sectors of 256 bytes; what it is busy with lies among them. · The flash chip's steps: a key, and what it leads to. Conditions: as before. · The flash chip's commands. Conditions: as before. · The flash chip takes a write: whichever step stands. Conditions: as before. -/
import Derived.Test.YtifajfjiloajfaaGreatDoorMFill
import Derived.Laws.EntriesVeiled
import Derived.BigQuiet
namespace Go.Proofs.YtifajfjiloajfaaGreatDoor.OwnChip
open Go.RowKit Go.Proofs.YtifajfjiloajfaaGreatDoor.Own

theorem ne_type {w : World} {a b t u : Nat} {cs ds : Array Value} (h : Blk w a t cs) (k : Blk w b u ds) (hne : t ≠ u) : a ≠ b := by
  rintro rfl
  have e := h.symm.trans k
  simp at e
  exact hne e.2
theorem Byt.ne {n : Nat} {w : World} {a d t : Nat} {cs : Array Value} (h : Blk w a t cs) (k : Byt n w d) (hne : t ≠ 5) : a ≠ d := by
  obtain ⟨cap, -, ds, hb, -⟩ := k
  exact ne_type h hb hne
abbrev ptr (g : Nat) : Value := .pointer (some ⟨g, 0, none⟩)
/-- What a key leads to. -/
def Thn (g : Nat) (v : Value) : Prop := v = .func (.func 76) #[ptr g] #[] ∨ v = .func (.func 102) #[ptr g] #[]
/-- The second step of a key. -/
def Sec (S : Nat → Prop) (w : World) (g : Nat) (v : Value) : Prop := ∃ a b th, v = .func (.func 99) #[] #[ptr a, ptr b] ∧ S a ∧ S b ∧ Blk w a 126 #[th] ∧ Blk w b 80 #[ptr g] ∧ Thn g th
/-- The first. -/
def Key (S : Nat → Prop) (w : World) (g : Nat) (v : Value) : Prop := ∃ a b sv, v = .func (.func 100) #[] #[ptr a, ptr b] ∧ S a ∧ S b ∧ Blk w a 126 #[sv] ∧ Blk w b 80 #[ptr g] ∧ Sec S w g sv
/-- A step. -/
def Stp (S : Nat → Prop) (w : World) (g : Nat) (v : Value) : Prop := Key S w g v ∨ Sec S w g v ∨ Thn g v ∨ v = .func (.func 101) #[ptr g] #[]
/-- What is old lies as it was, but for blocks of two types. -/
def Same (S : Nat → Prop) (w w' : World) : Prop := ∀ k t cs, S k → t ≠ 130 → t ≠ 5 → Blk w k t cs → Blk w' k t cs
section
variable {S T : Nat → Prop} {w w' : World} {g : Nat} {v : Value}
theorem Sec.same (k : Same S w w') (h : Sec S w g v) : Sec S w' g v := by
  obtain ⟨a, b, th, e, ha, hb, k1, k2, k3⟩ := h
  exact ⟨a, b, th, e, ha, hb, k a _ _ ha (by decide) (by decide) k1, k b _ _ hb (by decide) (by decide) k2, k3⟩
theorem Key.same (k : Same S w w') (h : Key S w g v) : Key S w' g v := by
  obtain ⟨a, b, sv, e, ha, hb, k1, k2, k3⟩ := h
  exact ⟨a, b, sv, e, ha, hb, k a _ _ ha (by decide) (by decide) k1, k b _ _ hb (by decide) (by decide) k2, k3.same k⟩
theorem Stp.same (k : Same S w w') (h : Stp S w g v) : Stp S w' g v := by
  rcases h with h | h | h | h
  · exact Or.inl (h.same k)
  · exact Or.inr (Or.inl (h.same k))
  · exact Or.inr (Or.inr (Or.inl h))
  · exact Or.inr (Or.inr (Or.inr h))
theorem Sec.mono (hs : ∀ j, S j → T j) (h : Sec S w g v) : Sec T w g v := by
  obtain ⟨a, b, th, e, ha, hb, r⟩ := h
  exact ⟨a, b, th, e, hs a ha, hs b hb, r⟩
theorem Key.mono (hs : ∀ j, S j → T j) (h : Key S w g v) : Key T w g v := by
  obtain ⟨a, b, sv, e, ha, hb, k1, k2, k3⟩ := h
  exact ⟨a, b, sv, e, hs a ha, hs b hb, k1, k2, k3.mono hs⟩
theorem Stp.mono (hs : ∀ j, S j → T j) (h : Stp S w g v) : Stp T w g v := by
  rcases h with h | h | h | h
  · exact Or.inl (h.mono hs)
  · exact Or.inr (Or.inl (h.mono hs))
  · exact Or.inr (Or.inr (Or.inl h))
  · exact Or.inr (Or.inr (Or.inr h))
theorem Same.kept (k : Kept T w w') (hd : ∀ j, S j → ¬ T j) : Same S w w' := fun j _ _ hj _ _ h => k.blk h (hd j hj)
theorem Same.below (k : Below w.heap.size w w') : Same S w w' := fun _ _ _ _ _ _ h => h.below k h.lt
theorem Same.set {t : Nat} {cs : Array Value} (hg : Blk w g t cs) (ht : t = 130 ∨ t = 5) (i : Nat) (u : Value) : Same S w (w.setCell ⟨g, i, none⟩ u) := fun _ _ _ _ h1 h2 h => h.far (ne_type h hg (by rcases ht with rfl | rfl; exact h1; exact h2)) u
theorem Same.trans {w2 : World} (h : Same S w w') (k : Same S w' w2) : Same S w w2 := fun j _ _ hj h1 h2 hb => k j _ _ hj h1 h2 (h j _ _ hj h1 h2 hb)
end
theorem kset {S : Nat → Prop} {a b : World} {g : Nat} (h : Kept S a b) (hg : S g) (i : Nat) (u : Value) : Kept S a (b.setCell ⟨g, i, none⟩ u) := h.trans (Kept.set g i u (Or.inl hg))
theorem kalloc {S : Nat → Prop} {a b : World} (h : Kept S a b) (o : Obj) : Kept S a (b.alloc o) := h.trans (Kept.alloc o)
/-- A chip of n bytes: how many sectors, what it is busy with (which, from where, how many, the byte), how long. -/
structure FlS where
  k : Int
  nm : Bool
  tu : Int
  kind : Int
  fr : Nat
  many : Nat
  val : Int
  left : Nat
  raw : Bool
def FlS.cells (x : FlS) (d n cap : Nat) (sv : Value) : Array Value := #[.int .i64 x.k, .slice (some ⟨d, 0, none⟩) n cap, sv, .bool x.nm, .int .u8 x.tu, .int .i64 x.kind, .int .i64 x.fr, .int .i64 x.many, .int .u8 x.val, .int .i64 x.left, .bool x.raw]
structure FlS.Ok (x : FlS) (n : Nat) : Prop where
  k0 : 0 ≤ x.k
  k1 : x.k ≤ 2
  tu : By x.tu
  val : By x.val
  fits : x.fr + x.many ≤ n
  left : x.left ≤ 200
/-- A flash chip in block g, all of it among the blocks of S. -/
def Fl (S : Nat → Prop) (n : Nat) (w : World) (g : Nat) : Prop := S g ∧ ∃ (x : FlS) (d cap : Nat) (sv : Value), S d ∧ x.Ok n ∧ Blk w g 130 (x.cells d n cap sv) ∧ Byt n w d ∧ Stp S w g sv

set_option maxHeartbeats 800000 in
theorem fl_at (n g d cap a : Nat) (x : FlS) (sv : Value) (w : World) (hb : Blk w g 130 (x.cells d n cap sv)) (ha : a < n) (hn : n < 65536) :
    Calls Tryz.prog 86 #[.pointer (some ⟨g, 0, none⟩), .int .i64 a] w fun e w' => e = .returned (.int .i64 a) ∧ w' = w := by
  have c1 : w.cell? ⟨g, 1, none⟩ = some (.slice (some ⟨d, 0, none⟩) n cap) := (hb.cell 1).trans rfl
  have e4 : ¬ (n : Int) = 0 := by omega
  clear hb
  rcases Nat.eq_zero_or_pos a with rfl | hpos
  · go_enter Tryz.func86, Tryz.ntmps86
    go_wp2
    all_goals
      go_ret
      exact ⟨by simp, rfl⟩
  · have e2 : (a : Int) % (n : Int) = a := Int.emod_eq_of_lt (by omega) (by omega)
    go_enter Tryz.func86, Tryz.ntmps86
    go_wp2
    go_ret
    exact ⟨by simp [e2], rfl⟩
set_option maxHeartbeats 1600000 in
theorem fl_begin (n g d cap : Nat) (x : FlS) (sv : Value) (kind : Int) (fr many left : Nat) (val : Int) (w : World) (hb : Blk w g 130 (x.cells d n cap sv)) :
    Calls Tryz.prog 148 #[.pointer (some ⟨g, 0, none⟩), .agg #[.int .i64 kind, .int .i64 fr, .int .i64 many, .int .u8 val], .int .i64 left] w fun e w' => e = .returned (.tuple #[]) ∧
      Blk w' g 130 (FlS.cells { x with nm := false, tu := 0, kind := kind, fr := fr, many := many, val := val, left := left } d n cap sv) ∧ Kept (· = g) w w' := by
  have hl := hb.lt
  have f3 := hb.frozen 3
  have f4 := hb.frozen 4
  have f5 := hb.frozen 5
  have f6 := hb.frozen 6
  have f7 := hb.frozen 7
  have f8 := hb.frozen 8
  have f9 := hb.frozen 9
  have c3 : w.cell? ⟨g, 3, none⟩ = some (.bool x.nm) := (hb.cell 3).trans rfl
  have c4 : w.cell? ⟨g, 4, none⟩ = some (.int .u8 x.tu) := (hb.cell 4).trans rfl
  have c5 : w.cell? ⟨g, 5, none⟩ = some (.int .i64 x.kind) := (hb.cell 5).trans rfl
  have c6 : w.cell? ⟨g, 6, none⟩ = some (.int .i64 x.fr) := (hb.cell 6).trans rfl
  have c7 : w.cell? ⟨g, 7, none⟩ = some (.int .i64 x.many) := (hb.cell 7).trans rfl
  have c8 : w.cell? ⟨g, 8, none⟩ = some (.int .u8 x.val) := (hb.cell 8).trans rfl
  have c9 : w.cell? ⟨g, 9, none⟩ = some (.int .i64 x.left) := (hb.cell 9).trans rfl
  have HB := Lib.hid hb
  clear hb
  go_enter Tryz.func148, Tryz.ntmps148
  go_wp2
  go_end0
  exact ⟨rfl, (((((((HB.out.set_ 5 _).set_ 6 _).set_ 7 _).set_ 8 _).set_ 9 _).set_ 4 _).set_ 3 _).alloc _, (by refine kalloc ?_ _; (iterate 7 refine kset (S := (· = g)) ?_ rfl _ _); exact Kept.refl _ _)⟩
theorem by_0 : By 0 := ⟨Int.le_refl 0, by omega⟩
theorem Fl.begun {S : Nat → Prop} {n g d cap : Nat} {x y : FlS} {sv : Value} {w w' : World} (hg : S g) (hd : S d) (hb : Blk w g 130 (x.cells d n cap sv)) (hy : Byt n w d) (hs : Stp S w g sv) (hb2 : Blk w' g 130 (y.cells d n cap sv)) (k : Kept (· = g) w w') (ok : y.Ok n) :
    Fl S n w' g ∧ Kept S w w' := by
  have hne : d ≠ g := fun e => (hy.ne hb (by decide)) e.symm
  refine ⟨⟨hg, y, d, cap, sv, hd, ok, hb2, hy.kept k hne, hs.same ?_⟩, k.mono (by rintro j - rfl; exact hg)⟩
  intro j t cs _ h1 _ h
  exact k.blk h (fun e => ne_type h hb h1 e)
set_option maxHeartbeats 1600000 in
theorem fl_program (S : Nat → Prop) (n g a : Nat) (v : Int) (w : World) (h : Fl S n w g) (ha : a < n) (hv : By v) :
    Calls Tryz.prog 101 #[.pointer (some ⟨g, 0, none⟩), .int .i64 a, .int .u8 v] w fun e w' => e = .returned (.tuple #[]) ∧ Fl S n w' g ∧ Kept S w w' := by
  obtain ⟨hg, x, d, cap, sv, hd, ok, hb, hy, hs⟩ := h
  have HA := Lib.hid (fl_begin n g d cap x sv 1 a 1 10 v w hb)
  have HE := Lib.hid (fun w' (hb2 : Blk w' g 130 (FlS.cells { x with nm := false, tu := 0, kind := 1, fr := a, many := 1, val := v, left := 10 } d n cap sv)) (k : Kept (· = g) w w') => Fl.begun hg hd hb hy hs hb2 k ⟨ok.k0, ok.k1, by_0, hv, by show a + 1 ≤ n; omega, by show 10 ≤ 200; omega⟩)
  clear hb hy hs ok
  go_enter Tryz.func101, Tryz.ntmps101
  go_wp2_with (go_at_call 148; refine HA.out.mono ?_; rintro e w1 ⟨rfl, hb2, k⟩; have hr := Lib.hid (HE.out w1 hb2 k); clear hb2 k)
  go_end0
  exact ⟨rfl, hr.out⟩
set_option maxHeartbeats 1600000 in
theorem fl_erase (S : Nat → Prop) (f g a : Nat) (v : Int) (w : World) (h : Fl S (f * 256) w g) (ha : a < f * 256) (hf : f ≤ 2) :
    Calls Tryz.prog 102 #[.pointer (some ⟨g, 0, none⟩), .int .i64 a, .int .u8 v] w fun e w' => e = .returned (.tuple #[]) ∧ Fl S (f * 256) w' g ∧ Kept S w w' := by
  have HS := Lib.hid h
  obtain ⟨hg, x, d, cap, sv, hd, ok, hb, hy, hs⟩ := h
  have c1 : w.cell? ⟨g, 1, none⟩ = some (.slice (some ⟨d, 0, none⟩) (f * 256) cap) := (hb.cell 1).trans rfl
  have HA : Hid (Calls Tryz.prog 148 #[.pointer (some ⟨g, 0, none⟩), .agg #[.int .i64 2, .int .i64 ((a : Int) / 256 * 256), .int .i64 256, .int .u8 0], .int .i64 100] w fun e w' => e = .returned (.tuple #[]) ∧ Fl S (f * 256) w' g ∧ Kept S w w') := by
    have q := fl_begin (f * 256) g d cap x sv 2 (a / 256 * 256) 256 100 0 w hb
    have e : ((a / 256 * 256 : Nat) : Int) = (a : Int) / 256 * 256 := by omega
    rw [e] at q
    exact q.mono fun _ _ k => ⟨k.1, Fl.begun hg hd hb hy hs k.2.1 k.2.2 ⟨ok.k0, ok.k1, by_0, by_0, by show a / 256 * 256 + 256 ≤ f * 256; omega, by show 100 ≤ 200; omega⟩⟩
  have HB : Hid (Calls Tryz.prog 148 #[.pointer (some ⟨g, 0, none⟩), .agg #[.int .i64 2, .int .i64 0, .int .i64 ((f : Int) * 256), .int .u8 0], .int .i64 200] w fun e w' => e = .returned (.tuple #[]) ∧ Fl S (f * 256) w' g ∧ Kept S w w') := by
    have q := fl_begin (f * 256) g d cap x sv 2 0 (f * 256) 200 0 w hb
    have e : ((f * 256 : Nat) : Int) = (f : Int) * 256 := by omega
    rw [e] at q
    exact q.mono fun _ _ k => ⟨k.1, Fl.begun hg hd hb hy hs k.2.1 k.2.2 ⟨ok.k0, ok.k1, by_0, by_0, Nat.le_of_eq (Nat.zero_add _), Nat.le_refl 200⟩⟩
  have hw : IntKind.i64.wrap ((a : Int) / 256 * 256) = (a : Int) / 256 * 256 := IntWalk.i64_in _ (by omega)
  clear hb hy hs ok
  go_enter Tryz.func102, Tryz.ntmps102
  go_wp2_with (go_at_call 148; first | (with_reducible refine HA.out.mono ?_; rintro e w1 ⟨rfl, k⟩; have hr := Lib.hid k; clear k) | (with_reducible refine HB.out.mono ?_; rintro e w1 ⟨rfl, k⟩; have hr := Lib.hid k; clear k))
  all_goals go_end0
  all_goals first | exact ⟨rfl, hr.out⟩ | exact ⟨rfl, HS.out, Kept.refl _ _⟩
end Go.Proofs.YtifajfjiloajfaaGreatDoor.OwnChip
namespace Go.Proofs.YtifajfjiloajfaaGreatDoor.OwnChip
open Go.RowKit Go.Proofs.YtifajfjiloajfaaGreatDoor.Own

theorem new_1 (w : World) (A : Obj) (t : Nat) (cs : Array Value) : Blk ((w.alloc A).alloc (.cells cs t)) (w.heap.size + 1) t cs := by
  have q := Blk.new (w.alloc A) t cs
  rwa [show (w.alloc A).heap.size = w.heap.size + 1 by simp] at q
theorem new_2 (w : World) (A B : Obj) (t : Nat) (cs : Array Value) : Blk (((w.alloc A).alloc B).alloc (.cells cs t)) (w.heap.size + 2) t cs := by
  have q := Blk.new ((w.alloc A).alloc B) t cs
  rwa [show ((w.alloc A).alloc B).heap.size = w.heap.size + 2 by simp] at q
set_option maxHeartbeats 1600000 in
theorem fl_key (g : Nat) (th : Value) (w : World) (h : Thn g th) :
    Calls Tryz.prog 75 #[.pointer (some ⟨g, 0, none⟩), th] w fun e w' => (∃ v, e = .returned v ∧ Key (fun j => w.heap.size ≤ j ∧ j < w'.heap.size) w' g v) ∧ Below w.heap.size w w' := by
  have HT := Lib.hid h
  rcases h with rfl | rfl
  all_goals
    go_enter Tryz.func75, Tryz.ntmps75
    go_wp2
    go_ret
    refine ⟨⟨_, rfl, w.heap.size + 2, w.heap.size, _, rfl, ⟨by omega, by simp⟩, ⟨by omega, by simp; omega⟩, new_2 _ _ _ _ _, ((Blk.new _ _ _).alloc _).alloc _, w.heap.size + 1, w.heap.size, _, rfl, ⟨by omega, by simp⟩, ⟨by omega, by simp; omega⟩, (new_1 _ _ _ _).alloc _, ((Blk.new _ _ _).alloc _).alloc _, HT.out⟩, ?_⟩
    exact (((Below.refl _ w).alloc (Nat.le_refl _) _).alloc (by simp) _).alloc (by simp; omega) _
set_option maxHeartbeats 1600000 in
theorem fl_rest (n g d cap : Nat) (x : FlS) (sv : Value) (w : World) (hb : Blk w g 130 (x.cells d n cap sv)) :
    Calls Tryz.prog 50 #[.pointer (some ⟨g, 0, none⟩)] w fun e w' => e = .returned (.tuple #[]) ∧ (∃ sv2, Blk w' g 130 (x.cells d n cap sv2) ∧ Key (fun j => w.heap.size ≤ j ∧ j < w'.heap.size) w' g sv2) ∧ Kept (· = g) w w' := by
  have HK := Lib.hid (fl_key g (.func (.func 76) #[ptr g] #[]) w (Or.inl rfl))
  have HB := Lib.hid hb
  clear hb
  go_enter Tryz.func50, Tryz.ntmps50
  go_wp2_with (go_at_call 75; refine HK.out.mono ?_; rintro e w1 ⟨⟨v, rfl, hk⟩, hbel⟩; have hk2 := Lib.hid hk; obtain ⟨a, b, s1, rfl, -⟩ := hk; have hbel2 := Lib.hid hbel; have hb1 := HB.out.below hbel HB.out.lt; have c2 : w1.cell? ⟨g, 2, none⟩ = some sv := (hb1.cell 2).trans rfl; have f2 := hb1.frozen 2; have HB1 := Lib.hid hb1; clear hbel hb1)
  go_end0
  refine ⟨rfl, ⟨_, HB1.out.set_ 2 _, ?_⟩, kset (S := (· = g)) (Kept.below hbel2.out) rfl 2 _⟩
  refine (hk2.out.same (Same.set HB1.out (Or.inl rfl) 2 _)).mono ?_
  intro j hj
  simpa using hj
set_option maxHeartbeats 1600000 in
/-- The second step: it goes on, or nothing. -/
theorem fl_second (S : Nat → Prop) (n g p2 p3 : Nat) (a v : Int) (th : Value) (w : World) (h : Fl S n w g) (h3 : Blk w p3 126 #[th]) (h2 : Blk w p2 80 #[ptr g]) (ht : Thn g th) :
    Calls Tryz.prog 99 #[.int .i64 a, .int .u8 v, ptr p3, ptr p2] w fun e w' => e = .returned (.tuple #[]) ∧ Fl S n w' g ∧ Kept S w w' := by
  have HS := Lib.hid h
  obtain ⟨hg, x, d, cap, sv, hd, ok, hb, hy, hs⟩ := h
  have hb2 := hb
  have c2 : w.cell? ⟨g, 2, none⟩ = some sv := (hb.cell 2).trans rfl
  have f2 := hb.frozen 2
  have c3 : w.cell? ⟨p3, 0, none⟩ = some th := (h3.cell 0).trans rfl
  have c4 : w.cell? ⟨p2, 0, none⟩ = some (ptr g) := (h2.cell 0).trans rfl
  have HE : Hid (Fl S n (w.setCell ⟨g, 2, none⟩ th) g ∧ Kept S w (w.setCell ⟨g, 2, none⟩ th)) := Lib.hid ⟨⟨hg, x, d, cap, th, hd, ok, hb.set_ 2 th, hy.of (Below.heap_setCell w _ _ d (fun e => (hy.ne hb (by decide)) e.symm)), Or.inr (Or.inr (Or.inl ht))⟩, Kept.set g 2 _ hg⟩
  clear hb hb2 hy hs ok h3 h2
  rcases ht with rfl | rfl
  all_goals
    go_enter Tryz.func99, Tryz.ntmps99
    go_wp2
    all_goals go_end0
    all_goals first | exact ⟨rfl, HE.out⟩ | exact ⟨rfl, HS.out, Kept.refl _ _⟩
set_option maxHeartbeats 1600000 in
/-- The first step: the second is next, or nothing. -/
theorem fl_first (S : Nat → Prop) (n g p2 p5 : Nat) (a v : Int) (sc : Value) (w : World) (h : Fl S n w g) (h5 : Blk w p5 126 #[sc]) (h2 : Blk w p2 80 #[ptr g]) (ht : Sec S w g sc) :
    Calls Tryz.prog 100 #[.int .i64 a, .int .u8 v, ptr p5, ptr p2] w fun e w' => e = .returned (.tuple #[]) ∧ Fl S n w' g ∧ Kept S w w' := by
  have HS := Lib.hid h
  obtain ⟨hg, x, d, cap, sv, hd, ok, hb, hy, hs⟩ := h
  have c2 : w.cell? ⟨g, 2, none⟩ = some sv := (hb.cell 2).trans rfl
  have f2 := hb.frozen 2
  have c3 : w.cell? ⟨p5, 0, none⟩ = some sc := (h5.cell 0).trans rfl
  have c4 : w.cell? ⟨p2, 0, none⟩ = some (ptr g) := (h2.cell 0).trans rfl
  have HE : Hid (Fl S n (w.setCell ⟨g, 2, none⟩ sc) g ∧ Kept S w (w.setCell ⟨g, 2, none⟩ sc)) := Lib.hid ⟨⟨hg, x, d, cap, sc, hd, ok, hb.set_ 2 sc, hy.of (Below.heap_setCell w _ _ d (fun e => (hy.ne hb (by decide)) e.symm)), Or.inr (Or.inl (ht.same (Same.set hb (Or.inl rfl) 2 sc)))⟩, Kept.set g 2 _ hg⟩
  clear hb hy hs ok h5 h2
  obtain ⟨q1, q2, q3, rfl, -⟩ := ht
  go_enter Tryz.func100, Tryz.ntmps100
  go_wp2
  all_goals go_end0
  all_goals first | exact ⟨rfl, HE.out⟩ | exact ⟨rfl, HS.out, Kept.refl _ _⟩
end Go.Proofs.YtifajfjiloajfaaGreatDoor.OwnChip
namespace Go.Proofs.YtifajfjiloajfaaGreatDoor.OwnChip
open Go.RowKit Go.Proofs.YtifajfjiloajfaaGreatDoor.Own

/-- A chip behind a call: what it has may be new. -/
def FlR (S : Nat → Prop) (n : Nat) (w w' : World) (g : Nat) : Prop := Fl (fun j => S j ∨ (w.heap.size ≤ j ∧ j < w'.heap.size)) n w' g ∧ Kept S w w'
theorem Fl.mono {S T : Nat → Prop} {n : Nat} {w : World} {g : Nat} (hs : ∀ j, S j → T j) (h : Fl S n w g) : Fl T n w g := by
  obtain ⟨hg, x, d, cap, sv, hd, ok, hb, hy, hst⟩ := h
  exact ⟨hs g hg, x, d, cap, sv, hs d hd, ok, hb, hy, hst.mono hs⟩
theorem FlR.of {S : Nat → Prop} {n : Nat} {w w' : World} {g : Nat} (h : Fl S n w' g) (k : Kept S w w') : FlR S n w w' g := ⟨h.mono fun _ => Or.inl, k⟩
set_option maxHeartbeats 1600000 in
theorem fl_command (S : Nat → Prop) (n g : Nat) (a v : Int) (w : World) (h : Fl S n w g) :
    Calls Tryz.prog 76 #[.pointer (some ⟨g, 0, none⟩), .int .i64 a, .int .u8 v] w fun e w' => e = .returned (.tuple #[]) ∧ FlR S n w w' g := by
  have HK := Lib.hid (fl_key g (.func (.func 102) #[ptr g] #[]) w (Or.inr rfl))
  have HS := Lib.hid h
  obtain ⟨hg, x, d, cap, sv, hd, ok, hb, hy, hs⟩ := h
  have HB := Lib.hid hb
  have HY := Lib.hid hy
  have HT := Lib.hid hs
  have OK := Lib.hid ok
  have c2 : w.cell? ⟨g, 2, none⟩ = some sv := (hb.cell 2).trans rfl
  have f2 := hb.frozen 2
  have c3 : w.cell? ⟨g, 3, none⟩ = some (.bool x.nm) := (hb.cell 3).trans rfl
  have f3 := hb.frozen 3
  have c10 : w.cell? ⟨g, 10, none⟩ = some (.bool x.raw) := (hb.cell 10).trans rfl
  have f10 := hb.frozen 10
  have hdg : d ≠ g := fun e => (hy.ne hb (by decide)) e.symm
  clear hb hy hs ok
  go_enter Tryz.func76, Tryz.ntmps76
  go_wp2_with (go_at_call 75; refine HK.out.mono ?_; rintro e w1 ⟨⟨v, rfl, hk⟩, hbel⟩; have hk2 := Lib.hid hk; obtain ⟨a, b, s1, rfl, -⟩ := hk; have hbel2 := Lib.hid hbel; have hb1 := HB.out.below hbel HB.out.lt; have c2 : w1.cell? ⟨g, 2, none⟩ = some sv := (hb1.cell 2).trans rfl; have f2 := hb1.frozen 2; have HB1 := Lib.hid hb1; clear hbel hb1)
  all_goals first | go_end0 | (refine bodyPost_ret (results_none rfl _ _ _) rfl ?_)
  all_goals first
    | exact ⟨rfl, FlR.of HS.out (Kept.refl _ _)⟩
    | exact ⟨rfl, FlR.of ⟨hg, { x with raw := true }, d, cap, _, hd, ⟨OK.out.k0, OK.out.k1, OK.out.tu, OK.out.val, OK.out.fits, OK.out.left⟩, (HB.out.set_ 2 _).set_ 10 _, (HY.out.of (Below.heap_setCell w _ _ d hdg)).of (Below.heap_setCell _ _ _ d hdg), Or.inr (Or.inr (Or.inr rfl))⟩ (kset (Kept.set g 2 _ hg) hg 10 _)⟩
    | exact ⟨rfl, FlR.of ⟨hg, { x with nm := true }, d, cap, sv, hd, ⟨OK.out.k0, OK.out.k1, OK.out.tu, OK.out.val, OK.out.fits, OK.out.left⟩, HB.out.set_ 3 _, HY.out.of (Below.heap_setCell w _ _ d hdg), HT.out.same (Same.set HB.out (Or.inl rfl) 3 _)⟩ (Kept.set g 3 _ hg)⟩
    | (refine ⟨rfl, ⟨Or.inl hg, x, d, cap, _, Or.inl hd, OK.out, HB1.out.set_ 2 _, (HY.out.of (hbel2.out.block d HY.out.lt)).of (Below.heap_setCell _ _ _ d hdg), Or.inl ((hk2.out.same (Same.set HB1.out (Or.inl rfl) 2 _)).mono ?_)⟩, kset (Kept.below hbel2.out) hg 2 _⟩
       intro j hj
       exact Or.inr (by simpa using hj))
end Go.Proofs.YtifajfjiloajfaaGreatDoor.OwnChip
namespace Go.Proofs.YtifajfjiloajfaaGreatDoor.OwnChip
open Go.RowKit Go.Proofs.YtifajfjiloajfaaGreatDoor.Own

theorem call_76 (args : Array Value) (w : World) : (callFunc 76 args).run Tryz.prog w = .ok (.enter 76 args) w := by kernel_rfl
theorem call_99 (args : Array Value) (w : World) : (callFunc 99 args).run Tryz.prog w = .ok (.enter 99 args) w := by kernel_rfl
theorem call_100 (args : Array Value) (w : World) : (callFunc 100 args).run Tryz.prog w = .ok (.enter 100 args) w := by kernel_rfl
theorem call_101 (args : Array Value) (w : World) : (callFunc 101 args).run Tryz.prog w = .ok (.enter 101 args) w := by kernel_rfl
theorem call_102 (args : Array Value) (w : World) : (callFunc 102 args).run Tryz.prog w = .ok (.enter 102 args) w := by kernel_rfl
/-- Any step, called with an address and a byte. -/
theorem fl_then (S : Nat → Prop) (f g a : Nat) (v : Int) (w : World) (k : Nat) (h : Fl S (f * 256) w g) (hk : k = 76 ∨ k = 102 ∨ k = 101) (ha : a < f * 256) (hf : f ≤ 2) (hv : By v) :
    Calls Tryz.prog k #[.pointer (some ⟨g, 0, none⟩), .int .i64 a, .int .u8 v] w fun e w' => e = .returned (.tuple #[]) ∧ FlR S (f * 256) w w' g := by
  rcases hk with rfl | rfl | rfl
  · exact fl_command S (f * 256) g a v w h
  · exact (fl_erase S f g a v w h ha hf).mono fun _ _ q => ⟨q.1, FlR.of q.2.1 q.2.2⟩
  · exact (fl_program S (f * 256) g a v w h ha hv).mono fun _ _ q => ⟨q.1, FlR.of q.2.1 q.2.2⟩
theorem FlR.trans {S : Nat → Prop} {n : Nat} {w w1 w2 : World} {g : Nat} (h1 : Kept S w w1) (h2 : FlR (fun j => S j ∨ (w.heap.size ≤ j ∧ j < w1.heap.size)) n w1 w2 g) : FlR S n w w2 g := by
  refine ⟨h2.1.mono ?_, h1.trans (h2.2.mono ?_)⟩
  · intro j hj
    have q1 := h1.size
    have q2 := h2.2.size
    rcases hj with (hj | hj) | hj
    · exact Or.inl hj
    · exact Or.inr ⟨hj.1, by omega⟩
    · exact Or.inr ⟨by omega, hj.2⟩
  · intro j _ hj
    rcases hj with hj | hj
    · exact Or.inl hj
    · exact Or.inr hj.1
theorem fl_named {T : Nat → Prop} {n g : Nat} {w : World} (b : Bool) (h : Fl T n w g) : Fl T n (w.setCell ⟨g, 3, none⟩ (.bool b)) g := by
  obtain ⟨hg, x, d, cap, sv, hd, ok, hb, hy, hs⟩ := h
  have hdg : d ≠ g := fun e => (hy.ne hb (by decide)) e.symm
  exact ⟨hg, { x with nm := b }, d, cap, sv, hd, ⟨ok.k0, ok.k1, ok.tu, ok.val, ok.fits, ok.left⟩, hb.set_ 3 _, hy.of (Below.heap_setCell w _ _ d hdg), hs.same (Same.set hb (Or.inl rfl) 3 _)⟩
theorem fl_after {S : Nat → Prop} {n g d cap nq : Nat} {x : FlS} {sv sv2 : Value} {w w3 : World} (hg : S g) (hd : S d) (hb : Blk w g 130 (x.cells d n cap sv)) (hy : Byt n w d) (ok : x.Ok n)
    (hb3 : Blk w3 g 130 (FlS.cells { x with raw := false } d n cap sv2)) (hk3 : Key (fun j => ((w.drewN nq).setCell ⟨g, 10, none⟩ (.bool false)).heap.size ≤ j ∧ j < w3.heap.size) w3 g sv2) (kp : Kept (· = g) ((w.drewN nq).setCell ⟨g, 10, none⟩ (.bool false)) w3) :
    Kept (· = g) w w3 ∧ Fl (fun j => S j ∨ (w.heap.size ≤ j ∧ j < w3.heap.size)) n w3 g := by
  have hne : d ≠ g := fun e => (hy.ne hb (by decide)) e.symm
  have hsz : ((w.drewN nq).setCell ⟨g, 10, none⟩ (.bool false)).heap.size = w.heap.size := by simp [World.setCell, World.drewN]
  have k1 : Kept (· = g) w ((w.drewN nq).setCell ⟨g, 10, none⟩ (.bool false)) := kset (S := (· = g)) (⟨rfl, rfl, rfl, Nat.le_refl _, fun _ _ _ => rfl⟩ : Kept (· = g) w (w.drewN nq)) rfl 10 _
  have k2 : Kept (· = g) w w3 := k1.trans (kp.mono fun _ _ h => Or.inl h)
  refine ⟨k2, Or.inl hg, { x with raw := false }, d, cap, sv2, Or.inl hd, ⟨ok.k0, ok.k1, ok.tu, ok.val, ok.fits, ok.left⟩, hb3, hy.kept k2 hne, Or.inl (hk3.mono ?_)⟩
  intro j hj
  rw [hsz] at hj
  exact Or.inr hj
set_option maxHeartbeats 1600000 in
set_option maxRecDepth 100000 in
theorem fl_taken_bound (S : Nat → Prop) (n g a : Nat) (v : Int) (w : World) (k : Nat) (x : FlS) (d cap : Nat) (hb : Blk w g 130 (FlS.cells x d n cap (.func (.func k) #[ptr g] #[]))) (ok : x.Ok n) (hg : S g) (hd : S d) (hy : Byt n w d)
    (hcall : ∀ args w, (callFunc k args).run Tryz.prog w = .ok (.enter k args) w)
    (hstep : ∀ w', Kept (· = g) w w' → Fl (fun j => S j ∨ (w.heap.size ≤ j ∧ j < w'.heap.size)) n w' g → Calls Tryz.prog k #[ptr g, .int .i64 a, .int .u8 v] w' fun e w2 => e = .returned (.tuple #[]) ∧ FlR (fun j => S j ∨ (w.heap.size ≤ j ∧ j < w'.heap.size)) n w' w2 g) :
    Calls Tryz.prog 85 #[.pointer (some ⟨g, 0, none⟩), .int .i64 a, .int .u8 v] w fun e w' => e = .returned (.tuple #[]) ∧ FlR S n w w' g := by
  have HB := Lib.hid hb
  have HS := Lib.hid hstep
  have c2 : w.cell? ⟨g, 2, none⟩ = some (.func (.func k) #[ptr g] #[]) := (hb.cell 2).trans rfl
  have c10 : w.cell? ⟨g, 10, none⟩ = some (.bool x.raw) := (hb.cell 10).trans rfl
  have f10 := hb.frozen 10
  have HR := Lib.hid (fun (w1 : World) (h1 : Blk w1 g 130 (FlS.cells { x with raw := false } d n cap (.func (.func k) #[ptr g] #[]))) => fl_rest n g d cap { x with raw := false } _ w1 h1)
  have HY := Lib.hid hy
  have OK := Lib.hid ok
  clear hb ok hy hstep
  go_enter Tryz.func85, Tryz.ntmps85
  go_wp2_with fail
  go_quiet (fail)
  go_wp2_with (go_at_call 50; refine (HR.out _ ?_).mono ?_; (focus exact (HB.out.drewN _).set_ 10 _); rintro e w3 ⟨rfl, ⟨sv2, hb3, hk3⟩, kp3⟩; have H3 := Lib.hid (fl_after hg hd HB.out HY.out OK.out hb3 hk3 kp3); have HB3 := Lib.hid hb3; have c3 : w3.cell? ⟨g, 3, none⟩ = some (.bool x.nm) := (hb3.cell 3).trans rfl; have f3 := hb3.frozen 3; clear hb3 hk3 kp3)
  all_goals (try subst_vars)
  all_goals first
    | (refine bodyPost_ret (results_none rfl _ _ _) rfl ?_
       exact ⟨rfl, (fl_named false H3.out.2).mono (fun j hj => by simpa using hj), kset (H3.out.1.mono (by rintro j - rfl; exact hg)) hg 3 _⟩)
    | (refine Calls.mono (HS.out w3 ?_ ?_) ?_
       · exact H3.out.1
       · exact H3.out.2
       · rintro e w4 ⟨rfl, q4⟩
         have Q4 := Lib.hid q4
         clear q4
         go_wp2
         go_end0
         exact ⟨rfl, FlR.trans (H3.out.1.mono (by rintro j - rfl; exact hg)) Q4.out⟩)
end Go.Proofs.YtifajfjiloajfaaGreatDoor.OwnChip

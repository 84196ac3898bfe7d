/- The EEPROM: its shape; it rests, listens, tells a bit, begins to send. Conditions: its pointer lies among its bytes. · The EEPROM sends. Conditions: its pointer lies among its bytes. · The EEPROM's events but for a byte's end: it is idle, tells, asks; what is next. Conditions: its pointer lies among its bytes. · The EEPROM begins anew, and stops. Conditions: its pointer lies among its bytes. · The EEPROM judges an address's byte. Conditions: its pointer lies among its bytes. -/
import Derived.Test.YtifajfjiloajfaaGreatDoorMp
import Derived.Test.YtifajfjiloajfaaGreatDoorMFlash
import Derived.Test.YtifajfjiloajfaaGreatDoorWire
import Derived.Laws.EntriesVeiled
namespace Go.Proofs.YtifajfjiloajfaaGreatDoor.OwnChip
open Go.RowKit Go.Proofs.YtifajfjiloajfaaGreatDoor.Own

/-- What it is at: pulls, event, judge, next, bits, value, block, high, pointer, left. -/
structure EeS where
  pu : Bool
  ev : Value
  ju : Value
  ne : Value
  bits : Int
  val : Int
  blk : Int
  hi : Int
  pt : Int
  left : Nat
def EeS.cells (x : EeS) (k : Int) (d n cap wi : Nat) (co wa : Option Nat) : Array Value := #[.int .i64 k, .slice (some ⟨d, 0, none⟩) n cap, ptr wi, .bool x.pu, x.ev, x.ju, x.ne, .int .i64 x.bits, .int .u8 x.val, .int .i64 x.blk, .int .i64 x.hi, .int .i64 x.pt, .map co, .map wa, .int .i64 x.left]
structure EeS.Ok (x : EeS) (n : Nat) : Prop where
  val : By x.val
  hi0 : 0 ≤ x.hi
  hi1 : x.hi ≤ 7
  pt0 : 0 ≤ x.pt
  pt1 : x.pt < n
  left : x.left ≤ 50
abbrev bm (k g : Nat) : Value := .func (.func k) #[ptr g] #[]
def Box (S : Nat → Prop) (w : World) (g p : Nat) : Prop := S p ∧ Blk w p 79 #[ptr g]
/-- What is next. -/
def Nx (S : Nat → Prop) (w : World) (g : Nat) (co : Option Nat) (v : Value) : Prop := v = bm 151 g ∨ (∃ p, v = .func (.func 155) #[] #[ptr p] ∧ Box S w g p) ∨ (∃ p, v = .func (.func 180) #[] #[ptr p] ∧ Box S w g p ∧ co ≠ none)
/-- A judge. -/
def Jd (S : Nat → Prop) (w : World) (g : Nat) (co : Option Nat) (ne v : Value) : Prop := v = bm 105 g ∨ v = bm 156 g ∨ (v = bm 181 g ∧ co ≠ none ∧ Nx S w g co ne)
/-- What an event does. -/
def Ev (S : Nat → Prop) (w : World) (g : Nat) (co : Option Nat) (x : EeS) : Prop := x.ev = bm 49 g ∨ (x.ev = bm 149 g ∧ Jd S w g co x.ne x.ju) ∨ (x.ev = bm 176 g ∧ Nx S w g co x.ne) ∨ (x.ev = bm 177 g ∧ 0 ≤ x.bits ∧ x.bits ≤ 7) ∨ x.ev = bm 194 g
/-- What it stands on. -/
structure EeR (S : Nat → Prop) (n d wi : Nat) (co wa : Option Nat) (w : World) (g : Nat) : Prop where
  inG : S g
  inD : S d
  inW : S wi
  byt : Byt n w d
  wr : ∃ y, OwnWire.Wr w wi y
  mco : ∀ B, co = some B → S B ∧ Mp n w B
  mwa : ∀ B, wa = some B → S B ∧ Mp n w B
/-- An EEPROM of kind k, with n bytes, in block g, all of it among the blocks of S. -/
def Ee (S : Nat → Prop) (k : Int) (n : Nat) (w : World) (g : Nat) : Prop := ∃ (x : EeS) (d cap wi : Nat) (co wa : Option Nat), x.Ok n ∧ Blk w g 125 (x.cells k d n cap wi co wa) ∧ EeR S n d wi co wa w g ∧ Ev S w g co x
/-- One behind a call: what it has may be new. -/
def EeQ (S : Nat → Prop) (k : Int) (n : Nat) (w w' : World) (g : Nat) : Prop := Ee (fun j => S j ∨ (w.heap.size ≤ j ∧ j < w'.heap.size)) k n w' g ∧ Kept S w w'
section
variable {S T : Nat → Prop} {n d wi g : Nat} {k : Int} {co wa : Option Nat} {w w' : World} {cs : Array Value} {v : Value}
theorem EeR.kept (hb : Blk w g 125 cs) (q : Kept (· = g) w w') (h : EeR S n d wi co wa w g) : EeR S n d wi co wa w' g := by
  obtain ⟨y, hy⟩ := h.wr
  exact ⟨h.inG, h.inD, h.inW, h.byt.kept q (fun e => h.byt.ne hb (by decide) e.symm), ⟨y, q.blk hy (ne_type hy hb (by decide))⟩, fun B e => ⟨(h.mco B e).1, (h.mco B e).2.kept q fun e2 => (h.mco B e).2.ne hb e2.symm⟩, fun B e => ⟨(h.mwa B e).1, (h.mwa B e).2.kept q fun e2 => (h.mwa B e).2.ne hb e2.symm⟩⟩
theorem Box.kept {p : Nat} (hb : Blk w g 125 cs) (q : Kept (· = g) w w') (h : Box S w g p) : Box S w' g p := ⟨h.1, q.blk h.2 (ne_type h.2 hb (by decide))⟩
theorem Nx.kept (hb : Blk w g 125 cs) (q : Kept (· = g) w w') (h : Nx S w g co v) : Nx S w' g co v := by
  rcases h with h | ⟨p, e, h⟩ | ⟨p, e, h, hc⟩
  · exact Or.inl h
  · exact Or.inr (Or.inl ⟨p, e, h.kept hb q⟩)
  · exact Or.inr (Or.inr ⟨p, e, h.kept hb q, hc⟩)
theorem Jd.kept {ne : Value} (hb : Blk w g 125 cs) (q : Kept (· = g) w w') (h : Jd S w g co ne v) : Jd S w' g co ne v := by
  rcases h with h | h | ⟨e, hc, h⟩
  · exact Or.inl h
  · exact Or.inr (Or.inl h)
  · exact Or.inr (Or.inr ⟨e, hc, h.kept hb q⟩)
theorem Ev.kept {x : EeS} (hb : Blk w g 125 cs) (q : Kept (· = g) w w') (h : Ev S w g co x) : Ev S w' g co x := by
  rcases h with h | ⟨e, h⟩ | ⟨e, h⟩ | h | h
  · exact Or.inl h
  · exact Or.inr (Or.inl ⟨e, h.kept hb q⟩)
  · exact Or.inr (Or.inr (Or.inl ⟨e, h.kept hb q⟩))
  · exact Or.inr (Or.inr (Or.inr (Or.inl h)))
  · exact Or.inr (Or.inr (Or.inr (Or.inr h)))
theorem EeR.mono (hs : ∀ j, S j → T j) (h : EeR S n d wi co wa w g) : EeR T n d wi co wa w g :=
  ⟨hs _ h.inG, hs _ h.inD, hs _ h.inW, h.byt, h.wr, fun B e => ⟨hs _ (h.mco B e).1, (h.mco B e).2⟩, fun B e => ⟨hs _ (h.mwa B e).1, (h.mwa B e).2⟩⟩
theorem Nx.mono (hs : ∀ j, S j → T j) (h : Nx S w g co v) : Nx T w g co v := by
  rcases h with h | ⟨p, e, h⟩ | ⟨p, e, h, hc⟩
  · exact Or.inl h
  · exact Or.inr (Or.inl ⟨p, e, hs _ h.1, h.2⟩)
  · exact Or.inr (Or.inr ⟨p, e, ⟨hs _ h.1, h.2⟩, hc⟩)
theorem Jd.mono {ne : Value} (hs : ∀ j, S j → T j) (h : Jd S w g co ne v) : Jd T w g co ne v := by
  rcases h with h | h | ⟨e, hc, h⟩
  · exact Or.inl h
  · exact Or.inr (Or.inl h)
  · exact Or.inr (Or.inr ⟨e, hc, h.mono hs⟩)
theorem Ev.mono {x : EeS} (hs : ∀ j, S j → T j) (h : Ev S w g co x) : Ev T w g co x := by
  rcases h with h | ⟨e, h⟩ | ⟨e, h⟩ | h | h
  · exact Or.inl h
  · exact Or.inr (Or.inl ⟨e, h.mono hs⟩)
  · exact Or.inr (Or.inr (Or.inl ⟨e, h.mono hs⟩))
  · exact Or.inr (Or.inr (Or.inr (Or.inl h)))
  · exact Or.inr (Or.inr (Or.inr (Or.inr h)))
theorem Ee.mono (hs : ∀ j, S j → T j) (h : Ee S k n w g) : Ee T k n w g := by
  obtain ⟨x, d, cap, wi, co, wa, ok, hb, hr, he⟩ := h
  exact ⟨x, d, cap, wi, co, wa, ok, hb, hr.mono hs, he.mono hs⟩
theorem EeQ.of (h : Ee S k n w' g) (q : Kept S w w') : EeQ S k n w w' g := ⟨h.mono fun _ => Or.inl, q⟩
theorem EeQ.trans {w1 w2 : World} (h1 : Kept S w w1) (h2 : EeQ (fun j => S j ∨ (w.heap.size ≤ j ∧ j < w1.heap.size)) k n w1 w2 g) : EeQ S k n w w2 g := by
  refine ⟨h2.1.mono ?_, h1.trans (h2.2.mono ?_)⟩
  · intro j hj
    have q1 := h1.size
    have q2 := h2.2.size
    rcases hj with (hj | hj) | hj
    · exact Or.inl hj
    · exact Or.inr ⟨hj.1, by omega⟩
    · exact Or.inr ⟨by omega, hj.2⟩
  · intro j _ hj
    rcases hj with hj | hj
    · exact Or.inl hj
    · exact Or.inr hj.1
end
theorem kin {g : Nat} {S : Nat → Prop} {a b : World} (h : Kept (· = g) a b) (hg : S g) : Kept S a b := h.mono (by rintro j - rfl; exact hg)
section
variable (k : Int) (n g d cap wi : Nat) (co wa : Option Nat) (x : EeS) (w : World)
set_option maxHeartbeats 1600000 in
theorem ee_rest (hb : Blk w g 125 (x.cells k d n cap wi co wa)) :
    Calls Tryz.prog 106 #[.pointer (some ⟨g, 0, none⟩)] w fun e w' => e = .returned (.tuple #[]) ∧ Blk w' g 125 (EeS.cells { x with pu := false, ev := bm 49 g } k d n cap wi co wa) ∧ Kept (· = g) w w' := by
  have f3 := hb.frozen 3
  have f4 := hb.frozen 4
  have c3 : w.cell? ⟨g, 3, none⟩ = some (.bool x.pu) := (hb.cell 3).trans rfl
  have c4 : w.cell? ⟨g, 4, none⟩ = some x.ev := (hb.cell 4).trans rfl
  have HB := Lib.hid hb
  clear hb
  go_enter Tryz.func106, Tryz.ntmps106
  go_wp2
  go_end0
  exact ⟨rfl, (HB.out.set_ 3 _).set_ 4 _, (by (iterate 2 refine kset (S := (· = g)) ?_ rfl _ _); exact Kept.refl _ _)⟩
set_option maxHeartbeats 1600000 in
theorem ee_listen (j : Nat) (hb : Blk w g 125 (x.cells k d n cap wi co wa)) :
    Calls Tryz.prog 104 #[.pointer (some ⟨g, 0, none⟩), .func (.func j) #[ptr g] #[]] w fun e w' => e = .returned (.tuple #[]) ∧ Blk w' g 125 (EeS.cells { x with pu := false, ev := bm 149 g, bits := 0, val := 0, ju := bm j g } k d n cap wi co wa) ∧ Kept (· = g) w w' := by
  have f3 := hb.frozen 3
  have f4 := hb.frozen 4
  have f5 := hb.frozen 5
  have f7 := hb.frozen 7
  have f8 := hb.frozen 8
  have c3 : w.cell? ⟨g, 3, none⟩ = some (.bool x.pu) := (hb.cell 3).trans rfl
  have c4 : w.cell? ⟨g, 4, none⟩ = some x.ev := (hb.cell 4).trans rfl
  have c5 : w.cell? ⟨g, 5, none⟩ = some x.ju := (hb.cell 5).trans rfl
  have c7 : w.cell? ⟨g, 7, none⟩ = some (.int .i64 x.bits) := (hb.cell 7).trans rfl
  have c8 : w.cell? ⟨g, 8, none⟩ = some (.int .u8 x.val) := (hb.cell 8).trans rfl
  have HB := Lib.hid hb
  clear hb
  go_enter Tryz.func104, Tryz.ntmps104
  go_wp2
  go_end0
  exact ⟨rfl, ((((HB.out.set_ 3 _).set_ 7 _).set_ 8 _).set_ 5 _).set_ 4 _, (by (iterate 5 refine kset (S := (· = g)) ?_ rfl _ _); exact Kept.refl _ _)⟩
set_option maxHeartbeats 1600000 in
theorem ee_tell (hb : Blk w g 125 (x.cells k d n cap wi co wa)) (h0 : 0 ≤ x.bits) (h1 : x.bits ≤ 7) :
    Calls Tryz.prog 178 #[.pointer (some ⟨g, 0, none⟩)] w fun e w' => e = .returned (.tuple #[]) ∧ (∃ b, Blk w' g 125 (EeS.cells { x with pu := b } k d n cap wi co wa)) ∧ Kept (· = g) w w' := by
  have f3 := hb.frozen 3
  have c3 : w.cell? ⟨g, 3, none⟩ = some (.bool x.pu) := (hb.cell 3).trans rfl
  have c7 : w.cell? ⟨g, 7, none⟩ = some (.int .i64 x.bits) := (hb.cell 7).trans rfl
  have c8 : w.cell? ⟨g, 8, none⟩ = some (.int .u8 x.val) := (hb.cell 8).trans rfl
  have HB := Lib.hid hb
  have hwb : IntKind.i64.wrap (7 - x.bits) = 7 - x.bits := IntWalk.i64_in _ (by omega)
  have hsh : 0 ≤ 7 - x.bits := by omega
  clear hb
  go_enter Tryz.func178, Tryz.ntmps178
  go_wp2_with fail
  go_region
  all_goals
    go_wp2
    go_end0
    exact ⟨rfl, ⟨_, (HB.out.drew).set_ 3 _⟩, kset (S := (· = g)) (Kept.refl _ _).drew rfl _ _⟩
end
end Go.Proofs.YtifajfjiloajfaaGreatDoor.OwnChip
namespace Go.Proofs.YtifajfjiloajfaaGreatDoor.OwnChip
open Go.RowKit Go.Proofs.YtifajfjiloajfaaGreatDoor.Own
theorem ee_four (g : Nat) (w : World) (a b c d : Value) : Kept (· = g) w (((((w.setCell ⟨g, 8, none⟩ a).setCell ⟨g, 11, none⟩ b).setCell ⟨g, 7, none⟩ c).setCell ⟨g, 4, none⟩ d).drew.drew) := by
  refine Kept.drew (Kept.drew ?_)
  iterate 4 refine kset (S := (· = g)) ?_ rfl _ _
  exact Kept.refl _ _
section
variable (k : Int) (n g d cap wi : Nat) (co wa : Option Nat) (x : EeS) (w : World)
set_option maxHeartbeats 3200000 in
theorem ee_send (hb : Blk w g 125 (x.cells k d n cap wi co wa)) (hy : Byt n w d) (h0 : 0 ≤ x.pt) (h1 : x.pt < n) (hn : n < 65536) :
    Calls Tryz.prog 151 #[.pointer (some ⟨g, 0, none⟩)] w fun e w' => e = .returned (.tuple #[]) ∧ (∃ (b : Bool) (v p : Int), By v ∧ 0 ≤ p ∧ p < n ∧ Blk w' g 125 (EeS.cells { x with pu := b, ev := bm 177 g, bits := 0, val := v, pt := p } k d n cap wi co wa)) ∧ Kept (· = g) w w' := by
  have f4 := hb.frozen 4
  have f7 := hb.frozen 7
  have f8 := hb.frozen 8
  have f11 := hb.frozen 11
  have c1 : w.cell? ⟨g, 1, none⟩ = some (.slice (some ⟨d, 0, none⟩) n cap) := (hb.cell 1).trans rfl
  have c4 : w.cell? ⟨g, 4, none⟩ = some x.ev := (hb.cell 4).trans rfl
  have c7 : w.cell? ⟨g, 7, none⟩ = some (.int .i64 x.bits) := (hb.cell 7).trans rfl
  have c8 : w.cell? ⟨g, 8, none⟩ = some (.int .u8 x.val) := (hb.cell 8).trans rfl
  have c11 : w.cell? ⟨g, 11, none⟩ = some (.int .i64 x.pt) := (hb.cell 11).trans rfl
  obtain ⟨y, hy0, cy⟩ := hy.cell x.pt.toNat (by omega)
  have hdg : d ≠ g := fun e => (hy.ne hb (by decide)) e.symm
  have hw : IntKind.i64.wrap (x.pt + 1) = x.pt + 1 := IntWalk.i64_in _ (by omega)
  have hz : ¬ (n : Int) = 0 := by omega
  have hp0 : 0 ≤ (x.pt + 1) % (n : Int) := Int.emod_nonneg _ hz
  have hp1 : (x.pt + 1) % (n : Int) < n := Int.emod_lt_of_pos _ (by omega)
  have HP := Lib.hid (And.intro hp0 hp1)
  have HB := Lib.hid hb
  have HT := Lib.hid (fun x' w' h => ee_tell k n g d cap wi co wa x' w' h)
  clear hb hy hp0 hp1
  go_enter Tryz.func151, Tryz.ntmps151
  go_wp2_with fail
  go_region
  all_goals
    go_wp2_with fail
    go_region
    all_goals
      go_wp2_with (go_at_call 178; refine (HT.out { x with ev := bm 177 g, bits := 0, val := y, pt := (x.pt + 1) % (n : Int) } _ ?_ (show (0 : Int) ≤ 0 from Int.le_refl 0) (show (0 : Int) ≤ 7 by decide)).mono ?_; (focus exact (((HB.out.set_ 8 _).set_ 11 _).set_ 7 _).set_ 4 _); rintro e w3 ⟨rfl, ⟨b, hb3⟩, kp3⟩; have H3 := Lib.hid hb3; have K3 := Lib.hid kp3; clear hb3 kp3)
      go_end0
      exact ⟨rfl, ⟨b, y, _, hy0, HP.out.1, HP.out.2, H3.out⟩, (ee_four g w _ _ _ _).trans (K3.out.mono fun _ _ => Or.inl)⟩
end
end Go.Proofs.YtifajfjiloajfaaGreatDoor.OwnChip
namespace Go.Proofs.YtifajfjiloajfaaGreatDoor.OwnChip
open Go.RowKit Go.Proofs.YtifajfjiloajfaaGreatDoor.Own

theorem Ee.upd {S : Nat → Prop} {k : Int} {n g d cap wi : Nat} {co wa : Option Nat} {x y : EeS} {w w' : World} (hb : Blk w g 125 (x.cells k d n cap wi co wa)) (hr : EeR S n d wi co wa w g) (hb2 : Blk w' g 125 (y.cells k d n cap wi co wa)) (q : Kept (· = g) w w') (ok : y.Ok n) (ev : Ev S w g co y) :
    Ee S k n w' g ∧ Kept S w w' := ⟨⟨y, d, cap, wi, co, wa, ok, hb2, hr.kept hb q, ev.kept hb q⟩, kin q hr.inG⟩
section
variable (S : Nat → Prop) (k : Int) (n g d cap wi : Nat) (co wa : Option Nat) (x : EeS) (w : World) (e : Int) (l : Bool)
theorem ee_idle : Calls Tryz.prog 49 #[.pointer (some ⟨g, 0, none⟩), .int .i64 e, .bool l] w fun e w' => e = .returned (.tuple #[]) ∧ w' = w := by
  go_enter Tryz.func49, Tryz.ntmps49
  go_wp2
  go_end0
  exact ⟨rfl, rfl⟩
set_option maxHeartbeats 1600000 in
theorem ee_asks (ok : x.Ok n) (hn : n < 65536) (hb : Blk w g 125 (x.cells k d n cap wi co wa)) (hr : EeR S n d wi co wa w g) (hev : Ev S w g co x) :
    Calls Tryz.prog 194 #[.pointer (some ⟨g, 0, none⟩), .int .i64 e, .bool l] w fun e w' => e = .returned (.tuple #[]) ∧ Ee S k n w' g ∧ Kept S w w' := by
  have HR : Hid (Calls Tryz.prog 106 #[.pointer (some ⟨g, 0, none⟩)] w fun e w' => e = .returned (.tuple #[]) ∧ Ee S k n w' g ∧ Kept S w w') := Lib.hid ((ee_rest k n g d cap wi co wa x w hb).mono fun _ _ q => ⟨q.1, Ee.upd hb hr q.2.1 q.2.2 ⟨ok.val, ok.hi0, ok.hi1, ok.pt0, ok.pt1, ok.left⟩ (Or.inl rfl)⟩)
  have HS : Hid (Calls Tryz.prog 151 #[.pointer (some ⟨g, 0, none⟩)] w fun e w' => e = .returned (.tuple #[]) ∧ Ee S k n w' g ∧ Kept S w w') := Lib.hid ((ee_send k n g d cap wi co wa x w hb hr.byt ok.pt0 ok.pt1 hn).mono fun _ _ ⟨q1, ⟨b, v, p, hv, p0, p1, q2⟩, q3⟩ => ⟨q1, Ee.upd hb hr q2 q3 ⟨hv, ok.hi0, ok.hi1, p0, p1, ok.left⟩ (Or.inr (Or.inr (Or.inr (Or.inl ⟨rfl, Int.le_refl 0, (show (0 : Int) ≤ 7 by decide)⟩))))⟩)
  have HE : Hid (Ee S k n w g) := Lib.hid ⟨x, d, cap, wi, co, wa, ok, hb, hr, hev⟩
  clear hb hr hev ok
  by_cases h4 : e = 4
  · subst h4
    go_enter Tryz.func194, Tryz.ntmps194
    go_wp2_with (go_at_call 151; refine HS.out.mono ?_; rintro e w1 ⟨rfl, q⟩; have Q := Lib.hid q; clear q)
    go_end0
    exact ⟨rfl, Q.out⟩
  · have b4 : (e == 4) = false := by simpa using h4
    cases l
    · go_enter Tryz.func194, Tryz.ntmps194
      go_wp2
      all_goals
        go_end0
        exact ⟨rfl, HE.out, Kept.refl _ _⟩
    · go_enter Tryz.func194, Tryz.ntmps194
      go_wp2_with (go_at_call 106; refine HR.out.mono ?_; rintro e w1 ⟨rfl, q⟩; have Q := Lib.hid q; clear q)
      all_goals go_end0
      all_goals first | exact ⟨rfl, Q.out⟩ | exact ⟨rfl, HE.out, Kept.refl _ _⟩
set_option maxHeartbeats 1600000 in
theorem ee_tells (ok : x.Ok n) (hb : Blk w g 125 (x.cells k d n cap wi co wa)) (hr : EeR S n d wi co wa w g) (hx : x.ev = bm 177 g) (h0 : 0 ≤ x.bits) (h1 : x.bits ≤ 7) :
    Calls Tryz.prog 177 #[.pointer (some ⟨g, 0, none⟩), .int .i64 e, .bool l] w fun e w' => e = .returned (.tuple #[]) ∧ Ee S k n w' g ∧ Kept S w w' := by
  have HE : Hid (Ee S k n w g) := Lib.hid ⟨x, d, cap, wi, co, wa, ok, hb, hr, Or.inr (Or.inr (Or.inr (Or.inl ⟨hx, h0, h1⟩)))⟩
  have f3 := hb.frozen 3
  have f4 := hb.frozen 4
  have f7 := hb.frozen 7
  have c3 : w.cell? ⟨g, 3, none⟩ = some (.bool x.pu) := (hb.cell 3).trans rfl
  have c4 : w.cell? ⟨g, 4, none⟩ = some x.ev := (hb.cell 4).trans rfl
  have c7 : w.cell? ⟨g, 7, none⟩ = some (.int .i64 x.bits) := (hb.cell 7).trans rfl
  have HU := Lib.hid (fun (y : EeS) (w' : World) (hb2 : Blk w' g 125 (y.cells k d n cap wi co wa)) (q : Kept (· = g) w w') (oky : y.Ok n) (ev : Ev S w g co y) => Ee.upd hb hr hb2 q oky ev)
  have HB := Lib.hid hb
  have OK := Lib.hid ok
  have hx2 := Lib.hid hx
  have hw : IntKind.i64.wrap (x.bits + 1) = x.bits + 1 := IntWalk.i64_in _ (by omega)
  by_cases h4 : e = 4
  · subst h4
    by_cases h7 : x.bits + 1 < 8
    · have HT := Lib.hid (fun w' h => ee_tell k n g d cap wi co wa { x with bits := x.bits + 1 } w' h (show 0 ≤ x.bits + 1 by omega) (show x.bits + 1 ≤ 7 by omega))
      clear hb hr ok hx
      go_enter Tryz.func177, Tryz.ntmps177
      go_wp2_with (go_at_call 178; refine (HT.out _ ?_).mono ?_; (focus exact HB.out.set_ 7 _); rintro e w1 ⟨rfl, ⟨b, q⟩, kq⟩; have Q := Lib.hid q; have KQ := Lib.hid kq; clear q kq)
      refine bodyPost_ret (results_none rfl _ _ _) rfl ?_
      exact ⟨rfl, HU.out _ _ Q.out ((Kept.set (S := (· = g)) g 7 _ rfl).trans (KQ.out.mono fun _ _ => Or.inl)) ⟨OK.out.val, OK.out.hi0, OK.out.hi1, OK.out.pt0, OK.out.pt1, OK.out.left⟩ (Or.inr (Or.inr (Or.inr (Or.inl ⟨hx2.out, show 0 ≤ x.bits + 1 by omega, show x.bits + 1 ≤ 7 by omega⟩))))⟩
    · clear hb hr ok hx
      go_enter Tryz.func177, Tryz.ntmps177
      go_wp2
      go_end0
      exact ⟨rfl, HU.out { x with bits := x.bits + 1, pu := false, ev := bm 194 g } _ (((HB.out.set_ 7 _).set_ 3 _).set_ 4 _) (by (iterate 3 refine kset (S := (· = g)) ?_ rfl _ _); exact Kept.refl _ _) ⟨OK.out.val, OK.out.hi0, OK.out.hi1, OK.out.pt0, OK.out.pt1, OK.out.left⟩ (Or.inr (Or.inr (Or.inr (Or.inr rfl))))⟩
  · have b4 : (e != 4) = true := by simpa using h4
    clear hb hr ok hx
    go_enter Tryz.func177, Tryz.ntmps177
    go_wp2
    all_goals first | (refine bodyPost_ret (results_none rfl _ _ _) rfl ?_) | go_end0
    all_goals exact ⟨rfl, HE.out, Kept.refl _ _⟩
set_option maxHeartbeats 1600000 in
theorem ee_next (c j p : Nat) (hc : (c = 155 ∧ j = 156) ∨ (c = 180 ∧ j = 181)) (hb : Blk w g 125 (x.cells k d n cap wi co wa)) (hp : Blk w p 79 #[ptr g]) :
    Calls Tryz.prog c #[ptr p] w fun e w' => e = .returned (.tuple #[]) ∧ Blk w' g 125 (EeS.cells { x with pu := false, ev := bm 149 g, bits := 0, val := 0, ju := bm j g } k d n cap wi co wa) ∧ Kept (· = g) w w' := by
  have HL := Lib.hid (ee_listen k n g d cap wi co wa x w j hb)
  have cp : w.cell? ⟨p, 0, none⟩ = some (ptr g) := (hp.cell 0).trans rfl
  clear hb hp
  rcases hc with ⟨rfl, rfl⟩ | ⟨rfl, rfl⟩
  · go_enter Tryz.func155, Tryz.ntmps155
    go_wp2_with (go_at_call 104; refine HL.out.mono ?_; rintro e w1 ⟨rfl, q⟩; have Q := Lib.hid q; clear q)
    go_end0
    exact ⟨rfl, Q.out⟩
  · go_enter Tryz.func180, Tryz.ntmps180
    go_wp2_with (go_at_call 104; refine HL.out.mono ?_; rintro e w1 ⟨rfl, q⟩; have Q := Lib.hid q; clear q)
    go_end0
    exact ⟨rfl, Q.out⟩
end
end Go.Proofs.YtifajfjiloajfaaGreatDoor.OwnChip
namespace Go.Proofs.YtifajfjiloajfaaGreatDoor.OwnChip
open Go.RowKit Go.Proofs.YtifajfjiloajfaaGreatDoor.Own

theorem clear_nil (w : World) (ty : TypeId) : (Builtin.clear_ #[123] ty #[.map none]).run Tryz.prog w = .ok (.tuple #[]) w := by
  simp [Builtin.clear_, underlying, Sem.run_bind, Result.andThen, Tryz.underlying123]
section
variable {S : Nat → Prop} {n d wi g B : Nat} {k : Int} {co wa : Option Nat} {w w1 : World} {cs : Array Value} {v : Value}
/-- A map of its own has turned. -/
theorem EeR.turned (hB : Mp n w B) (hB1 : Mp n w1 B) (q : w.grownBy w1 (some B)) (h : EeR S n d wi co wa w g) : EeR S n d wi co wa w1 g := by
  obtain ⟨y, hy⟩ := h.wr
  have hm : ∀ A, Mp n w A → Mp n w1 A := by
    intro A hA
    by_cases e : A = B
    · subst e
      exact hB1
    · exact hA.of (q.block A hA.lt (by simpa using e))
  refine ⟨h.inG, h.inD, h.inW, h.byt.of (q.block d h.byt.lt ?_), ⟨y, (q.block wi (OwnWire.Blk.lt hy) ?_).trans hy⟩, fun A e => ⟨(h.mco A e).1, hm A (h.mco A e).2⟩, fun A e => ⟨(h.mwa A e).1, hm A (h.mwa A e).2⟩⟩
  · obtain ⟨cap, -, ds, hd, -⟩ := h.byt
    simpa using hB.ne hd
  · simpa using hB.ne hy
theorem Mp.blk {b t : Nat} (hB : Mp n w B) (q : w.grownBy w1 (some B)) (h : Blk w b t cs) : Blk w1 b t cs := (q.block b h.lt (by simpa using hB.ne h)).trans h
theorem Nx.turned (hB : Mp n w B) (q : w.grownBy w1 (some B)) (h : Nx S w g co v) : Nx S w1 g co v := by
  rcases h with h | ⟨p, e, h⟩ | ⟨p, e, h, hc⟩
  · exact Or.inl h
  · exact Or.inr (Or.inl ⟨p, e, h.1, hB.blk q h.2⟩)
  · exact Or.inr (Or.inr ⟨p, e, ⟨h.1, hB.blk q h.2⟩, hc⟩)
theorem Jd.turned {ne : Value} (hB : Mp n w B) (q : w.grownBy w1 (some B)) (h : Jd S w g co ne v) : Jd S w1 g co ne v := by
  rcases h with h | h | ⟨e, hc, h⟩
  · exact Or.inl h
  · exact Or.inr (Or.inl h)
  · exact Or.inr (Or.inr ⟨e, hc, h.turned hB q⟩)
theorem Ev.turned {x : EeS} (hB : Mp n w B) (q : w.grownBy w1 (some B)) (h : Ev S w g co x) : Ev S w1 g co x := by
  rcases h with h | ⟨e, h⟩ | ⟨e, h⟩ | h | h
  · exact Or.inl h
  · exact Or.inr (Or.inl ⟨e, h.turned hB q⟩)
  · exact Or.inr (Or.inr (Or.inl ⟨e, h.turned hB q⟩))
  · exact Or.inr (Or.inr (Or.inr (Or.inl h)))
  · exact Or.inr (Or.inr (Or.inr (Or.inr h)))
/-- A new map is its own. -/
theorem EeR.newmap {W : World} {s : Nat} {wa' : Option Nat} (hb : Blk w g 125 cs) (q : Kept (· = g) w W) (h0 : w.heap.size ≤ s) (hm : Mp n W s) (hw : wa' = wa ∨ wa' = co) (h : EeR S n d wi co wa w g) :
    EeR (fun j => S j ∨ (w.heap.size ≤ j ∧ j < W.heap.size)) n d wi (some s) wa' W g := by
  have h2 := (h.kept hb q).mono (T := fun j => S j ∨ (w.heap.size ≤ j ∧ j < W.heap.size)) (fun _ => Or.inl)
  refine ⟨h2.inG, h2.inD, h2.inW, h2.byt, h2.wr, ?_, ?_⟩
  · intro B e
    cases e
    exact ⟨Or.inr ⟨h0, hm.lt⟩, hm⟩
  · intro B e
    rcases hw with rfl | rfl
    · exact h2.mwa B e
    · exact h2.mco B e
end
section
variable (S : Nat → Prop) (k : Int) (n g d cap wi : Nat) (co wa : Option Nat) (x : EeS) (w : World) (l : Bool)
set_option maxHeartbeats 1600000 in
theorem ee_start (ok : x.Ok n) (hb : Blk w g 125 (x.cells k d n cap wi co wa)) (hr : EeR S n d wi co wa w g) :
    Calls Tryz.prog 92 #[.pointer (some ⟨g, 0, none⟩)] w fun e w' => e = .returned (.tuple #[]) ∧ Ee S k n w' g ∧ Kept S w w' := by
  have c12 : w.cell? ⟨g, 12, none⟩ = some (.map co) := (hb.cell 12).trans rfl
  have HL := Lib.hid (fun w' h => ee_listen k n g d cap wi co wa x w' 105 h)
  have OK := Lib.hid ok
  cases co with
  | none =>
    have hc := clear_nil w
    have HB := Lib.hid hb
    have HR := Lib.hid hr
    clear hb hr ok
    go_enter Tryz.func92, Tryz.ntmps92
    go_wp2_with (go_at_call 104; refine (HL.out _ ?_).mono ?_; (focus exact HB.out); rintro e w3 ⟨rfl, q1, q2⟩; have Q1 := Lib.hid q1; have Q2 := Lib.hid q2; clear q1 q2)
    go_end0
    exact ⟨rfl, Ee.upd HB.out HR.out Q1.out Q2.out ⟨by_0, OK.out.hi0, OK.out.hi1, OK.out.pt0, OK.out.pt1, OK.out.left⟩ (Or.inr (Or.inl ⟨rfl, Or.inl rfl⟩))⟩
  | some B =>
    obtain ⟨hSB, hB⟩ := hr.mco B rfl
    obtain ⟨w1, hc, hB1, hg⟩ := hB.clear
    have HB := Lib.hid (hB.blk hg hb)
    have HR := Lib.hid (hr.turned hB hB1 hg)
    have HG := Lib.hid hg
    clear hb hr ok hg hB hB1
    go_enter Tryz.func92, Tryz.ntmps92
    go_wp2_with (go_at_call 104; refine (HL.out _ ?_).mono ?_; (focus exact HB.out); rintro e w3 ⟨rfl, q1, q2⟩; have Q1 := Lib.hid q1; have Q2 := Lib.hid q2; clear q1 q2)
    go_end0
    have z := Ee.upd HB.out HR.out Q1.out Q2.out ⟨by_0, OK.out.hi0, OK.out.hi1, OK.out.pt0, OK.out.pt1, OK.out.left⟩ (Or.inr (Or.inl ⟨rfl, Or.inl rfl⟩))
    exact ⟨rfl, z.1, (Kept.grown HG.out hSB).trans (z.2.mono fun _ _ => Or.inl)⟩
theorem Mp.at {W : World} {s : Nat} (n : Nat) (h : W.heap.size = s) : Mp n (W.alloc (.map #[] 0)) s := h ▸ Mp.made n W
theorem ee_stopped {W w3 : World} {y : EeS} {wa' : Option Nat} {s : Nat} (hb : Blk w g 125 (x.cells k d n cap wi co wa)) (hr : EeR S n d wi co wa w g) (hw : wa' = wa ∨ wa' = co) (q : Kept (· = g) w W) (h0 : w.heap.size ≤ s) (hm : Mp n W s)
    (hW : Blk W g 125 (y.cells k d n cap wi (some s) wa')) (oky : y.Ok n) (hb3 : Blk w3 g 125 (EeS.cells { y with pu := false, ev := bm 49 g } k d n cap wi (some s) wa')) (q3 : Kept (· = g) W w3) : EeQ S k n w w3 g := by
  have z := Ee.upd hW (hr.newmap hb q h0 hm hw) hb3 q3 ⟨oky.val, oky.hi0, oky.hi1, oky.pt0, oky.pt1, oky.left⟩ (Or.inl rfl)
  exact EeQ.trans (kin q hr.inG) ⟨z.1.mono fun _ => Or.inl, z.2⟩
set_option maxHeartbeats 3200000 in
theorem ee_stop (ok : x.Ok n) (hb : Blk w g 125 (x.cells k d n cap wi co wa)) (hr : EeR S n d wi co wa w g) :
    Calls Tryz.prog 93 #[.pointer (some ⟨g, 0, none⟩), .bool l] w fun e w' => e = .returned (.tuple #[]) ∧ EeQ S k n w w' g := by
  have c3 : w.cell? ⟨g, 3, none⟩ = some (.bool x.pu) := (hb.cell 3).trans rfl
  have c7 : w.cell? ⟨g, 7, none⟩ = some (.int .i64 x.bits) := (hb.cell 7).trans rfl
  have c12 : w.cell? ⟨g, 12, none⟩ = some (.map co) := (hb.cell 12).trans rfl
  have c13 : w.cell? ⟨g, 13, none⟩ = some (.map wa) := (hb.cell 13).trans rfl
  have c14 : w.cell? ⟨g, 14, none⟩ = some (.int .i64 x.left) := (hb.cell 14).trans rfl
  have f12 := hb.frozen 12
  have f13 := hb.frozen 13
  have f14 := hb.frozen 14
  have HL := Lib.hid (fun y co wa w' h => ee_rest k n g d cap wi co wa y w' h)
  have OK := Lib.hid ok
  have HB := Lib.hid hb
  have HR := Lib.hid hr
  have hmm := @run_makeMap Tryz.prog
  have hlt := hb.lt
  clear hb ok
  cases co with
  | none =>
    have hc : ∀ ty, (Builtin.len_ #[123] ty #[.map none]).run Tryz.prog w = .ok (.int .i64 0) w := fun ty => Go.Maps.len_nil Tryz.underlying123 ty
    clear hr
    go_enter Tryz.func93, Tryz.ntmps93
    go_wp2_with (go_at_call 106; refine (HL.out x (some w.heap.size) wa _ ?_).mono ?_; (focus exact (HB.out.set_ 12 _).alloc _); rintro e w3 ⟨rfl, q1, q2⟩; have Q1 := Lib.hid q1; have Q2 := Lib.hid q2; clear q1 q2)
    go_end0
    exact ⟨rfl, ee_stopped S k n g d cap wi none wa x w HB.out HR.out (Or.inl rfl) (kalloc (S := (· = g)) (Kept.set (S := (· = g)) g 12 _ rfl) _) (Nat.le_refl _) (Mp.at n (by simp [World.setCell])) ((HB.out.set_ 12 _).alloc _) ⟨OK.out.val, OK.out.hi0, OK.out.hi1, OK.out.pt0, OK.out.pt1, OK.out.left⟩ Q1.out Q2.out⟩
  | some B =>
    obtain ⟨-, hB⟩ := hr.mco B rfl
    obtain ⟨m, hc⟩ := hB.len
    clear hr hB
    have HE : Hid (∀ w3, Blk w3 g 125 (EeS.cells { x with pu := false, ev := bm 49 g } k d n cap wi (some w.heap.size) wa) → Kept (· = g) ((w.setCell ⟨g, 12, none⟩ (.map (some w.heap.size))).alloc (.map #[] 0)) w3 → EeQ S k n w w3 g) :=
      Lib.hid fun w3 q1 q2 => ee_stopped S k n g d cap wi (some B) wa x w HB.out HR.out (Or.inl rfl) (kalloc (S := (· = g)) (Kept.set (S := (· = g)) g 12 _ rfl) _) (Nat.le_refl _) (Mp.at n (by simp [World.setCell])) ((HB.out.set_ 12 _).alloc _) ⟨OK.out.val, OK.out.hi0, OK.out.hi1, OK.out.pt0, OK.out.pt1, OK.out.left⟩ q1 q2
    have HF : Hid (∀ w3, Blk w3 g 125 (EeS.cells { x with pu := false, ev := bm 49 g, left := 50 } k d n cap wi (some w.heap.size) (some B)) → Kept (· = g) ((((w.setCell ⟨g, 13, none⟩ (.map (some B))).setCell ⟨g, 14, none⟩ (.int .i64 50)).setCell ⟨g, 12, none⟩ (.map (some w.heap.size))).alloc (.map #[] 0)) w3 → EeQ S k n w w3 g) :=
      Lib.hid fun w3 q1 q2 => ee_stopped S k n g d cap wi (some B) wa x w (y := { x with left := 50 }) HB.out HR.out (Or.inr rfl) (kalloc (S := (· = g)) (kset (S := (· = g)) (kset (S := (· = g)) (Kept.set (S := (· = g)) g 13 _ rfl) rfl 14 _) rfl 12 _) _) (Nat.le_refl _) (Mp.at n (by simp [World.setCell])) ((((HB.out.set_ 13 _).set_ 14 _).set_ 12 _).alloc _) ⟨OK.out.val, OK.out.hi0, OK.out.hi1, OK.out.pt0, OK.out.pt1, Nat.le_refl 50⟩ q1 q2
    have HA := Lib.hid (HL.out x (some w.heap.size) wa ((w.setCell ⟨g, 12, none⟩ (.map (some w.heap.size))).alloc (.map #[] 0)) ((HB.out.set_ 12 _).alloc _))
    have HC := Lib.hid (HL.out { x with left := 50 } (some w.heap.size) (some B) ((((w.setCell ⟨g, 13, none⟩ (.map (some B))).setCell ⟨g, 14, none⟩ (.int .i64 50)).setCell ⟨g, 12, none⟩ (.map (some w.heap.size))).alloc (.map #[] 0)) ((((HB.out.set_ 13 _).set_ 14 _).set_ 12 _).alloc _))
    go_enter Tryz.func93, Tryz.ntmps93
    go_wp2_with (first
      | (go_at_call 106; with_reducible refine HC.out.mono ?_; rintro e w3 ⟨rfl, q1, q2⟩; have Q := Lib.hid (HF.out w3 q1 q2); clear q1 q2)
      | (go_at_call 106; with_reducible refine HA.out.mono ?_; rintro e w3 ⟨rfl, q1, q2⟩; have Q := Lib.hid (HE.out w3 q1 q2); clear q1 q2))
    all_goals
      go_end0
      exact ⟨rfl, Q.out⟩
end
end Go.Proofs.YtifajfjiloajfaaGreatDoor.OwnChip
namespace Go.Proofs.YtifajfjiloajfaaGreatDoor.OwnChip
open Go.RowKit Go.Proofs.YtifajfjiloajfaaGreatDoor.Own

abbrev Fr (S : Nat → Prop) (w w' : World) : Nat → Prop := fun j => S j ∨ (w.heap.size ≤ j ∧ j < w'.heap.size)
/-- One behind a judge: where it is content, something is next. -/
def EeJ (S : Nat → Prop) (k : Int) (n : Nat) (w w' : World) (g : Nat) (r : Bool) : Prop :=
  (∃ (y : EeS) (d cap wi : Nat) (co wa : Option Nat), y.Ok n ∧ Blk w' g 125 (y.cells k d n cap wi co wa) ∧ EeR (Fr S w w') n d wi co wa w' g ∧ Ev (Fr S w w') w' g co y ∧ (r = true → Nx (Fr S w w') w' g co y.ne)) ∧ Kept S w w'
theorem Ev.anew {S T : Nat → Prop} {w W : World} {g : Nat} {co co' : Option Nat} {x y : EeS} (h : Ev S w g co x) (hn : Nx T W g co' y.ne) (hc : co' ≠ none ∨ co' = co) (e1 : y.ev = x.ev) (e2 : y.ju = x.ju) (e3 : y.bits = x.bits) : Ev T W g co' y := by
  unfold Ev
  rw [e1, e2, e3]
  rcases h with h | ⟨e, h⟩ | ⟨e, h⟩ | h | h
  · exact Or.inl h
  · refine Or.inr (Or.inl ⟨e, ?_⟩)
    rcases h with h | h | ⟨e, hc2, h⟩
    · exact Or.inl h
    · exact Or.inr (Or.inl h)
    · exact Or.inr (Or.inr ⟨e, hc.elim id (fun e => e ▸ hc2), hn⟩)
  · exact Or.inr (Or.inr (Or.inl ⟨e, hn⟩))
  · exact Or.inr (Or.inr (Or.inr (Or.inl h)))
  · exact Or.inr (Or.inr (Or.inr (Or.inr h)))
theorem or_pos {h b : Int} (h0 : 0 ≤ h) (h7 : h ≤ 7) (hb : By b) : 0 ≤ bits BinOp.or IntKind.i64 (wrap64 (h * 256)) (wrap64 b) := by
  have q := byte_all (P := fun b => ∀ i : Fin 8, 0 ≤ bits BinOp.or IntKind.i64 (wrap64 (((i.val : Nat) : Int) * 256)) (wrap64 b)) (by decide +kernel) hb
  have := q ⟨h.toNat, by omega⟩
  simpa [Int.toNat_of_nonneg h0] using this
section
variable (S : Nat → Prop) (k : Int) (n g d cap wi : Nat) (co wa : Option Nat) (x : EeS) (w : World) (b : Int)
theorem ee_lowered (p : Int) (p0 : 0 ≤ p) (p1 : p < n) (ok : x.Ok n) (hb : Blk w g 125 (x.cells k d n cap wi co wa)) (hr : EeR S n d wi co wa w g) (hev : Ev S w g co x) :
    EeJ S k n w (((((w.setCell ⟨g, 11, none⟩ (.int .i64 p)).setCell ⟨g, 12, none⟩ (.map (some (w.heap.size + 1)))).setCell ⟨g, 6, none⟩ (.func (.func 180) #[] #[ptr w.heap.size])).alloc (.cells #[ptr g] 79)).alloc (.map #[] 0)).drew g true := by
  have q : Kept (· = g) w (((((w.setCell ⟨g, 11, none⟩ (.int .i64 p)).setCell ⟨g, 12, none⟩ (.map (some (w.heap.size + 1)))).setCell ⟨g, 6, none⟩ (.func (.func 180) #[] #[ptr w.heap.size])).alloc (.cells #[ptr g] 79)).alloc (.map #[] 0)).drew := by
    refine Kept.drew (kalloc (S := (· = g)) (kalloc (S := (· = g)) ?_ _) _)
    exact kset (S := (· = g)) (kset (S := (· = g)) (Kept.set (S := (· = g)) g 11 _ rfl) rfl 12 _) rfl 6 _
  have hB : Blk (((((w.setCell ⟨g, 11, none⟩ (.int .i64 p)).setCell ⟨g, 12, none⟩ (.map (some (w.heap.size + 1)))).setCell ⟨g, 6, none⟩ (.func (.func 180) #[] #[ptr w.heap.size])).alloc (.cells #[ptr g] 79)).alloc (.map #[] 0)).drew g 125 (EeS.cells { x with pt := p, ne := .func (.func 180) #[] #[ptr w.heap.size] } k d n cap wi (some (w.heap.size + 1)) wa) :=
    (((((hb.set_ 11 _).set_ 12 _).set_ 6 _).alloc _).alloc _).drew
  have hm : Mp n (((((w.setCell ⟨g, 11, none⟩ (.int .i64 p)).setCell ⟨g, 12, none⟩ (.map (some (w.heap.size + 1)))).setCell ⟨g, 6, none⟩ (.func (.func 180) #[] #[ptr w.heap.size])).alloc (.cells #[ptr g] 79)).alloc (.map #[] 0)).drew (w.heap.size + 1) := by
    have := Mp.at (W := (((w.setCell ⟨g, 11, none⟩ (.int .i64 p)).setCell ⟨g, 12, none⟩ (.map (some (w.heap.size + 1)))).setCell ⟨g, 6, none⟩ (.func (.func 180) #[] #[ptr w.heap.size])).alloc (.cells #[ptr g] 79)) (s := w.heap.size + 1) n (by simp [World.setCell])
    exact this
  have hx : Blk (((((w.setCell ⟨g, 11, none⟩ (.int .i64 p)).setCell ⟨g, 12, none⟩ (.map (some (w.heap.size + 1)))).setCell ⟨g, 6, none⟩ (.func (.func 180) #[] #[ptr w.heap.size])).alloc (.cells #[ptr g] 79)).alloc (.map #[] 0)).drew w.heap.size 79 #[ptr g] := by
    have := (Blk.new (((w.setCell ⟨g, 11, none⟩ (.int .i64 p)).setCell ⟨g, 12, none⟩ (.map (some (w.heap.size + 1)))).setCell ⟨g, 6, none⟩ (.func (.func 180) #[] #[ptr w.heap.size])) 79 #[ptr g]).alloc (.map #[] 0)
    rw [show ((((w.setCell ⟨g, 11, none⟩ (.int .i64 p)).setCell ⟨g, 12, none⟩ (.map (some (w.heap.size + 1)))).setCell ⟨g, 6, none⟩ (.func (.func 180) #[] #[ptr w.heap.size]))).heap.size = w.heap.size by simp [World.setCell]] at this
    exact this
  generalize (((((w.setCell ⟨g, 11, none⟩ (.int .i64 p)).setCell ⟨g, 12, none⟩ (.map (some (w.heap.size + 1)))).setCell ⟨g, 6, none⟩ (.func (.func 180) #[] #[ptr w.heap.size])).alloc (.cells #[ptr g] 79)).alloc (.map #[] 0)).drew = W at q hB hm hx
  have hn : Nx (Fr S w W) W g (some (w.heap.size + 1)) (.func (.func 180) #[] #[ptr w.heap.size]) := Or.inr (Or.inr ⟨w.heap.size, rfl, ⟨Or.inr ⟨Nat.le_refl _, hx.lt⟩, hx⟩, by simp⟩)
  exact ⟨⟨{ x with pt := p, ne := .func (.func 180) #[] #[ptr w.heap.size] }, d, cap, wi, some (w.heap.size + 1), wa, ⟨ok.val, ok.hi0, ok.hi1, p0, p1, ok.left⟩, hB, hr.newmap hb q (Nat.le_succ _) hm (Or.inl rfl), hev.anew hn (Or.inl (by simp)) rfl rfl rfl, fun _ => hn⟩, kin q hr.inG⟩
set_option maxHeartbeats 3200000 in
theorem ee_lower (ok : x.Ok n) (hb : Blk w g 125 (x.cells k d n cap wi co wa)) (hr : EeR S n d wi co wa w g) (hev : Ev S w g co x) (hv : By b) :
    Calls Tryz.prog 156 #[.pointer (some ⟨g, 0, none⟩), .int .u8 b] w fun e w' => e = .returned (.bool true) ∧ EeJ S k n w w' g true := by
  have c1 : w.cell? ⟨g, 1, none⟩ = some (.slice (some ⟨d, 0, none⟩) n cap) := (hb.cell 1).trans rfl
  have c6 : w.cell? ⟨g, 6, none⟩ = some x.ne := (hb.cell 6).trans rfl
  have c10 : w.cell? ⟨g, 10, none⟩ = some (.int .i64 x.hi) := (hb.cell 10).trans rfl
  have c11 : w.cell? ⟨g, 11, none⟩ = some (.int .i64 x.pt) := (hb.cell 11).trans rfl
  have c12 : w.cell? ⟨g, 12, none⟩ = some (.map co) := (hb.cell 12).trans rfl
  have f6 := hb.frozen 6
  have f11 := hb.frozen 11
  have f12 := hb.frozen 12
  have hn0 : (0 : Int) < n := Int.lt_of_le_of_lt ok.pt0 ok.pt1
  have hz : ¬ (n : Int) = 0 := by omega
  have HE := Lib.hid (ee_lowered S k n g d cap wi co wa x w ((bits BinOp.or IntKind.i64 (wrap64 (x.hi * 256)) (wrap64 b)).tmod n) (Int.tmod_nonneg _ (or_pos ok.hi0 ok.hi1 hv)) (Int.tmod_lt_of_pos _ hn0) ok hb hr hev)
  have hlt := hb.lt
  have hmm := @run_makeMap Tryz.prog
  clear hb hr hev ok hn0
  go_enter Tryz.func156, Tryz.ntmps156
  go_wp2_with fail
  go_region
  all_goals
    go_wp2
    go_ret
    exact ⟨rfl, HE.out⟩
end
end Go.Proofs.YtifajfjiloajfaaGreatDoor.OwnChip

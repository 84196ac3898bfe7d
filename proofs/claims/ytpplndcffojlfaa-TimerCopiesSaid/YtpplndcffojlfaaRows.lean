/-
  No cell of these rows narrows 'for every input' (looked for: loops, veiled, ifaces, maps, wideKeys, modest, calm, conditions, laid).
  DERIVED. THE GIVEN ROWS OF THIS SEAT. 6 by the template 'for every input the law returns true; each argument reads behind the call as it read before'; 0 by the template 'total and deterministic' (their statements: YtpplndcffojlfaaTotals.lean).
  GIVEN WITH THE SEED: the statements are not yours to turn. If you find one false, say at which input.
  Laid BY PROGRAM, IN A SANDBOX (cutbox-rows.mjs): the forced cells as the released guide's own fill.sh prints them over the translation a1c84f61e1202e66… (all of the seat's roots in one cut). By AI agents, Wed Nov 11 2026. No macro, syntax, notation, axiom, sorry.
-/
import Derived.Test.YtpplndcffojlfaaChecked
import GoSem.Claim
import GoSem.ClaimJoined
import GoSem.ClaimMapViews
import Derived.JoinedTies
import Derived.KernelRfl
namespace Go.Proofs.Ytpplndcffojlfaa
/- THE CELL 'sum', in the pinned program and in every row, IS THE sha256 OF THE DUMP (.gsa) THAT YtpplndcffojlfaaProg.lean LOADS. Nothing in Lean hashes anything: it is a label: what it is worth is what the hold of that sum in a sandbox is worth. -/
noncomputable def Try.pinned : Pinned := { name := "ytpplndcffojlfaa", sum := "a1c84f61e1202e660ef29fc21a5cbec87e31a2229ca04a62f876110685705917", checked := Try.checked }
namespace Rows
def none {H : Type} : Left H := { results := [], args := [] }

/-- 'keepsakelaw18.TimerPlays': WHATEVER THE INPUT: true; the input reads as it did. -/
def timerPlaysSpec : ChangeSpec := { name := "timerPlays", fn := fun _ => fun
  | [d] => { results := [.lit (.bool true)], args := [d] }
  | _ => none }
def timerPlaysRow : OpenClaim := { program := "ytpplndcffojlfaa", sum := "a1c84f61e1202e660ef29fc21a5cbec87e31a2229ca04a62f876110685705917", func := "keepsake/keepsakelaw18.TimerPlays", spec := "timerPlays", apart := false }
def TimerPlaysSaid : Prop := timerPlaysRow.holds Try.pinned (OpenSpec.ofChange timerPlaysSpec)

/-- ITS FALSE NEIGHBOUR: 'it returns false'. Refute it at one input. -/
def timerPlaysWrong : ChangeSpec := { name := "timerPlays", fn := fun _ => fun
  | [d] => { results := [.lit (.bool false)], args := [d] }
  | _ => none }
def TimerPlaysWrongFalsely : Prop := timerPlaysRow.holds Try.pinned (OpenSpec.ofChange timerPlaysWrong)

/-- 'keepsakelaw18.TimerPeriods': WHATEVER THE INPUT: true; the input reads as it did. -/
def timerPeriodsSpec : ChangeSpec := { name := "timerPeriods", fn := fun _ => fun
  | [d1, d2] => { results := [.lit (.bool true)], args := [d1, d2] }
  | _ => none }
def timerPeriodsRow : OpenClaim := { program := "ytpplndcffojlfaa", sum := "a1c84f61e1202e660ef29fc21a5cbec87e31a2229ca04a62f876110685705917", func := "keepsake/keepsakelaw18.TimerPeriods", spec := "timerPeriods", apart := false }
def TimerPeriodsSaid : Prop := timerPeriodsRow.holds Try.pinned (OpenSpec.ofChange timerPeriodsSpec)

/-- ITS FALSE NEIGHBOUR: 'it returns false'. Refute it at one input. -/
def timerPeriodsWrong : ChangeSpec := { name := "timerPeriods", fn := fun _ => fun
  | [d1, d2] => { results := [.lit (.bool false)], args := [d1, d2] }
  | _ => none }
def TimerPeriodsWrongFalsely : Prop := timerPeriodsRow.holds Try.pinned (OpenSpec.ofChange timerPeriodsWrong)

/-- 'keepsakelaw18.TimerStops': WHATEVER THE INPUT: true; the input reads as it did. -/
def timerStopsSpec : ChangeSpec := { name := "timerStops", fn := fun _ => fun
  | [d1, d2] => { results := [.lit (.bool true)], args := [d1, d2] }
  | _ => none }
def timerStopsRow : OpenClaim := { program := "ytpplndcffojlfaa", sum := "a1c84f61e1202e660ef29fc21a5cbec87e31a2229ca04a62f876110685705917", func := "keepsake/keepsakelaw18.TimerStops", spec := "timerStops", apart := false }
def TimerStopsSaid : Prop := timerStopsRow.holds Try.pinned (OpenSpec.ofChange timerStopsSpec)

/-- ITS FALSE NEIGHBOUR: 'it returns false'. Refute it at one input. -/
def timerStopsWrong : ChangeSpec := { name := "timerStops", fn := fun _ => fun
  | [d1, d2] => { results := [.lit (.bool false)], args := [d1, d2] }
  | _ => none }
def TimerStopsWrongFalsely : Prop := timerStopsRow.holds Try.pinned (OpenSpec.ofChange timerStopsWrong)

/-- 'keepsakelaw18.TimerCounts': WHATEVER THE INPUT: true; the input reads as it did. -/
def timerCountsSpec : ChangeSpec := { name := "timerCounts", fn := fun _ => fun
  | [d1, d2] => { results := [.lit (.bool true)], args := [d1, d2] }
  | _ => none }
def timerCountsRow : OpenClaim := { program := "ytpplndcffojlfaa", sum := "a1c84f61e1202e660ef29fc21a5cbec87e31a2229ca04a62f876110685705917", func := "keepsake/keepsakelaw18.TimerCounts", spec := "timerCounts", apart := false }
def TimerCountsSaid : Prop := timerCountsRow.holds Try.pinned (OpenSpec.ofChange timerCountsSpec)

/-- ITS FALSE NEIGHBOUR: 'it returns false'. Refute it at one input. -/
def timerCountsWrong : ChangeSpec := { name := "timerCounts", fn := fun _ => fun
  | [d1, d2] => { results := [.lit (.bool false)], args := [d1, d2] }
  | _ => none }
def TimerCountsWrongFalsely : Prop := timerCountsRow.holds Try.pinned (OpenSpec.ofChange timerCountsWrong)

/-- 'keepsakelaw18.TimerLow': WHATEVER THE INPUT: true; the input reads as it did. -/
def timerLowSpec : ChangeSpec := { name := "timerLow", fn := fun _ => fun
  | [d1, d2, d3] => { results := [.lit (.bool true)], args := [d1, d2, d3] }
  | _ => none }
def timerLowRow : OpenClaim := { program := "ytpplndcffojlfaa", sum := "a1c84f61e1202e660ef29fc21a5cbec87e31a2229ca04a62f876110685705917", func := "keepsake/keepsakelaw18.TimerLow", spec := "timerLow", apart := false }
def TimerLowSaid : Prop := timerLowRow.holds Try.pinned (OpenSpec.ofChange timerLowSpec)

/-- ITS FALSE NEIGHBOUR: 'it returns false'. Refute it at one input. -/
def timerLowWrong : ChangeSpec := { name := "timerLow", fn := fun _ => fun
  | [d1, d2, d3] => { results := [.lit (.bool false)], args := [d1, d2, d3] }
  | _ => none }
def TimerLowWrongFalsely : Prop := timerLowRow.holds Try.pinned (OpenSpec.ofChange timerLowWrong)

/-- 'keepsakelaw18.TimerCopies': WHATEVER THE INPUT: true; the input reads as it did. -/
def timerCopiesSpec : ChangeSpec := { name := "timerCopies", fn := fun _ => fun
  | [d1, d2] => { results := [.lit (.bool true)], args := [d1, d2] }
  | _ => none }
def timerCopiesRow : OpenClaim := { program := "ytpplndcffojlfaa", sum := "a1c84f61e1202e660ef29fc21a5cbec87e31a2229ca04a62f876110685705917", func := "keepsake/keepsakelaw18.TimerCopies", spec := "timerCopies", unfollowed := true, recurses := true, apart := false }
def TimerCopiesSaid : Prop := timerCopiesRow.holds Try.pinned (OpenSpec.ofChange timerCopiesSpec)

/-- ITS FALSE NEIGHBOUR: 'it returns false'. Refute it at one input. -/
def timerCopiesWrong : ChangeSpec := { name := "timerCopies", fn := fun _ => fun
  | [d1, d2] => { results := [.lit (.bool false)], args := [d1, d2] }
  | _ => none }
def TimerCopiesWrongFalsely : Prop := timerCopiesRow.holds Try.pinned (OpenSpec.ofChange timerCopiesWrong)

/- THE SECOND FORM. 'bulk': how many values and letters a reading holds, each counted each time it is reached (what is shared counts as often as it is met; a slice's spare places count too). A statement '..UptoSaid' is the law's where the arguments, and the package variables that the reading takes, are together of bulk at most 1048576: NARROWER than '..Said'. Prove '..Said' where nothing that the law and all that it calls make is longer than what came in: it says more and counts as full. Else prove '..UptoSaid'. A law counts once. -/
mutual
def uptoBulk {H : Type} : DataW H → Nat
  | .lit (.string bytes) => bytes.length + 1
  | .lit _ => 1
  | .nil => 1
  | .ptr d => uptoBulk d + 1
  | .slice elems spare => uptoBulkAll elems + uptoBulkAll spare + 1
  | .agg parts => uptoBulkAll parts + 1
  | .iface _ d => uptoBulk d + 1
  | .map entries => uptoBulkEntries entries + 1
  | .held _ => 1
def uptoBulkAll {H : Type} : List (DataW H) → Nat
  | [] => 0
  | d :: r => uptoBulk d + uptoBulkAll r
def uptoBulkEntries {H : Type} : List (Lit × DataW H) → Nat
  | [] => 0
  | x :: r => uptoBulkEntry x + uptoBulkEntries r
def uptoBulkEntry {H : Type} : Lit × DataW H → Nat
  | (.string bytes, d) => bytes.length + uptoBulk d + 1
  | (_, d) => uptoBulk d + 1
 end
def uptoSmall : (H : Type) → List (DataW H) → Bool := fun _ ds => decide (uptoBulkAll ds ≤ 1048576)
def OpenSpec.upto (s : _root_.Go.ChangeSpec) : _root_.Go.OpenSpec := { _root_.Go.OpenSpec.ofChange s with cond := some uptoSmall }

/-- 'keepsakelaw18.TimerPlays', WHERE WHAT IT READS IS OF BULK AT MOST 1048576: true; the input reads as it did. -/
def timerPlaysUptoRow : OpenClaim := { program := "ytpplndcffojlfaa", sum := "a1c84f61e1202e660ef29fc21a5cbec87e31a2229ca04a62f876110685705917", func := "keepsake/keepsakelaw18.TimerPlays", spec := "timerPlays", apart := false, narrowed := true }
def TimerPlaysUptoSaid : Prop := timerPlaysUptoRow.holds Try.pinned (OpenSpec.upto timerPlaysSpec)

/-- 'keepsakelaw18.TimerPeriods', WHERE WHAT IT READS IS OF BULK AT MOST 1048576: true; the input reads as it did. -/
def timerPeriodsUptoRow : OpenClaim := { program := "ytpplndcffojlfaa", sum := "a1c84f61e1202e660ef29fc21a5cbec87e31a2229ca04a62f876110685705917", func := "keepsake/keepsakelaw18.TimerPeriods", spec := "timerPeriods", apart := false, narrowed := true }
def TimerPeriodsUptoSaid : Prop := timerPeriodsUptoRow.holds Try.pinned (OpenSpec.upto timerPeriodsSpec)

/-- 'keepsakelaw18.TimerStops', WHERE WHAT IT READS IS OF BULK AT MOST 1048576: true; the input reads as it did. -/
def timerStopsUptoRow : OpenClaim := { program := "ytpplndcffojlfaa", sum := "a1c84f61e1202e660ef29fc21a5cbec87e31a2229ca04a62f876110685705917", func := "keepsake/keepsakelaw18.TimerStops", spec := "timerStops", apart := false, narrowed := true }
def TimerStopsUptoSaid : Prop := timerStopsUptoRow.holds Try.pinned (OpenSpec.upto timerStopsSpec)

/-- 'keepsakelaw18.TimerCounts', WHERE WHAT IT READS IS OF BULK AT MOST 1048576: true; the input reads as it did. -/
def timerCountsUptoRow : OpenClaim := { program := "ytpplndcffojlfaa", sum := "a1c84f61e1202e660ef29fc21a5cbec87e31a2229ca04a62f876110685705917", func := "keepsake/keepsakelaw18.TimerCounts", spec := "timerCounts", apart := false, narrowed := true }
def TimerCountsUptoSaid : Prop := timerCountsUptoRow.holds Try.pinned (OpenSpec.upto timerCountsSpec)

/-- 'keepsakelaw18.TimerLow', WHERE WHAT IT READS IS OF BULK AT MOST 1048576: true; the input reads as it did. -/
def timerLowUptoRow : OpenClaim := { program := "ytpplndcffojlfaa", sum := "a1c84f61e1202e660ef29fc21a5cbec87e31a2229ca04a62f876110685705917", func := "keepsake/keepsakelaw18.TimerLow", spec := "timerLow", apart := false, narrowed := true }
def TimerLowUptoSaid : Prop := timerLowUptoRow.holds Try.pinned (OpenSpec.upto timerLowSpec)

/-- 'keepsakelaw18.TimerCopies', WHERE WHAT IT READS IS OF BULK AT MOST 1048576: true; the input reads as it did. -/
def timerCopiesUptoRow : OpenClaim := { program := "ytpplndcffojlfaa", sum := "a1c84f61e1202e660ef29fc21a5cbec87e31a2229ca04a62f876110685705917", func := "keepsake/keepsakelaw18.TimerCopies", spec := "timerCopies", unfollowed := true, recurses := true, apart := false, narrowed := true }
def TimerCopiesUptoSaid : Prop := timerCopiesUptoRow.holds Try.pinned (OpenSpec.upto timerCopiesSpec)

end Rows
end Go.Proofs.Ytpplndcffojlfaa

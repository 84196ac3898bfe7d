/-
  No cell of these rows narrows 'for every input' (looked for: loops, veiled, ifaces, maps, wideKeys, modest, calm, conditions, laid).
  DERIVED. THE GIVEN ROWS OF THIS SEAT. 8 by the template 'for every input the law returns true; each argument reads behind the call as it read before'; 0 by the template 'total and deterministic' (their statements: YtdenknpjgeomhaaTotals.lean).
  GIVEN WITH THE SEED: the statements are not yours to turn. If you find one false, say at which input.
  Laid BY PROGRAM, IN A SANDBOX (cutbox-rows.mjs): the forced cells as the released guide's own fill.sh prints them over the translation 16708aef8cd07dfb… (all of the seat's roots in one cut). By AI agents, Wed Nov 11 2026. No macro, syntax, notation, axiom, sorry.
-/
import Derived.Test.YtdenknpjgeomhaaChecked
import GoSem.Claim
import GoSem.ClaimJoined
import GoSem.ClaimMapViews
import Derived.JoinedTies
import Derived.KernelRfl
namespace Go.Proofs.Ytdenknpjgeomhaa
/- THE CELL 'sum', in the pinned program and in every row, IS THE sha256 OF THE DUMP (.gsa) THAT YtdenknpjgeomhaaProg.lean LOADS. Nothing in Lean hashes anything: it is a label: what it is worth is what the hold of that sum in a sandbox is worth. -/
noncomputable def Try.pinned : Pinned := { name := "ytdenknpjgeomhaa", sum := "16708aef8cd07dfb7a11d38843eeadf1872955bf0dbc6a6cd07feccc66f5f967", checked := Try.checked }
namespace Rows
def none {H : Type} : Left H := { results := [], args := [] }

/-- 'keepsakelaw13.AluShifts': WHATEVER THE INPUT: true; the input reads as it did. -/
def aluShiftsSpec : ChangeSpec := { name := "aluShifts", fn := fun _ => fun
  | [d1, d2] => { results := [.lit (.bool true)], args := [d1, d2] }
  | _ => none }
def aluShiftsRow : OpenClaim := { program := "ytdenknpjgeomhaa", sum := "16708aef8cd07dfb7a11d38843eeadf1872955bf0dbc6a6cd07feccc66f5f967", func := "keepsake/keepsakelaw13.AluShifts", spec := "aluShifts", unfollowed := true, recurses := true, apart := false }
def AluShiftsSaid : Prop := aluShiftsRow.holds Try.pinned (OpenSpec.ofChange aluShiftsSpec)

/-- ITS FALSE NEIGHBOUR: 'it returns false'. Refute it at one input. -/
def aluShiftsWrong : ChangeSpec := { name := "aluShifts", fn := fun _ => fun
  | [d1, d2] => { results := [.lit (.bool false)], args := [d1, d2] }
  | _ => none }
def AluShiftsWrongFalsely : Prop := aluShiftsRow.holds Try.pinned (OpenSpec.ofChange aluShiftsWrong)

/-- 'keepsakelaw13.AluBack': WHATEVER THE INPUT: true; the input reads as it did. -/
def aluBackSpec : ChangeSpec := { name := "aluBack", fn := fun _ => fun
  | [d1, d2] => { results := [.lit (.bool true)], args := [d1, d2] }
  | _ => none }
def aluBackRow : OpenClaim := { program := "ytdenknpjgeomhaa", sum := "16708aef8cd07dfb7a11d38843eeadf1872955bf0dbc6a6cd07feccc66f5f967", func := "keepsake/keepsakelaw13.AluBack", spec := "aluBack", unfollowed := true, recurses := true, apart := false }
def AluBackSaid : Prop := aluBackRow.holds Try.pinned (OpenSpec.ofChange aluBackSpec)

/-- ITS FALSE NEIGHBOUR: 'it returns false'. Refute it at one input. -/
def aluBackWrong : ChangeSpec := { name := "aluBack", fn := fun _ => fun
  | [d1, d2] => { results := [.lit (.bool false)], args := [d1, d2] }
  | _ => none }
def AluBackWrongFalsely : Prop := aluBackRow.holds Try.pinned (OpenSpec.ofChange aluBackWrong)

/-- 'keepsakelaw13.AluAdds': WHATEVER THE INPUT: true; the input reads as it did. -/
def aluAddsSpec : ChangeSpec := { name := "aluAdds", fn := fun _ => fun
  | [d1, d2, d3] => { results := [.lit (.bool true)], args := [d1, d2, d3] }
  | _ => none }
def aluAddsRow : OpenClaim := { program := "ytdenknpjgeomhaa", sum := "16708aef8cd07dfb7a11d38843eeadf1872955bf0dbc6a6cd07feccc66f5f967", func := "keepsake/keepsakelaw13.AluAdds", spec := "aluAdds", unfollowed := true, recurses := true, apart := false }
def AluAddsSaid : Prop := aluAddsRow.holds Try.pinned (OpenSpec.ofChange aluAddsSpec)

/-- ITS FALSE NEIGHBOUR: 'it returns false'. Refute it at one input. -/
def aluAddsWrong : ChangeSpec := { name := "aluAdds", fn := fun _ => fun
  | [d1, d2, d3] => { results := [.lit (.bool false)], args := [d1, d2, d3] }
  | _ => none }
def AluAddsWrongFalsely : Prop := aluAddsRow.holds Try.pinned (OpenSpec.ofChange aluAddsWrong)

/-- 'keepsakelaw13.AluCarries': WHATEVER THE INPUT: true; the input reads as it did. -/
def aluCarriesSpec : ChangeSpec := { name := "aluCarries", fn := fun _ => fun
  | [d1, d2, d3] => { results := [.lit (.bool true)], args := [d1, d2, d3] }
  | _ => none }
def aluCarriesRow : OpenClaim := { program := "ytdenknpjgeomhaa", sum := "16708aef8cd07dfb7a11d38843eeadf1872955bf0dbc6a6cd07feccc66f5f967", func := "keepsake/keepsakelaw13.AluCarries", spec := "aluCarries", unfollowed := true, recurses := true, apart := false }
def AluCarriesSaid : Prop := aluCarriesRow.holds Try.pinned (OpenSpec.ofChange aluCarriesSpec)

/-- ITS FALSE NEIGHBOUR: 'it returns false'. Refute it at one input. -/
def aluCarriesWrong : ChangeSpec := { name := "aluCarries", fn := fun _ => fun
  | [d1, d2, d3] => { results := [.lit (.bool false)], args := [d1, d2, d3] }
  | _ => none }
def AluCarriesWrongFalsely : Prop := aluCarriesRow.holds Try.pinned (OpenSpec.ofChange aluCarriesWrong)

/-- 'keepsakelaw13.AluTens': WHATEVER THE INPUT: true; the input reads as it did. -/
def aluTensSpec : ChangeSpec := { name := "aluTens", fn := fun _ => fun
  | [d1, d2, d3] => { results := [.lit (.bool true)], args := [d1, d2, d3] }
  | _ => none }
def aluTensRow : OpenClaim := { program := "ytdenknpjgeomhaa", sum := "16708aef8cd07dfb7a11d38843eeadf1872955bf0dbc6a6cd07feccc66f5f967", func := "keepsake/keepsakelaw13.AluTens", spec := "aluTens", unfollowed := true, recurses := true, apart := false }
def AluTensSaid : Prop := aluTensRow.holds Try.pinned (OpenSpec.ofChange aluTensSpec)

/-- ITS FALSE NEIGHBOUR: 'it returns false'. Refute it at one input. -/
def aluTensWrong : ChangeSpec := { name := "aluTens", fn := fun _ => fun
  | [d1, d2, d3] => { results := [.lit (.bool false)], args := [d1, d2, d3] }
  | _ => none }
def AluTensWrongFalsely : Prop := aluTensRow.holds Try.pinned (OpenSpec.ofChange aluTensWrong)

/-- 'keepsakelaw13.AluOrder': WHATEVER THE INPUT: true; the input reads as it did. -/
def aluOrderSpec : ChangeSpec := { name := "aluOrder", fn := fun _ => fun
  | [d1, d2, d3] => { results := [.lit (.bool true)], args := [d1, d2, d3] }
  | _ => none }
def aluOrderRow : OpenClaim := { program := "ytdenknpjgeomhaa", sum := "16708aef8cd07dfb7a11d38843eeadf1872955bf0dbc6a6cd07feccc66f5f967", func := "keepsake/keepsakelaw13.AluOrder", spec := "aluOrder", unfollowed := true, recurses := true, apart := false }
def AluOrderSaid : Prop := aluOrderRow.holds Try.pinned (OpenSpec.ofChange aluOrderSpec)

/-- ITS FALSE NEIGHBOUR: 'it returns false'. Refute it at one input. -/
def aluOrderWrong : ChangeSpec := { name := "aluOrder", fn := fun _ => fun
  | [d1, d2, d3] => { results := [.lit (.bool false)], args := [d1, d2, d3] }
  | _ => none }
def AluOrderWrongFalsely : Prop := aluOrderRow.holds Try.pinned (OpenSpec.ofChange aluOrderWrong)

/-- 'keepsakelaw13.AluTests': WHATEVER THE INPUT: true; the input reads as it did. -/
def aluTestsSpec : ChangeSpec := { name := "aluTests", fn := fun _ => fun
  | [d1, d2, d3] => { results := [.lit (.bool true)], args := [d1, d2, d3] }
  | _ => none }
def aluTestsRow : OpenClaim := { program := "ytdenknpjgeomhaa", sum := "16708aef8cd07dfb7a11d38843eeadf1872955bf0dbc6a6cd07feccc66f5f967", func := "keepsake/keepsakelaw13.AluTests", spec := "aluTests", unfollowed := true, recurses := true, apart := false }
def AluTestsSaid : Prop := aluTestsRow.holds Try.pinned (OpenSpec.ofChange aluTestsSpec)

/-- ITS FALSE NEIGHBOUR: 'it returns false'. Refute it at one input. -/
def aluTestsWrong : ChangeSpec := { name := "aluTests", fn := fun _ => fun
  | [d1, d2, d3] => { results := [.lit (.bool false)], args := [d1, d2, d3] }
  | _ => none }
def AluTestsWrongFalsely : Prop := aluTestsRow.holds Try.pinned (OpenSpec.ofChange aluTestsWrong)

/-- 'keepsakelaw13.AluFlags': WHATEVER THE INPUT: true; the input reads as it did. -/
def aluFlagsSpec : ChangeSpec := { name := "aluFlags", fn := fun _ => fun
  | [d1, d2, d3] => { results := [.lit (.bool true)], args := [d1, d2, d3] }
  | _ => none }
def aluFlagsRow : OpenClaim := { program := "ytdenknpjgeomhaa", sum := "16708aef8cd07dfb7a11d38843eeadf1872955bf0dbc6a6cd07feccc66f5f967", func := "keepsake/keepsakelaw13.AluFlags", spec := "aluFlags", unfollowed := true, recurses := true, apart := false }
def AluFlagsSaid : Prop := aluFlagsRow.holds Try.pinned (OpenSpec.ofChange aluFlagsSpec)

/-- ITS FALSE NEIGHBOUR: 'it returns false'. Refute it at one input. -/
def aluFlagsWrong : ChangeSpec := { name := "aluFlags", fn := fun _ => fun
  | [d1, d2, d3] => { results := [.lit (.bool false)], args := [d1, d2, d3] }
  | _ => none }
def AluFlagsWrongFalsely : Prop := aluFlagsRow.holds Try.pinned (OpenSpec.ofChange aluFlagsWrong)

/- THE SECOND FORM. 'bulk': how many values and letters a reading holds, each counted each time it is reached (what is shared counts as often as it is met; a slice's spare places count too). A statement '..UptoSaid' is the law's where the arguments, and the package variables that the reading takes, are together of bulk at most 1048576: NARROWER than '..Said'. Prove '..Said' where nothing that the law and all that it calls make is longer than what came in: it says more and counts as full. Else prove '..UptoSaid'. A law counts once. -/
mutual
def uptoBulk {H : Type} : DataW H → Nat
  | .lit (.string bytes) => bytes.length + 1
  | .lit _ => 1
  | .nil => 1
  | .ptr d => uptoBulk d + 1
  | .slice elems spare => uptoBulkAll elems + uptoBulkAll spare + 1
  | .agg parts => uptoBulkAll parts + 1
  | .iface _ d => uptoBulk d + 1
  | .map entries => uptoBulkEntries entries + 1
  | .held _ => 1
def uptoBulkAll {H : Type} : List (DataW H) → Nat
  | [] => 0
  | d :: r => uptoBulk d + uptoBulkAll r
def uptoBulkEntries {H : Type} : List (Lit × DataW H) → Nat
  | [] => 0
  | x :: r => uptoBulkEntry x + uptoBulkEntries r
def uptoBulkEntry {H : Type} : Lit × DataW H → Nat
  | (.string bytes, d) => bytes.length + uptoBulk d + 1
  | (_, d) => uptoBulk d + 1
 end
def uptoSmall : (H : Type) → List (DataW H) → Bool := fun _ ds => decide (uptoBulkAll ds ≤ 1048576)
def OpenSpec.upto (s : _root_.Go.ChangeSpec) : _root_.Go.OpenSpec := { _root_.Go.OpenSpec.ofChange s with cond := some uptoSmall }

/-- 'keepsakelaw13.AluShifts', WHERE WHAT IT READS IS OF BULK AT MOST 1048576: true; the input reads as it did. -/
def aluShiftsUptoRow : OpenClaim := { program := "ytdenknpjgeomhaa", sum := "16708aef8cd07dfb7a11d38843eeadf1872955bf0dbc6a6cd07feccc66f5f967", func := "keepsake/keepsakelaw13.AluShifts", spec := "aluShifts", unfollowed := true, recurses := true, apart := false, narrowed := true }
def AluShiftsUptoSaid : Prop := aluShiftsUptoRow.holds Try.pinned (OpenSpec.upto aluShiftsSpec)

/-- 'keepsakelaw13.AluBack', WHERE WHAT IT READS IS OF BULK AT MOST 1048576: true; the input reads as it did. -/
def aluBackUptoRow : OpenClaim := { program := "ytdenknpjgeomhaa", sum := "16708aef8cd07dfb7a11d38843eeadf1872955bf0dbc6a6cd07feccc66f5f967", func := "keepsake/keepsakelaw13.AluBack", spec := "aluBack", unfollowed := true, recurses := true, apart := false, narrowed := true }
def AluBackUptoSaid : Prop := aluBackUptoRow.holds Try.pinned (OpenSpec.upto aluBackSpec)

/-- 'keepsakelaw13.AluAdds', WHERE WHAT IT READS IS OF BULK AT MOST 1048576: true; the input reads as it did. -/
def aluAddsUptoRow : OpenClaim := { program := "ytdenknpjgeomhaa", sum := "16708aef8cd07dfb7a11d38843eeadf1872955bf0dbc6a6cd07feccc66f5f967", func := "keepsake/keepsakelaw13.AluAdds", spec := "aluAdds", unfollowed := true, recurses := true, apart := false, narrowed := true }
def AluAddsUptoSaid : Prop := aluAddsUptoRow.holds Try.pinned (OpenSpec.upto aluAddsSpec)

/-- 'keepsakelaw13.AluCarries', WHERE WHAT IT READS IS OF BULK AT MOST 1048576: true; the input reads as it did. -/
def aluCarriesUptoRow : OpenClaim := { program := "ytdenknpjgeomhaa", sum := "16708aef8cd07dfb7a11d38843eeadf1872955bf0dbc6a6cd07feccc66f5f967", func := "keepsake/keepsakelaw13.AluCarries", spec := "aluCarries", unfollowed := true, recurses := true, apart := false, narrowed := true }
def AluCarriesUptoSaid : Prop := aluCarriesUptoRow.holds Try.pinned (OpenSpec.upto aluCarriesSpec)

/-- 'keepsakelaw13.AluTens', WHERE WHAT IT READS IS OF BULK AT MOST 1048576: true; the input reads as it did. -/
def aluTensUptoRow : OpenClaim := { program := "ytdenknpjgeomhaa", sum := "16708aef8cd07dfb7a11d38843eeadf1872955bf0dbc6a6cd07feccc66f5f967", func := "keepsake/keepsakelaw13.AluTens", spec := "aluTens", unfollowed := true, recurses := true, apart := false, narrowed := true }
def AluTensUptoSaid : Prop := aluTensUptoRow.holds Try.pinned (OpenSpec.upto aluTensSpec)

/-- 'keepsakelaw13.AluOrder', WHERE WHAT IT READS IS OF BULK AT MOST 1048576: true; the input reads as it did. -/
def aluOrderUptoRow : OpenClaim := { program := "ytdenknpjgeomhaa", sum := "16708aef8cd07dfb7a11d38843eeadf1872955bf0dbc6a6cd07feccc66f5f967", func := "keepsake/keepsakelaw13.AluOrder", spec := "aluOrder", unfollowed := true, recurses := true, apart := false, narrowed := true }
def AluOrderUptoSaid : Prop := aluOrderUptoRow.holds Try.pinned (OpenSpec.upto aluOrderSpec)

/-- 'keepsakelaw13.AluTests', WHERE WHAT IT READS IS OF BULK AT MOST 1048576: true; the input reads as it did. -/
def aluTestsUptoRow : OpenClaim := { program := "ytdenknpjgeomhaa", sum := "16708aef8cd07dfb7a11d38843eeadf1872955bf0dbc6a6cd07feccc66f5f967", func := "keepsake/keepsakelaw13.AluTests", spec := "aluTests", unfollowed := true, recurses := true, apart := false, narrowed := true }
def AluTestsUptoSaid : Prop := aluTestsUptoRow.holds Try.pinned (OpenSpec.upto aluTestsSpec)

/-- 'keepsakelaw13.AluFlags', WHERE WHAT IT READS IS OF BULK AT MOST 1048576: true; the input reads as it did. -/
def aluFlagsUptoRow : OpenClaim := { program := "ytdenknpjgeomhaa", sum := "16708aef8cd07dfb7a11d38843eeadf1872955bf0dbc6a6cd07feccc66f5f967", func := "keepsake/keepsakelaw13.AluFlags", spec := "aluFlags", unfollowed := true, recurses := true, apart := false, narrowed := true }
def AluFlagsUptoSaid : Prop := aluFlagsUptoRow.holds Try.pinned (OpenSpec.upto aluFlagsSpec)

end Rows
end Go.Proofs.Ytdenknpjgeomhaa

/-
  No cell of these rows narrows 'for every input' (looked for: loops, veiled, ifaces, maps, wideKeys, modest, calm, conditions, laid).
  DERIVED. THE GIVEN ROWS OF THIS SEAT. 5 by the template 'for every input the law returns true; each argument reads behind the call as it read before'; 0 by the template 'total and deterministic' (their statements: YtiljmdchogaaoaaTotals.lean).
  GIVEN WITH THE SEED: the statements are not yours to turn. If you find one false, say at which input.
  Laid BY PROGRAM, IN A SANDBOX (cutbox-rows.mjs): the forced cells as the released guide's own fill.sh prints them over the translation 194d4719f8ae4a3d… (all of the seat's roots in one cut). By AI agents, Wed Nov 11 2026. No macro, syntax, notation, axiom, sorry.
-/
import Derived.Test.YtiljmdchogaaoaaChecked
import GoSem.Claim
import GoSem.ClaimJoined
import GoSem.ClaimMapViews
import Derived.JoinedTies
import Derived.KernelRfl
namespace Go.Proofs.Ytiljmdchogaaoaa
/- THE CELL 'sum', in the pinned program and in every row, IS THE sha256 OF THE DUMP (.gsa) THAT YtiljmdchogaaoaaProg.lean LOADS. Nothing in Lean hashes anything: it is a label: what it is worth is what the hold of that sum in a sandbox is worth. -/
noncomputable def Try.pinned : Pinned := { name := "ytiljmdchogaaoaa", sum := "194d4719f8ae4a3dd0d89bb7ca85c67a3c73c6c314f9518ad78447da6ef8e4e9", checked := Try.checked }
namespace Rows
def none {H : Type} : Left H := { results := [], args := [] }

/-- 'keepsakelaw16.AddrWords': WHATEVER THE INPUT: true; the input reads as it did. -/
def addrWordsSpec : ChangeSpec := { name := "addrWords", fn := fun _ => fun
  | [d] => { results := [.lit (.bool true)], args := [d] }
  | _ => none }
def addrWordsRow : OpenClaim := { program := "ytiljmdchogaaoaa", sum := "194d4719f8ae4a3dd0d89bb7ca85c67a3c73c6c314f9518ad78447da6ef8e4e9", func := "keepsake/keepsakelaw16.AddrWords", spec := "addrWords", apart := false }
def AddrWordsSaid : Prop := addrWordsRow.holds Try.pinned (OpenSpec.ofChange addrWordsSpec)

/-- ITS FALSE NEIGHBOUR: 'it returns false'. Refute it at one input. -/
def addrWordsWrong : ChangeSpec := { name := "addrWords", fn := fun _ => fun
  | [d] => { results := [.lit (.bool false)], args := [d] }
  | _ => none }
def AddrWordsWrongFalsely : Prop := addrWordsRow.holds Try.pinned (OpenSpec.ofChange addrWordsWrong)

/-- 'keepsakelaw16.AddrPages': WHATEVER THE INPUT: true; the input reads as it did. -/
def addrPagesSpec : ChangeSpec := { name := "addrPages", fn := fun _ => fun
  | [d1, d2] => { results := [.lit (.bool true)], args := [d1, d2] }
  | _ => none }
def addrPagesRow : OpenClaim := { program := "ytiljmdchogaaoaa", sum := "194d4719f8ae4a3dd0d89bb7ca85c67a3c73c6c314f9518ad78447da6ef8e4e9", func := "keepsake/keepsakelaw16.AddrPages", spec := "addrPages", apart := false }
def AddrPagesSaid : Prop := addrPagesRow.holds Try.pinned (OpenSpec.ofChange addrPagesSpec)

/-- ITS FALSE NEIGHBOUR: 'it returns false'. Refute it at one input. -/
def addrPagesWrong : ChangeSpec := { name := "addrPages", fn := fun _ => fun
  | [d1, d2] => { results := [.lit (.bool false)], args := [d1, d2] }
  | _ => none }
def AddrPagesWrongFalsely : Prop := addrPagesRow.holds Try.pinned (OpenSpec.ofChange addrPagesWrong)

/-- 'keepsakelaw16.AddrFar': WHATEVER THE INPUT: true; the input reads as it did. -/
def addrFarSpec : ChangeSpec := { name := "addrFar", fn := fun _ => fun
  | [d1, d2] => { results := [.lit (.bool true)], args := [d1, d2] }
  | _ => none }
def addrFarRow : OpenClaim := { program := "ytiljmdchogaaoaa", sum := "194d4719f8ae4a3dd0d89bb7ca85c67a3c73c6c314f9518ad78447da6ef8e4e9", func := "keepsake/keepsakelaw16.AddrFar", spec := "addrFar", apart := false }
def AddrFarSaid : Prop := addrFarRow.holds Try.pinned (OpenSpec.ofChange addrFarSpec)

/-- ITS FALSE NEIGHBOUR: 'it returns false'. Refute it at one input. -/
def addrFarWrong : ChangeSpec := { name := "addrFar", fn := fun _ => fun
  | [d1, d2] => { results := [.lit (.bool false)], args := [d1, d2] }
  | _ => none }
def AddrFarWrongFalsely : Prop := addrFarRow.holds Try.pinned (OpenSpec.ofChange addrFarWrong)

/-- 'keepsakelaw16.AddrRough': WHATEVER THE INPUT: true; the input reads as it did. -/
def addrRoughSpec : ChangeSpec := { name := "addrRough", fn := fun _ => fun
  | [d1, d2] => { results := [.lit (.bool true)], args := [d1, d2] }
  | _ => none }
def addrRoughRow : OpenClaim := { program := "ytiljmdchogaaoaa", sum := "194d4719f8ae4a3dd0d89bb7ca85c67a3c73c6c314f9518ad78447da6ef8e4e9", func := "keepsake/keepsakelaw16.AddrRough", spec := "addrRough", apart := false }
def AddrRoughSaid : Prop := addrRoughRow.holds Try.pinned (OpenSpec.ofChange addrRoughSpec)

/-- ITS FALSE NEIGHBOUR: 'it returns false'. Refute it at one input. -/
def addrRoughWrong : ChangeSpec := { name := "addrRough", fn := fun _ => fun
  | [d1, d2] => { results := [.lit (.bool false)], args := [d1, d2] }
  | _ => none }
def AddrRoughWrongFalsely : Prop := addrRoughRow.holds Try.pinned (OpenSpec.ofChange addrRoughWrong)

/-- 'keepsakelaw16.AddrTells': WHATEVER THE INPUT: true; the input reads as it did. -/
def addrTellsSpec : ChangeSpec := { name := "addrTells", fn := fun _ => fun
  | [d1, d2, d3] => { results := [.lit (.bool true)], args := [d1, d2, d3] }
  | _ => none }
def addrTellsRow : OpenClaim := { program := "ytiljmdchogaaoaa", sum := "194d4719f8ae4a3dd0d89bb7ca85c67a3c73c6c314f9518ad78447da6ef8e4e9", func := "keepsake/keepsakelaw16.AddrTells", spec := "addrTells", apart := false }
def AddrTellsSaid : Prop := addrTellsRow.holds Try.pinned (OpenSpec.ofChange addrTellsSpec)

/-- ITS FALSE NEIGHBOUR: 'it returns false'. Refute it at one input. -/
def addrTellsWrong : ChangeSpec := { name := "addrTells", fn := fun _ => fun
  | [d1, d2, d3] => { results := [.lit (.bool false)], args := [d1, d2, d3] }
  | _ => none }
def AddrTellsWrongFalsely : Prop := addrTellsRow.holds Try.pinned (OpenSpec.ofChange addrTellsWrong)

/- THE SECOND FORM. 'bulk': how many values and letters a reading holds, each counted each time it is reached (what is shared counts as often as it is met; a slice's spare places count too). A statement '..UptoSaid' is the law's where the arguments, and the package variables that the reading takes, are together of bulk at most 1048576: NARROWER than '..Said'. Prove '..Said' where nothing that the law and all that it calls make is longer than what came in: it says more and counts as full. Else prove '..UptoSaid'. A law counts once. -/
mutual
def uptoBulk {H : Type} : DataW H → Nat
  | .lit (.string bytes) => bytes.length + 1
  | .lit _ => 1
  | .nil => 1
  | .ptr d => uptoBulk d + 1
  | .slice elems spare => uptoBulkAll elems + uptoBulkAll spare + 1
  | .agg parts => uptoBulkAll parts + 1
  | .iface _ d => uptoBulk d + 1
  | .map entries => uptoBulkEntries entries + 1
  | .held _ => 1
def uptoBulkAll {H : Type} : List (DataW H) → Nat
  | [] => 0
  | d :: r => uptoBulk d + uptoBulkAll r
def uptoBulkEntries {H : Type} : List (Lit × DataW H) → Nat
  | [] => 0
  | x :: r => uptoBulkEntry x + uptoBulkEntries r
def uptoBulkEntry {H : Type} : Lit × DataW H → Nat
  | (.string bytes, d) => bytes.length + uptoBulk d + 1
  | (_, d) => uptoBulk d + 1
 end
def uptoSmall : (H : Type) → List (DataW H) → Bool := fun _ ds => decide (uptoBulkAll ds ≤ 1048576)
def OpenSpec.upto (s : _root_.Go.ChangeSpec) : _root_.Go.OpenSpec := { _root_.Go.OpenSpec.ofChange s with cond := some uptoSmall }

/-- 'keepsakelaw16.AddrWords', WHERE WHAT IT READS IS OF BULK AT MOST 1048576: true; the input reads as it did. -/
def addrWordsUptoRow : OpenClaim := { program := "ytiljmdchogaaoaa", sum := "194d4719f8ae4a3dd0d89bb7ca85c67a3c73c6c314f9518ad78447da6ef8e4e9", func := "keepsake/keepsakelaw16.AddrWords", spec := "addrWords", apart := false, narrowed := true }
def AddrWordsUptoSaid : Prop := addrWordsUptoRow.holds Try.pinned (OpenSpec.upto addrWordsSpec)

/-- 'keepsakelaw16.AddrPages', WHERE WHAT IT READS IS OF BULK AT MOST 1048576: true; the input reads as it did. -/
def addrPagesUptoRow : OpenClaim := { program := "ytiljmdchogaaoaa", sum := "194d4719f8ae4a3dd0d89bb7ca85c67a3c73c6c314f9518ad78447da6ef8e4e9", func := "keepsake/keepsakelaw16.AddrPages", spec := "addrPages", apart := false, narrowed := true }
def AddrPagesUptoSaid : Prop := addrPagesUptoRow.holds Try.pinned (OpenSpec.upto addrPagesSpec)

/-- 'keepsakelaw16.AddrFar', WHERE WHAT IT READS IS OF BULK AT MOST 1048576: true; the input reads as it did. -/
def addrFarUptoRow : OpenClaim := { program := "ytiljmdchogaaoaa", sum := "194d4719f8ae4a3dd0d89bb7ca85c67a3c73c6c314f9518ad78447da6ef8e4e9", func := "keepsake/keepsakelaw16.AddrFar", spec := "addrFar", apart := false, narrowed := true }
def AddrFarUptoSaid : Prop := addrFarUptoRow.holds Try.pinned (OpenSpec.upto addrFarSpec)

/-- 'keepsakelaw16.AddrRough', WHERE WHAT IT READS IS OF BULK AT MOST 1048576: true; the input reads as it did. -/
def addrRoughUptoRow : OpenClaim := { program := "ytiljmdchogaaoaa", sum := "194d4719f8ae4a3dd0d89bb7ca85c67a3c73c6c314f9518ad78447da6ef8e4e9", func := "keepsake/keepsakelaw16.AddrRough", spec := "addrRough", apart := false, narrowed := true }
def AddrRoughUptoSaid : Prop := addrRoughUptoRow.holds Try.pinned (OpenSpec.upto addrRoughSpec)

/-- 'keepsakelaw16.AddrTells', WHERE WHAT IT READS IS OF BULK AT MOST 1048576: true; the input reads as it did. -/
def addrTellsUptoRow : OpenClaim := { program := "ytiljmdchogaaoaa", sum := "194d4719f8ae4a3dd0d89bb7ca85c67a3c73c6c314f9518ad78447da6ef8e4e9", func := "keepsake/keepsakelaw16.AddrTells", spec := "addrTells", apart := false, narrowed := true }
def AddrTellsUptoSaid : Prop := addrTellsUptoRow.holds Try.pinned (OpenSpec.upto addrTellsSpec)

end Rows
end Go.Proofs.Ytiljmdchogaaoaa

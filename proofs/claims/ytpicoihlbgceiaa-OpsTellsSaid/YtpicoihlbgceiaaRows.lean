/-
  No cell of these rows narrows 'for every input' (looked for: loops, veiled, ifaces, maps, wideKeys, modest, calm, conditions, laid).
  DERIVED. THE GIVEN ROWS OF THIS SEAT. 6 by the template 'for every input the law returns true; each argument reads behind the call as it read before'; 0 by the template 'total and deterministic' (their statements: YtpicoihlbgceiaaTotals.lean).
  GIVEN WITH THE SEED: the statements are not yours to turn. If you find one false, say at which input.
  Laid BY PROGRAM, IN A SANDBOX (cutbox-rows.mjs): the forced cells as the released guide's own fill.sh prints them over the translation f4d51f7e592723e5… (all of the seat's roots in one cut). By AI agents, Wed Nov 11 2026. No macro, syntax, notation, axiom, sorry.
-/
import Derived.Test.YtpicoihlbgceiaaChecked
import GoSem.Claim
import GoSem.ClaimJoined
import GoSem.ClaimMapViews
import Derived.JoinedTies
import Derived.KernelRfl
namespace Go.Proofs.Ytpicoihlbgceiaa
/- THE CELL 'sum', in the pinned program and in every row, IS THE sha256 OF THE DUMP (.gsa) THAT YtpicoihlbgceiaaProg.lean LOADS. Nothing in Lean hashes anything: it is a label: what it is worth is what the hold of that sum in a sandbox is worth. -/
noncomputable def Try.pinned : Pinned := { name := "ytpicoihlbgceiaa", sum := "f4d51f7e592723e53d687c1c48a1072c8a2889a8a42d8aaeb27ec4298a593797", checked := Try.checked }
namespace Rows
def none {H : Type} : Left H := { results := [], args := [] }

/-- 'keepsakelaw14.OpsTells': WHATEVER THE INPUT: true; the input reads as it did. -/
def opsTellsSpec : ChangeSpec := { name := "opsTells", fn := fun _ => fun
  | [d1, d2] => { results := [.lit (.bool true)], args := [d1, d2] }
  | _ => none }
def opsTellsRow : OpenClaim := { program := "ytpicoihlbgceiaa", sum := "f4d51f7e592723e53d687c1c48a1072c8a2889a8a42d8aaeb27ec4298a593797", func := "keepsake/keepsakelaw14.OpsTells", spec := "opsTells", inPlace := ["internal/bytealg.IndexByteString", "internal/bytealg.IndexString"], named := ["internal/bytealg.MaxLen"], apart := false }
def OpsTellsSaid : Prop := opsTellsRow.holds Try.pinned (OpenSpec.ofChange opsTellsSpec)

/-- ITS FALSE NEIGHBOUR: 'it returns false'. Refute it at one input. -/
def opsTellsWrong : ChangeSpec := { name := "opsTells", fn := fun _ => fun
  | [d1, d2] => { results := [.lit (.bool false)], args := [d1, d2] }
  | _ => none }
def OpsTellsWrongFalsely : Prop := opsTellsRow.holds Try.pinned (OpenSpec.ofChange opsTellsWrong)

/-- 'keepsakelaw14.OpsNames': WHATEVER THE INPUT: true; the input reads as it did. -/
def opsNamesSpec : ChangeSpec := { name := "opsNames", fn := fun _ => fun
  | [d1, d2, d3] => { results := [.lit (.bool true)], args := [d1, d2, d3] }
  | _ => none }
def opsNamesRow : OpenClaim := { program := "ytpicoihlbgceiaa", sum := "f4d51f7e592723e53d687c1c48a1072c8a2889a8a42d8aaeb27ec4298a593797", func := "keepsake/keepsakelaw14.OpsNames", spec := "opsNames", inPlace := ["internal/bytealg.IndexByteString", "internal/bytealg.IndexString"], named := ["internal/bytealg.MaxLen"], apart := false }
def OpsNamesSaid : Prop := opsNamesRow.holds Try.pinned (OpenSpec.ofChange opsNamesSpec)

/-- ITS FALSE NEIGHBOUR: 'it returns false'. Refute it at one input. -/
def opsNamesWrong : ChangeSpec := { name := "opsNames", fn := fun _ => fun
  | [d1, d2, d3] => { results := [.lit (.bool false)], args := [d1, d2, d3] }
  | _ => none }
def OpsNamesWrongFalsely : Prop := opsNamesRow.holds Try.pinned (OpenSpec.ofChange opsNamesWrong)

/-- 'keepsakelaw14.OpsOnce': WHATEVER THE INPUT: true; the input reads as it did. -/
def opsOnceSpec : ChangeSpec := { name := "opsOnce", fn := fun _ => fun
  | [d1, d2] => { results := [.lit (.bool true)], args := [d1, d2] }
  | _ => none }
def opsOnceRow : OpenClaim := { program := "ytpicoihlbgceiaa", sum := "f4d51f7e592723e53d687c1c48a1072c8a2889a8a42d8aaeb27ec4298a593797", func := "keepsake/keepsakelaw14.OpsOnce", spec := "opsOnce", inPlace := ["internal/bytealg.IndexByteString", "internal/bytealg.IndexString"], named := ["internal/bytealg.MaxLen"], apart := false }
def OpsOnceSaid : Prop := opsOnceRow.holds Try.pinned (OpenSpec.ofChange opsOnceSpec)

/-- ITS FALSE NEIGHBOUR: 'it returns false'. Refute it at one input. -/
def opsOnceWrong : ChangeSpec := { name := "opsOnce", fn := fun _ => fun
  | [d1, d2] => { results := [.lit (.bool false)], args := [d1, d2] }
  | _ => none }
def OpsOnceWrongFalsely : Prop := opsOnceRow.holds Try.pinned (OpenSpec.ofChange opsOnceWrong)

/-- 'keepsakelaw14.OpsColumns': WHATEVER THE INPUT: true; the input reads as it did. -/
def opsColumnsSpec : ChangeSpec := { name := "opsColumns", fn := fun _ => fun
  | [d1, d2] => { results := [.lit (.bool true)], args := [d1, d2] }
  | _ => none }
def opsColumnsRow : OpenClaim := { program := "ytpicoihlbgceiaa", sum := "f4d51f7e592723e53d687c1c48a1072c8a2889a8a42d8aaeb27ec4298a593797", func := "keepsake/keepsakelaw14.OpsColumns", spec := "opsColumns", inPlace := ["internal/bytealg.IndexByteString", "internal/bytealg.IndexString"], named := ["internal/bytealg.MaxLen"], apart := false }
def OpsColumnsSaid : Prop := opsColumnsRow.holds Try.pinned (OpenSpec.ofChange opsColumnsSpec)

/-- ITS FALSE NEIGHBOUR: 'it returns false'. Refute it at one input. -/
def opsColumnsWrong : ChangeSpec := { name := "opsColumns", fn := fun _ => fun
  | [d1, d2] => { results := [.lit (.bool false)], args := [d1, d2] }
  | _ => none }
def OpsColumnsWrongFalsely : Prop := opsColumnsRow.holds Try.pinned (OpenSpec.ofChange opsColumnsWrong)

/-- 'keepsakelaw14.OpsKinds': WHATEVER THE INPUT: true; the input reads as it did. -/
def opsKindsSpec : ChangeSpec := { name := "opsKinds", fn := fun _ => fun
  | [d] => { results := [.lit (.bool true)], args := [d] }
  | _ => none }
def opsKindsRow : OpenClaim := { program := "ytpicoihlbgceiaa", sum := "f4d51f7e592723e53d687c1c48a1072c8a2889a8a42d8aaeb27ec4298a593797", func := "keepsake/keepsakelaw14.OpsKinds", spec := "opsKinds", inPlace := ["internal/bytealg.IndexByteString", "internal/bytealg.IndexString"], named := ["internal/bytealg.MaxLen"], apart := false }
def OpsKindsSaid : Prop := opsKindsRow.holds Try.pinned (OpenSpec.ofChange opsKindsSpec)

/-- ITS FALSE NEIGHBOUR: 'it returns false'. Refute it at one input. -/
def opsKindsWrong : ChangeSpec := { name := "opsKinds", fn := fun _ => fun
  | [d] => { results := [.lit (.bool false)], args := [d] }
  | _ => none }
def OpsKindsWrongFalsely : Prop := opsKindsRow.holds Try.pinned (OpenSpec.ofChange opsKindsWrong)

/-- 'keepsakelaw14.OpsHidden': WHATEVER THE INPUT: true; the input reads as it did. -/
def opsHiddenSpec : ChangeSpec := { name := "opsHidden", fn := fun _ => fun
  | [d] => { results := [.lit (.bool true)], args := [d] }
  | _ => none }
def opsHiddenRow : OpenClaim := { program := "ytpicoihlbgceiaa", sum := "f4d51f7e592723e53d687c1c48a1072c8a2889a8a42d8aaeb27ec4298a593797", func := "keepsake/keepsakelaw14.OpsHidden", spec := "opsHidden", inPlace := ["internal/bytealg.IndexByteString", "internal/bytealg.IndexString"], named := ["internal/bytealg.MaxLen"], apart := false }
def OpsHiddenSaid : Prop := opsHiddenRow.holds Try.pinned (OpenSpec.ofChange opsHiddenSpec)

/-- ITS FALSE NEIGHBOUR: 'it returns false'. Refute it at one input. -/
def opsHiddenWrong : ChangeSpec := { name := "opsHidden", fn := fun _ => fun
  | [d] => { results := [.lit (.bool false)], args := [d] }
  | _ => none }
def OpsHiddenWrongFalsely : Prop := opsHiddenRow.holds Try.pinned (OpenSpec.ofChange opsHiddenWrong)

/- THE SECOND FORM. 'bulk': how many values and letters a reading holds, each counted each time it is reached (what is shared counts as often as it is met; a slice's spare places count too). A statement '..UptoSaid' is the law's where the arguments, and the package variables that the reading takes, are together of bulk at most 1048576: NARROWER than '..Said'. Prove '..Said' where nothing that the law and all that it calls make is longer than what came in: it says more and counts as full. Else prove '..UptoSaid'. A law counts once. -/
mutual
def uptoBulk {H : Type} : DataW H → Nat
  | .lit (.string bytes) => bytes.length + 1
  | .lit _ => 1
  | .nil => 1
  | .ptr d => uptoBulk d + 1
  | .slice elems spare => uptoBulkAll elems + uptoBulkAll spare + 1
  | .agg parts => uptoBulkAll parts + 1
  | .iface _ d => uptoBulk d + 1
  | .map entries => uptoBulkEntries entries + 1
  | .held _ => 1
def uptoBulkAll {H : Type} : List (DataW H) → Nat
  | [] => 0
  | d :: r => uptoBulk d + uptoBulkAll r
def uptoBulkEntries {H : Type} : List (Lit × DataW H) → Nat
  | [] => 0
  | x :: r => uptoBulkEntry x + uptoBulkEntries r
def uptoBulkEntry {H : Type} : Lit × DataW H → Nat
  | (.string bytes, d) => bytes.length + uptoBulk d + 1
  | (_, d) => uptoBulk d + 1
 end
def uptoSmall : (H : Type) → List (DataW H) → Bool := fun _ ds => decide (uptoBulkAll ds ≤ 1048576)
def OpenSpec.upto (s : _root_.Go.ChangeSpec) : _root_.Go.OpenSpec := { _root_.Go.OpenSpec.ofChange s with cond := some uptoSmall }

/-- 'keepsakelaw14.OpsTells', WHERE WHAT IT READS IS OF BULK AT MOST 1048576: true; the input reads as it did. -/
def opsTellsUptoRow : OpenClaim := { program := "ytpicoihlbgceiaa", sum := "f4d51f7e592723e53d687c1c48a1072c8a2889a8a42d8aaeb27ec4298a593797", func := "keepsake/keepsakelaw14.OpsTells", spec := "opsTells", inPlace := ["internal/bytealg.IndexByteString", "internal/bytealg.IndexString"], named := ["internal/bytealg.MaxLen"], apart := false, narrowed := true }
def OpsTellsUptoSaid : Prop := opsTellsUptoRow.holds Try.pinned (OpenSpec.upto opsTellsSpec)

/-- 'keepsakelaw14.OpsNames', WHERE WHAT IT READS IS OF BULK AT MOST 1048576: true; the input reads as it did. -/
def opsNamesUptoRow : OpenClaim := { program := "ytpicoihlbgceiaa", sum := "f4d51f7e592723e53d687c1c48a1072c8a2889a8a42d8aaeb27ec4298a593797", func := "keepsake/keepsakelaw14.OpsNames", spec := "opsNames", inPlace := ["internal/bytealg.IndexByteString", "internal/bytealg.IndexString"], named := ["internal/bytealg.MaxLen"], apart := false, narrowed := true }
def OpsNamesUptoSaid : Prop := opsNamesUptoRow.holds Try.pinned (OpenSpec.upto opsNamesSpec)

/-- 'keepsakelaw14.OpsOnce', WHERE WHAT IT READS IS OF BULK AT MOST 1048576: true; the input reads as it did. -/
def opsOnceUptoRow : OpenClaim := { program := "ytpicoihlbgceiaa", sum := "f4d51f7e592723e53d687c1c48a1072c8a2889a8a42d8aaeb27ec4298a593797", func := "keepsake/keepsakelaw14.OpsOnce", spec := "opsOnce", inPlace := ["internal/bytealg.IndexByteString", "internal/bytealg.IndexString"], named := ["internal/bytealg.MaxLen"], apart := false, narrowed := true }
def OpsOnceUptoSaid : Prop := opsOnceUptoRow.holds Try.pinned (OpenSpec.upto opsOnceSpec)

/-- 'keepsakelaw14.OpsColumns', WHERE WHAT IT READS IS OF BULK AT MOST 1048576: true; the input reads as it did. -/
def opsColumnsUptoRow : OpenClaim := { program := "ytpicoihlbgceiaa", sum := "f4d51f7e592723e53d687c1c48a1072c8a2889a8a42d8aaeb27ec4298a593797", func := "keepsake/keepsakelaw14.OpsColumns", spec := "opsColumns", inPlace := ["internal/bytealg.IndexByteString", "internal/bytealg.IndexString"], named := ["internal/bytealg.MaxLen"], apart := false, narrowed := true }
def OpsColumnsUptoSaid : Prop := opsColumnsUptoRow.holds Try.pinned (OpenSpec.upto opsColumnsSpec)

/-- 'keepsakelaw14.OpsKinds', WHERE WHAT IT READS IS OF BULK AT MOST 1048576: true; the input reads as it did. -/
def opsKindsUptoRow : OpenClaim := { program := "ytpicoihlbgceiaa", sum := "f4d51f7e592723e53d687c1c48a1072c8a2889a8a42d8aaeb27ec4298a593797", func := "keepsake/keepsakelaw14.OpsKinds", spec := "opsKinds", inPlace := ["internal/bytealg.IndexByteString", "internal/bytealg.IndexString"], named := ["internal/bytealg.MaxLen"], apart := false, narrowed := true }
def OpsKindsUptoSaid : Prop := opsKindsUptoRow.holds Try.pinned (OpenSpec.upto opsKindsSpec)

/-- 'keepsakelaw14.OpsHidden', WHERE WHAT IT READS IS OF BULK AT MOST 1048576: true; the input reads as it did. -/
def opsHiddenUptoRow : OpenClaim := { program := "ytpicoihlbgceiaa", sum := "f4d51f7e592723e53d687c1c48a1072c8a2889a8a42d8aaeb27ec4298a593797", func := "keepsake/keepsakelaw14.OpsHidden", spec := "opsHidden", inPlace := ["internal/bytealg.IndexByteString", "internal/bytealg.IndexString"], named := ["internal/bytealg.MaxLen"], apart := false, narrowed := true }
def OpsHiddenUptoSaid : Prop := opsHiddenUptoRow.holds Try.pinned (OpenSpec.upto opsHiddenSpec)

end Rows
end Go.Proofs.Ytpicoihlbgceiaa

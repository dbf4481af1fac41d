/-
  No cell of these rows narrows 'for every input' (looked for: loops, veiled, ifaces, maps, wideKeys, modest, calm, conditions, laid).
  DERIVED. THE GIVEN ROWS OF THIS SEAT. 7 by the template 'for every input the law returns true; each argument reads behind the call as it read before'; 0 by the template 'total and deterministic' (their statements: YtillaipaanancaaGreatTotals.lean).
  GIVEN WITH THE SEED: the statements are not yours to turn. If you find one false, say at which input.
  Laid BY PROGRAM, IN A SANDBOX (cutbox-rows.mjs): the forced cells as the released guide's own fill.sh prints them over the translation b623218bed6c7fcb… (all of the seat's roots in one cut). By AI agents, Wed Nov 11 2026. No macro, syntax, notation, axiom, sorry.
-/
import Derived.Test.YtillaipaanancaaGreatChecked
import GoSem.Claim
import GoSem.ClaimJoined
import GoSem.ClaimMapViews
import Derived.JoinedTies
import Derived.KernelRfl
namespace Go.Proofs.YtillaipaanancaaGreat
/- THE CELL 'sum', in the pinned program and in every row, IS THE sha256 OF THE DUMP (.gsa) THAT YtillaipaanancaaGreatProg.lean LOADS. Nothing in Lean hashes anything: it is a label: what it is worth is what the hold of that sum in a sandbox is worth. -/
noncomputable def Tryz.pinned : Pinned := { name := "ytillaipaanancaagreat", sum := "b623218bed6c7fcbb986b33e45e2cef67f48787843544cab04aa18fdfd192c46", checked := Tryz.checked }
namespace Rows
def none {H : Type} : Left H := { results := [], args := [] }

/-- 'galoislaw18.DiscretelogLogs': WHATEVER THE INPUT: true; the input reads as it did. -/
def discretelogLogsSpec : ChangeSpec := { name := "discretelogLogs", fn := fun _ => fun
  | [d1, d2] => { results := [.lit (.bool true)], args := [d1, d2] }
  | _ => none }
def discretelogLogsRow : OpenClaim := { program := "ytillaipaanancaagreat", sum := "b623218bed6c7fcbb986b33e45e2cef67f48787843544cab04aa18fdfd192c46", func := "galois/galoislaw18.DiscretelogLogs", spec := "discretelogLogs", unfollowed := true, recurses := true, apart := false }
def DiscretelogLogsSaid : Prop := discretelogLogsRow.holds Tryz.pinned (OpenSpec.ofChange discretelogLogsSpec)

/-- ITS FALSE NEIGHBOUR: 'it returns false'. Refute it at one input. -/
def discretelogLogsWrong : ChangeSpec := { name := "discretelogLogs", fn := fun _ => fun
  | [d1, d2] => { results := [.lit (.bool false)], args := [d1, d2] }
  | _ => none }
def DiscretelogLogsWrongFalsely : Prop := discretelogLogsRow.holds Tryz.pinned (OpenSpec.ofChange discretelogLogsWrong)

/-- 'galoislaw18.DiscretelogRoots': WHATEVER THE INPUT: true; the input reads as it did. -/
def discretelogRootsSpec : ChangeSpec := { name := "discretelogRoots", fn := fun _ => fun
  | [d1, d2, d3] => { results := [.lit (.bool true)], args := [d1, d2, d3] }
  | _ => none }
def discretelogRootsRow : OpenClaim := { program := "ytillaipaanancaagreat", sum := "b623218bed6c7fcbb986b33e45e2cef67f48787843544cab04aa18fdfd192c46", func := "galois/galoislaw18.DiscretelogRoots", spec := "discretelogRoots", unfollowed := true, recurses := true, apart := false }
def DiscretelogRootsSaid : Prop := discretelogRootsRow.holds Tryz.pinned (OpenSpec.ofChange discretelogRootsSpec)

/-- ITS FALSE NEIGHBOUR: 'it returns false'. Refute it at one input. -/
def discretelogRootsWrong : ChangeSpec := { name := "discretelogRoots", fn := fun _ => fun
  | [d1, d2, d3] => { results := [.lit (.bool false)], args := [d1, d2, d3] }
  | _ => none }
def DiscretelogRootsWrongFalsely : Prop := discretelogRootsRow.holds Tryz.pinned (OpenSpec.ofChange discretelogRootsWrong)

/-- 'galoislaw18.DiscretelogTables': WHATEVER THE INPUT: true; the input reads as it did. -/
def discretelogTablesSpec : ChangeSpec := { name := "discretelogTables", fn := fun _ => fun
  | [d1, d2, d3] => { results := [.lit (.bool true)], args := [d1, d2, d3] }
  | _ => none }
def discretelogTablesRow : OpenClaim := { program := "ytillaipaanancaagreat", sum := "b623218bed6c7fcbb986b33e45e2cef67f48787843544cab04aa18fdfd192c46", func := "galois/galoislaw18.DiscretelogTables", spec := "discretelogTables", unfollowed := true, recurses := true, apart := false }
def DiscretelogTablesSaid : Prop := discretelogTablesRow.holds Tryz.pinned (OpenSpec.ofChange discretelogTablesSpec)

/-- ITS FALSE NEIGHBOUR: 'it returns false'. Refute it at one input. -/
def discretelogTablesWrong : ChangeSpec := { name := "discretelogTables", fn := fun _ => fun
  | [d1, d2, d3] => { results := [.lit (.bool false)], args := [d1, d2, d3] }
  | _ => none }
def DiscretelogTablesWrongFalsely : Prop := discretelogTablesRow.holds Tryz.pinned (OpenSpec.ofChange discretelogTablesWrong)

/-- 'galoislaw18.DiscretelogCounts': WHATEVER THE INPUT: true; the input reads as it did. -/
def discretelogCountsSpec : ChangeSpec := { name := "discretelogCounts", fn := fun _ => fun
  | [d1, d2, d3] => { results := [.lit (.bool true)], args := [d1, d2, d3] }
  | _ => none }
def discretelogCountsRow : OpenClaim := { program := "ytillaipaanancaagreat", sum := "b623218bed6c7fcbb986b33e45e2cef67f48787843544cab04aa18fdfd192c46", func := "galois/galoislaw18.DiscretelogCounts", spec := "discretelogCounts", unfollowed := true, recurses := true, apart := false }
def DiscretelogCountsSaid : Prop := discretelogCountsRow.holds Tryz.pinned (OpenSpec.ofChange discretelogCountsSpec)

/-- ITS FALSE NEIGHBOUR: 'it returns false'. Refute it at one input. -/
def discretelogCountsWrong : ChangeSpec := { name := "discretelogCounts", fn := fun _ => fun
  | [d1, d2, d3] => { results := [.lit (.bool false)], args := [d1, d2, d3] }
  | _ => none }
def DiscretelogCountsWrongFalsely : Prop := discretelogCountsRow.holds Tryz.pinned (OpenSpec.ofChange discretelogCountsWrong)

/-- 'galoislaw18.DiscretelogPowers': WHATEVER THE INPUT: true; the input reads as it did. -/
def discretelogPowersSpec : ChangeSpec := { name := "discretelogPowers", fn := fun _ => fun
  | [d1, d2, d3] => { results := [.lit (.bool true)], args := [d1, d2, d3] }
  | _ => none }
def discretelogPowersRow : OpenClaim := { program := "ytillaipaanancaagreat", sum := "b623218bed6c7fcbb986b33e45e2cef67f48787843544cab04aa18fdfd192c46", func := "galois/galoislaw18.DiscretelogPowers", spec := "discretelogPowers", unfollowed := true, recurses := true, apart := false }
def DiscretelogPowersSaid : Prop := discretelogPowersRow.holds Tryz.pinned (OpenSpec.ofChange discretelogPowersSpec)

/-- ITS FALSE NEIGHBOUR: 'it returns false'. Refute it at one input. -/
def discretelogPowersWrong : ChangeSpec := { name := "discretelogPowers", fn := fun _ => fun
  | [d1, d2, d3] => { results := [.lit (.bool false)], args := [d1, d2, d3] }
  | _ => none }
def DiscretelogPowersWrongFalsely : Prop := discretelogPowersRow.holds Tryz.pinned (OpenSpec.ofChange discretelogPowersWrong)

/-- 'galoislaw18.DiscretelogJacobi': WHATEVER THE INPUT: true; the input reads as it did. -/
def discretelogJacobiSpec : ChangeSpec := { name := "discretelogJacobi", fn := fun _ => fun
  | [d1, d2] => { results := [.lit (.bool true)], args := [d1, d2] }
  | _ => none }
def discretelogJacobiRow : OpenClaim := { program := "ytillaipaanancaagreat", sum := "b623218bed6c7fcbb986b33e45e2cef67f48787843544cab04aa18fdfd192c46", func := "galois/galoislaw18.DiscretelogJacobi", spec := "discretelogJacobi", unfollowed := true, recurses := true, apart := false }
def DiscretelogJacobiSaid : Prop := discretelogJacobiRow.holds Tryz.pinned (OpenSpec.ofChange discretelogJacobiSpec)

/-- ITS FALSE NEIGHBOUR: 'it returns false'. Refute it at one input. -/
def discretelogJacobiWrong : ChangeSpec := { name := "discretelogJacobi", fn := fun _ => fun
  | [d1, d2] => { results := [.lit (.bool false)], args := [d1, d2] }
  | _ => none }
def DiscretelogJacobiWrongFalsely : Prop := discretelogJacobiRow.holds Tryz.pinned (OpenSpec.ofChange discretelogJacobiWrong)

/-- 'galoislaw18.DiscretelogCosets': WHATEVER THE INPUT: true; the input reads as it did. -/
def discretelogCosetsSpec : ChangeSpec := { name := "discretelogCosets", fn := fun _ => fun
  | [d1, d2] => { results := [.lit (.bool true)], args := [d1, d2] }
  | _ => none }
def discretelogCosetsRow : OpenClaim := { program := "ytillaipaanancaagreat", sum := "b623218bed6c7fcbb986b33e45e2cef67f48787843544cab04aa18fdfd192c46", func := "galois/galoislaw18.DiscretelogCosets", spec := "discretelogCosets", inPlace := ["math/bits.Add64", "math/bits.Sub64"], unfollowed := true, recurses := true, named := ["math/bits.divideError", "math/bits.overflowError"], apart := false }
def DiscretelogCosetsSaid : Prop := discretelogCosetsRow.holds Tryz.pinned (OpenSpec.ofChange discretelogCosetsSpec)

/-- ITS FALSE NEIGHBOUR: 'it returns false'. Refute it at one input. -/
def discretelogCosetsWrong : ChangeSpec := { name := "discretelogCosets", fn := fun _ => fun
  | [d1, d2] => { results := [.lit (.bool false)], args := [d1, d2] }
  | _ => none }
def DiscretelogCosetsWrongFalsely : Prop := discretelogCosetsRow.holds Tryz.pinned (OpenSpec.ofChange discretelogCosetsWrong)

/- THE SECOND FORM. 'bulk': how many values and letters a reading holds, each counted each time it is reached (what is shared counts as often as it is met; a slice's spare places count too). A statement '..UptoSaid' is the law's where the arguments, and the package variables that the reading takes, are together of bulk at most 1048576: NARROWER than '..Said'. Prove '..Said' where nothing that the law and all that it calls make is longer than what came in: it says more and counts as full. Else prove '..UptoSaid'. A law counts once. -/
mutual
def uptoBulk {H : Type} : DataW H → Nat
  | .lit (.string bytes) => bytes.length + 1
  | .lit _ => 1
  | .nil => 1
  | .ptr d => uptoBulk d + 1
  | .slice elems spare => uptoBulkAll elems + uptoBulkAll spare + 1
  | .agg parts => uptoBulkAll parts + 1
  | .iface _ d => uptoBulk d + 1
  | .map entries => uptoBulkEntries entries + 1
  | .held _ => 1
def uptoBulkAll {H : Type} : List (DataW H) → Nat
  | [] => 0
  | d :: r => uptoBulk d + uptoBulkAll r
def uptoBulkEntries {H : Type} : List (Lit × DataW H) → Nat
  | [] => 0
  | x :: r => uptoBulkEntry x + uptoBulkEntries r
def uptoBulkEntry {H : Type} : Lit × DataW H → Nat
  | (.string bytes, d) => bytes.length + uptoBulk d + 1
  | (_, d) => uptoBulk d + 1
 end
def uptoSmall : (H : Type) → List (DataW H) → Bool := fun _ ds => decide (uptoBulkAll ds ≤ 1048576)
def OpenSpec.upto (s : _root_.Go.ChangeSpec) : _root_.Go.OpenSpec := { _root_.Go.OpenSpec.ofChange s with cond := some uptoSmall }

/-- 'galoislaw18.DiscretelogLogs', WHERE WHAT IT READS IS OF BULK AT MOST 1048576: true; the input reads as it did. -/
def discretelogLogsUptoRow : OpenClaim := { program := "ytillaipaanancaagreat", sum := "b623218bed6c7fcbb986b33e45e2cef67f48787843544cab04aa18fdfd192c46", func := "galois/galoislaw18.DiscretelogLogs", spec := "discretelogLogs", unfollowed := true, recurses := true, apart := false, narrowed := true }
def DiscretelogLogsUptoSaid : Prop := discretelogLogsUptoRow.holds Tryz.pinned (OpenSpec.upto discretelogLogsSpec)

/-- 'galoislaw18.DiscretelogRoots', WHERE WHAT IT READS IS OF BULK AT MOST 1048576: true; the input reads as it did. -/
def discretelogRootsUptoRow : OpenClaim := { program := "ytillaipaanancaagreat", sum := "b623218bed6c7fcbb986b33e45e2cef67f48787843544cab04aa18fdfd192c46", func := "galois/galoislaw18.DiscretelogRoots", spec := "discretelogRoots", unfollowed := true, recurses := true, apart := false, narrowed := true }
def DiscretelogRootsUptoSaid : Prop := discretelogRootsUptoRow.holds Tryz.pinned (OpenSpec.upto discretelogRootsSpec)

/-- 'galoislaw18.DiscretelogTables', WHERE WHAT IT READS IS OF BULK AT MOST 1048576: true; the input reads as it did. -/
def discretelogTablesUptoRow : OpenClaim := { program := "ytillaipaanancaagreat", sum := "b623218bed6c7fcbb986b33e45e2cef67f48787843544cab04aa18fdfd192c46", func := "galois/galoislaw18.DiscretelogTables", spec := "discretelogTables", unfollowed := true, recurses := true, apart := false, narrowed := true }
def DiscretelogTablesUptoSaid : Prop := discretelogTablesUptoRow.holds Tryz.pinned (OpenSpec.upto discretelogTablesSpec)

/-- 'galoislaw18.DiscretelogCounts', WHERE WHAT IT READS IS OF BULK AT MOST 1048576: true; the input reads as it did. -/
def discretelogCountsUptoRow : OpenClaim := { program := "ytillaipaanancaagreat", sum := "b623218bed6c7fcbb986b33e45e2cef67f48787843544cab04aa18fdfd192c46", func := "galois/galoislaw18.DiscretelogCounts", spec := "discretelogCounts", unfollowed := true, recurses := true, apart := false, narrowed := true }
def DiscretelogCountsUptoSaid : Prop := discretelogCountsUptoRow.holds Tryz.pinned (OpenSpec.upto discretelogCountsSpec)

/-- 'galoislaw18.DiscretelogPowers', WHERE WHAT IT READS IS OF BULK AT MOST 1048576: true; the input reads as it did. -/
def discretelogPowersUptoRow : OpenClaim := { program := "ytillaipaanancaagreat", sum := "b623218bed6c7fcbb986b33e45e2cef67f48787843544cab04aa18fdfd192c46", func := "galois/galoislaw18.DiscretelogPowers", spec := "discretelogPowers", unfollowed := true, recurses := true, apart := false, narrowed := true }
def DiscretelogPowersUptoSaid : Prop := discretelogPowersUptoRow.holds Tryz.pinned (OpenSpec.upto discretelogPowersSpec)

/-- 'galoislaw18.DiscretelogJacobi', WHERE WHAT IT READS IS OF BULK AT MOST 1048576: true; the input reads as it did. -/
def discretelogJacobiUptoRow : OpenClaim := { program := "ytillaipaanancaagreat", sum := "b623218bed6c7fcbb986b33e45e2cef67f48787843544cab04aa18fdfd192c46", func := "galois/galoislaw18.DiscretelogJacobi", spec := "discretelogJacobi", unfollowed := true, recurses := true, apart := false, narrowed := true }
def DiscretelogJacobiUptoSaid : Prop := discretelogJacobiUptoRow.holds Tryz.pinned (OpenSpec.upto discretelogJacobiSpec)

/-- 'galoislaw18.DiscretelogCosets', WHERE WHAT IT READS IS OF BULK AT MOST 1048576: true; the input reads as it did. -/
def discretelogCosetsUptoRow : OpenClaim := { program := "ytillaipaanancaagreat", sum := "b623218bed6c7fcbb986b33e45e2cef67f48787843544cab04aa18fdfd192c46", func := "galois/galoislaw18.DiscretelogCosets", spec := "discretelogCosets", inPlace := ["math/bits.Add64", "math/bits.Sub64"], unfollowed := true, recurses := true, named := ["math/bits.divideError", "math/bits.overflowError"], apart := false, narrowed := true }
def DiscretelogCosetsUptoSaid : Prop := discretelogCosetsUptoRow.holds Tryz.pinned (OpenSpec.upto discretelogCosetsSpec)

end Rows
end Go.Proofs.YtillaipaanancaaGreat

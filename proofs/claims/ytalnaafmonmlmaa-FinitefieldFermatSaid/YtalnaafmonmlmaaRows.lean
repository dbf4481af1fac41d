/-
  No cell of these rows narrows 'for every input' (looked for: loops, veiled, ifaces, maps, wideKeys, modest, calm, conditions, laid).
  DERIVED. THE GIVEN ROWS OF THIS SEAT. 6 by the template 'for every input the law returns true; each argument reads behind the call as it read before'; 0 by the template 'total and deterministic' (their statements: YtalnaafmonmlmaaTotals.lean).
  GIVEN WITH THE SEED: the statements are not yours to turn. If you find one false, say at which input.
  Laid BY PROGRAM, IN A SANDBOX (cutbox-rows.mjs): the forced cells as the released guide's own fill.sh prints them over the translation fbeeac1ddda933cd… (all of the seat's roots in one cut). By AI agents, Wed Nov 11 2026. No macro, syntax, notation, axiom, sorry.
-/
import Derived.Test.YtalnaafmonmlmaaChecked
import GoSem.Claim
import GoSem.ClaimJoined
import GoSem.ClaimMapViews
import Derived.JoinedTies
import Derived.KernelRfl
namespace Go.Proofs.Ytalnaafmonmlmaa
/- THE CELL 'sum', in the pinned program and in every row, IS THE sha256 OF THE DUMP (.gsa) THAT YtalnaafmonmlmaaProg.lean LOADS. Nothing in Lean hashes anything: it is a label: what it is worth is what the hold of that sum in a sandbox is worth. -/
noncomputable def Try.pinned : Pinned := { name := "ytalnaafmonmlmaa", sum := "fbeeac1ddda933cd4e2abad0858c7540d2f7b6fa964e6eba22f90e84cefef8ab", checked := Try.checked }
namespace Rows
def none {H : Type} : Left H := { results := [], args := [] }

/-- 'galoislaw15.FinitefieldModuli': WHATEVER THE INPUT: true; the input reads as it did. -/
def finitefieldModuliSpec : ChangeSpec := { name := "finitefieldModuli", fn := fun _ => fun
  | [d1, d2] => { results := [.lit (.bool true)], args := [d1, d2] }
  | _ => none }
def finitefieldModuliRow : OpenClaim := { program := "ytalnaafmonmlmaa", sum := "fbeeac1ddda933cd4e2abad0858c7540d2f7b6fa964e6eba22f90e84cefef8ab", func := "galois/galoislaw15.FinitefieldModuli", spec := "finitefieldModuli", unfollowed := true, recurses := true, apart := false }
def FinitefieldModuliSaid : Prop := finitefieldModuliRow.holds Try.pinned (OpenSpec.ofChange finitefieldModuliSpec)

/-- ITS FALSE NEIGHBOUR: 'it returns false'. Refute it at one input. -/
def finitefieldModuliWrong : ChangeSpec := { name := "finitefieldModuli", fn := fun _ => fun
  | [d1, d2] => { results := [.lit (.bool false)], args := [d1, d2] }
  | _ => none }
def FinitefieldModuliWrongFalsely : Prop := finitefieldModuliRow.holds Try.pinned (OpenSpec.ofChange finitefieldModuliWrong)

/-- 'galoislaw15.FinitefieldSquares': WHATEVER THE INPUT: true; the input reads as it did. -/
def finitefieldSquaresSpec : ChangeSpec := { name := "finitefieldSquares", fn := fun _ => fun
  | [d] => { results := [.lit (.bool true)], args := [d] }
  | _ => none }
def finitefieldSquaresRow : OpenClaim := { program := "ytalnaafmonmlmaa", sum := "fbeeac1ddda933cd4e2abad0858c7540d2f7b6fa964e6eba22f90e84cefef8ab", func := "galois/galoislaw15.FinitefieldSquares", spec := "finitefieldSquares", unfollowed := true, recurses := true, apart := false }
def FinitefieldSquaresSaid : Prop := finitefieldSquaresRow.holds Try.pinned (OpenSpec.ofChange finitefieldSquaresSpec)

/-- ITS FALSE NEIGHBOUR: 'it returns false'. Refute it at one input. -/
def finitefieldSquaresWrong : ChangeSpec := { name := "finitefieldSquares", fn := fun _ => fun
  | [d] => { results := [.lit (.bool false)], args := [d] }
  | _ => none }
def FinitefieldSquaresWrongFalsely : Prop := finitefieldSquaresRow.holds Try.pinned (OpenSpec.ofChange finitefieldSquaresWrong)

/-- 'galoislaw15.FinitefieldSums': WHATEVER THE INPUT: true; the input reads as it did. -/
def finitefieldSumsSpec : ChangeSpec := { name := "finitefieldSums", fn := fun _ => fun
  | [d1, d2, d3] => { results := [.lit (.bool true)], args := [d1, d2, d3] }
  | _ => none }
def finitefieldSumsRow : OpenClaim := { program := "ytalnaafmonmlmaa", sum := "fbeeac1ddda933cd4e2abad0858c7540d2f7b6fa964e6eba22f90e84cefef8ab", func := "galois/galoislaw15.FinitefieldSums", spec := "finitefieldSums", unfollowed := true, recurses := true, apart := false }
def FinitefieldSumsSaid : Prop := finitefieldSumsRow.holds Try.pinned (OpenSpec.ofChange finitefieldSumsSpec)

/-- ITS FALSE NEIGHBOUR: 'it returns false'. Refute it at one input. -/
def finitefieldSumsWrong : ChangeSpec := { name := "finitefieldSums", fn := fun _ => fun
  | [d1, d2, d3] => { results := [.lit (.bool false)], args := [d1, d2, d3] }
  | _ => none }
def FinitefieldSumsWrongFalsely : Prop := finitefieldSumsRow.holds Try.pinned (OpenSpec.ofChange finitefieldSumsWrong)

/-- 'galoislaw15.FinitefieldField': WHATEVER THE INPUT: true; the input reads as it did. -/
def finitefieldFieldSpec : ChangeSpec := { name := "finitefieldField", fn := fun _ => fun
  | [d1, d2] => { results := [.lit (.bool true)], args := [d1, d2] }
  | _ => none }
def finitefieldFieldRow : OpenClaim := { program := "ytalnaafmonmlmaa", sum := "fbeeac1ddda933cd4e2abad0858c7540d2f7b6fa964e6eba22f90e84cefef8ab", func := "galois/galoislaw15.FinitefieldField", spec := "finitefieldField", unfollowed := true, recurses := true, apart := false }
def FinitefieldFieldSaid : Prop := finitefieldFieldRow.holds Try.pinned (OpenSpec.ofChange finitefieldFieldSpec)

/-- ITS FALSE NEIGHBOUR: 'it returns false'. Refute it at one input. -/
def finitefieldFieldWrong : ChangeSpec := { name := "finitefieldField", fn := fun _ => fun
  | [d1, d2] => { results := [.lit (.bool false)], args := [d1, d2] }
  | _ => none }
def FinitefieldFieldWrongFalsely : Prop := finitefieldFieldRow.holds Try.pinned (OpenSpec.ofChange finitefieldFieldWrong)

/-- 'galoislaw15.FinitefieldFermat': WHATEVER THE INPUT: true; the input reads as it did. -/
def finitefieldFermatSpec : ChangeSpec := { name := "finitefieldFermat", fn := fun _ => fun
  | [d1, d2] => { results := [.lit (.bool true)], args := [d1, d2] }
  | _ => none }
def finitefieldFermatRow : OpenClaim := { program := "ytalnaafmonmlmaa", sum := "fbeeac1ddda933cd4e2abad0858c7540d2f7b6fa964e6eba22f90e84cefef8ab", func := "galois/galoislaw15.FinitefieldFermat", spec := "finitefieldFermat", unfollowed := true, recurses := true, apart := false }
def FinitefieldFermatSaid : Prop := finitefieldFermatRow.holds Try.pinned (OpenSpec.ofChange finitefieldFermatSpec)

/-- ITS FALSE NEIGHBOUR: 'it returns false'. Refute it at one input. -/
def finitefieldFermatWrong : ChangeSpec := { name := "finitefieldFermat", fn := fun _ => fun
  | [d1, d2] => { results := [.lit (.bool false)], args := [d1, d2] }
  | _ => none }
def FinitefieldFermatWrongFalsely : Prop := finitefieldFermatRow.holds Try.pinned (OpenSpec.ofChange finitefieldFermatWrong)

/-- 'galoislaw15.FinitefieldMinimal': WHATEVER THE INPUT: true; the input reads as it did. -/
def finitefieldMinimalSpec : ChangeSpec := { name := "finitefieldMinimal", fn := fun _ => fun
  | [d1, d2] => { results := [.lit (.bool true)], args := [d1, d2] }
  | _ => none }
def finitefieldMinimalRow : OpenClaim := { program := "ytalnaafmonmlmaa", sum := "fbeeac1ddda933cd4e2abad0858c7540d2f7b6fa964e6eba22f90e84cefef8ab", func := "galois/galoislaw15.FinitefieldMinimal", spec := "finitefieldMinimal", unfollowed := true, recurses := true, apart := false }
def FinitefieldMinimalSaid : Prop := finitefieldMinimalRow.holds Try.pinned (OpenSpec.ofChange finitefieldMinimalSpec)

/-- ITS FALSE NEIGHBOUR: 'it returns false'. Refute it at one input. -/
def finitefieldMinimalWrong : ChangeSpec := { name := "finitefieldMinimal", fn := fun _ => fun
  | [d1, d2] => { results := [.lit (.bool false)], args := [d1, d2] }
  | _ => none }
def FinitefieldMinimalWrongFalsely : Prop := finitefieldMinimalRow.holds Try.pinned (OpenSpec.ofChange finitefieldMinimalWrong)

/- THE SECOND FORM. 'bulk': how many values and letters a reading holds, each counted each time it is reached (what is shared counts as often as it is met; a slice's spare places count too). A statement '..UptoSaid' is the law's where the arguments, and the package variables that the reading takes, are together of bulk at most 1048576: NARROWER than '..Said'. Prove '..Said' where nothing that the law and all that it calls make is longer than what came in: it says more and counts as full. Else prove '..UptoSaid'. A law counts once. -/
mutual
def uptoBulk {H : Type} : DataW H → Nat
  | .lit (.string bytes) => bytes.length + 1
  | .lit _ => 1
  | .nil => 1
  | .ptr d => uptoBulk d + 1
  | .slice elems spare => uptoBulkAll elems + uptoBulkAll spare + 1
  | .agg parts => uptoBulkAll parts + 1
  | .iface _ d => uptoBulk d + 1
  | .map entries => uptoBulkEntries entries + 1
  | .held _ => 1
def uptoBulkAll {H : Type} : List (DataW H) → Nat
  | [] => 0
  | d :: r => uptoBulk d + uptoBulkAll r
def uptoBulkEntries {H : Type} : List (Lit × DataW H) → Nat
  | [] => 0
  | x :: r => uptoBulkEntry x + uptoBulkEntries r
def uptoBulkEntry {H : Type} : Lit × DataW H → Nat
  | (.string bytes, d) => bytes.length + uptoBulk d + 1
  | (_, d) => uptoBulk d + 1
 end
def uptoSmall : (H : Type) → List (DataW H) → Bool := fun _ ds => decide (uptoBulkAll ds ≤ 1048576)
def OpenSpec.upto (s : _root_.Go.ChangeSpec) : _root_.Go.OpenSpec := { _root_.Go.OpenSpec.ofChange s with cond := some uptoSmall }

/-- 'galoislaw15.FinitefieldModuli', WHERE WHAT IT READS IS OF BULK AT MOST 1048576: true; the input reads as it did. -/
def finitefieldModuliUptoRow : OpenClaim := { program := "ytalnaafmonmlmaa", sum := "fbeeac1ddda933cd4e2abad0858c7540d2f7b6fa964e6eba22f90e84cefef8ab", func := "galois/galoislaw15.FinitefieldModuli", spec := "finitefieldModuli", unfollowed := true, recurses := true, apart := false, narrowed := true }
def FinitefieldModuliUptoSaid : Prop := finitefieldModuliUptoRow.holds Try.pinned (OpenSpec.upto finitefieldModuliSpec)

/-- 'galoislaw15.FinitefieldSquares', WHERE WHAT IT READS IS OF BULK AT MOST 1048576: true; the input reads as it did. -/
def finitefieldSquaresUptoRow : OpenClaim := { program := "ytalnaafmonmlmaa", sum := "fbeeac1ddda933cd4e2abad0858c7540d2f7b6fa964e6eba22f90e84cefef8ab", func := "galois/galoislaw15.FinitefieldSquares", spec := "finitefieldSquares", unfollowed := true, recurses := true, apart := false, narrowed := true }
def FinitefieldSquaresUptoSaid : Prop := finitefieldSquaresUptoRow.holds Try.pinned (OpenSpec.upto finitefieldSquaresSpec)

/-- 'galoislaw15.FinitefieldSums', WHERE WHAT IT READS IS OF BULK AT MOST 1048576: true; the input reads as it did. -/
def finitefieldSumsUptoRow : OpenClaim := { program := "ytalnaafmonmlmaa", sum := "fbeeac1ddda933cd4e2abad0858c7540d2f7b6fa964e6eba22f90e84cefef8ab", func := "galois/galoislaw15.FinitefieldSums", spec := "finitefieldSums", unfollowed := true, recurses := true, apart := false, narrowed := true }
def FinitefieldSumsUptoSaid : Prop := finitefieldSumsUptoRow.holds Try.pinned (OpenSpec.upto finitefieldSumsSpec)

/-- 'galoislaw15.FinitefieldField', WHERE WHAT IT READS IS OF BULK AT MOST 1048576: true; the input reads as it did. -/
def finitefieldFieldUptoRow : OpenClaim := { program := "ytalnaafmonmlmaa", sum := "fbeeac1ddda933cd4e2abad0858c7540d2f7b6fa964e6eba22f90e84cefef8ab", func := "galois/galoislaw15.FinitefieldField", spec := "finitefieldField", unfollowed := true, recurses := true, apart := false, narrowed := true }
def FinitefieldFieldUptoSaid : Prop := finitefieldFieldUptoRow.holds Try.pinned (OpenSpec.upto finitefieldFieldSpec)

/-- 'galoislaw15.FinitefieldFermat', WHERE WHAT IT READS IS OF BULK AT MOST 1048576: true; the input reads as it did. -/
def finitefieldFermatUptoRow : OpenClaim := { program := "ytalnaafmonmlmaa", sum := "fbeeac1ddda933cd4e2abad0858c7540d2f7b6fa964e6eba22f90e84cefef8ab", func := "galois/galoislaw15.FinitefieldFermat", spec := "finitefieldFermat", unfollowed := true, recurses := true, apart := false, narrowed := true }
def FinitefieldFermatUptoSaid : Prop := finitefieldFermatUptoRow.holds Try.pinned (OpenSpec.upto finitefieldFermatSpec)

/-- 'galoislaw15.FinitefieldMinimal', WHERE WHAT IT READS IS OF BULK AT MOST 1048576: true; the input reads as it did. -/
def finitefieldMinimalUptoRow : OpenClaim := { program := "ytalnaafmonmlmaa", sum := "fbeeac1ddda933cd4e2abad0858c7540d2f7b6fa964e6eba22f90e84cefef8ab", func := "galois/galoislaw15.FinitefieldMinimal", spec := "finitefieldMinimal", unfollowed := true, recurses := true, apart := false, narrowed := true }
def FinitefieldMinimalUptoSaid : Prop := finitefieldMinimalUptoRow.holds Try.pinned (OpenSpec.upto finitefieldMinimalSpec)

end Rows
end Go.Proofs.Ytalnaafmonmlmaa

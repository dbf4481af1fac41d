/-
  No cell of these rows narrows 'for every input' (looked for: loops, veiled, ifaces, maps, wideKeys, modest, calm, conditions, laid).
  DERIVED. THE GIVEN ROWS OF THIS SEAT. 3 by the template 'for every input the law returns true; each argument reads behind the call as it read before'; 0 by the template 'total and deterministic' (their statements: YtalnaafmonmlmaaGreatTotals.lean).
  GIVEN WITH THE SEED: the statements are not yours to turn. If you find one false, say at which input.
  Laid BY PROGRAM, IN A SANDBOX (cutbox-rows.mjs): the forced cells as the released guide's own fill.sh prints them over the translation ddc71a949fc58f18… (all of the seat's roots in one cut). By AI agents, Wed Nov 11 2026. No macro, syntax, notation, axiom, sorry.
-/
import Derived.Test.YtalnaafmonmlmaaGreatChecked
import GoSem.Claim
import GoSem.ClaimJoined
import GoSem.ClaimMapViews
import Derived.JoinedTies
import Derived.KernelRfl
namespace Go.Proofs.YtalnaafmonmlmaaGreat
/- THE CELL 'sum', in the pinned program and in every row, IS THE sha256 OF THE DUMP (.gsa) THAT YtalnaafmonmlmaaGreatProg.lean LOADS. Nothing in Lean hashes anything: it is a label: what it is worth is what the hold of that sum in a sandbox is worth. -/
noncomputable def Tryz.pinned : Pinned := { name := "ytalnaafmonmlmaagreat", sum := "ddc71a949fc58f1821646705fac6523be2ec0568910c56ed475a2b8d7c07e92a", checked := Tryz.checked }
namespace Rows
def none {H : Type} : Left H := { results := [], args := [] }

/-- 'galoislaw15.FinitefieldQuotients': WHATEVER THE INPUT: true; the input reads as it did. -/
def finitefieldQuotientsSpec : ChangeSpec := { name := "finitefieldQuotients", fn := fun _ => fun
  | [d1, d2] => { results := [.lit (.bool true)], args := [d1, d2] }
  | _ => none }
def finitefieldQuotientsRow : OpenClaim := { program := "ytalnaafmonmlmaagreat", sum := "ddc71a949fc58f1821646705fac6523be2ec0568910c56ed475a2b8d7c07e92a", func := "galois/galoislaw15.FinitefieldQuotients", spec := "finitefieldQuotients", unfollowed := true, recurses := true, apart := false }
def FinitefieldQuotientsSaid : Prop := finitefieldQuotientsRow.holds Tryz.pinned (OpenSpec.ofChange finitefieldQuotientsSpec)

/-- ITS FALSE NEIGHBOUR: 'it returns false'. Refute it at one input. -/
def finitefieldQuotientsWrong : ChangeSpec := { name := "finitefieldQuotients", fn := fun _ => fun
  | [d1, d2] => { results := [.lit (.bool false)], args := [d1, d2] }
  | _ => none }
def FinitefieldQuotientsWrongFalsely : Prop := finitefieldQuotientsRow.holds Tryz.pinned (OpenSpec.ofChange finitefieldQuotientsWrong)

/-- 'galoislaw15.FinitefieldOrders': WHATEVER THE INPUT: true; the input reads as it did. -/
def finitefieldOrdersSpec : ChangeSpec := { name := "finitefieldOrders", fn := fun _ => fun
  | [d1, d2] => { results := [.lit (.bool true)], args := [d1, d2] }
  | _ => none }
def finitefieldOrdersRow : OpenClaim := { program := "ytalnaafmonmlmaagreat", sum := "ddc71a949fc58f1821646705fac6523be2ec0568910c56ed475a2b8d7c07e92a", func := "galois/galoislaw15.FinitefieldOrders", spec := "finitefieldOrders", unfollowed := true, recurses := true, apart := false }
def FinitefieldOrdersSaid : Prop := finitefieldOrdersRow.holds Tryz.pinned (OpenSpec.ofChange finitefieldOrdersSpec)

/-- ITS FALSE NEIGHBOUR: 'it returns false'. Refute it at one input. -/
def finitefieldOrdersWrong : ChangeSpec := { name := "finitefieldOrders", fn := fun _ => fun
  | [d1, d2] => { results := [.lit (.bool false)], args := [d1, d2] }
  | _ => none }
def FinitefieldOrdersWrongFalsely : Prop := finitefieldOrdersRow.holds Tryz.pinned (OpenSpec.ofChange finitefieldOrdersWrong)

/-- 'galoislaw15.FinitefieldLists': WHATEVER THE INPUT: true; the input reads as it did. -/
def finitefieldListsSpec : ChangeSpec := { name := "finitefieldLists", fn := fun _ => fun
  | [d1, d2, d3] => { results := [.lit (.bool true)], args := [d1, d2, d3] }
  | _ => none }
def finitefieldListsRow : OpenClaim := { program := "ytalnaafmonmlmaagreat", sum := "ddc71a949fc58f1821646705fac6523be2ec0568910c56ed475a2b8d7c07e92a", func := "galois/galoislaw15.FinitefieldLists", spec := "finitefieldLists", inPlace := ["math/bits.Add64"], unfollowed := true, recurses := true, apart := false }
def FinitefieldListsSaid : Prop := finitefieldListsRow.holds Tryz.pinned (OpenSpec.ofChange finitefieldListsSpec)

/-- ITS FALSE NEIGHBOUR: 'it returns false'. Refute it at one input. -/
def finitefieldListsWrong : ChangeSpec := { name := "finitefieldLists", fn := fun _ => fun
  | [d1, d2, d3] => { results := [.lit (.bool false)], args := [d1, d2, d3] }
  | _ => none }
def FinitefieldListsWrongFalsely : Prop := finitefieldListsRow.holds Tryz.pinned (OpenSpec.ofChange finitefieldListsWrong)

/- THE SECOND FORM. 'bulk': how many values and letters a reading holds, each counted each time it is reached (what is shared counts as often as it is met; a slice's spare places count too). A statement '..UptoSaid' is the law's where the arguments, and the package variables that the reading takes, are together of bulk at most 1048576: NARROWER than '..Said'. Prove '..Said' where nothing that the law and all that it calls make is longer than what came in: it says more and counts as full. Else prove '..UptoSaid'. A law counts once. -/
mutual
def uptoBulk {H : Type} : DataW H → Nat
  | .lit (.string bytes) => bytes.length + 1
  | .lit _ => 1
  | .nil => 1
  | .ptr d => uptoBulk d + 1
  | .slice elems spare => uptoBulkAll elems + uptoBulkAll spare + 1
  | .agg parts => uptoBulkAll parts + 1
  | .iface _ d => uptoBulk d + 1
  | .map entries => uptoBulkEntries entries + 1
  | .held _ => 1
def uptoBulkAll {H : Type} : List (DataW H) → Nat
  | [] => 0
  | d :: r => uptoBulk d + uptoBulkAll r
def uptoBulkEntries {H : Type} : List (Lit × DataW H) → Nat
  | [] => 0
  | x :: r => uptoBulkEntry x + uptoBulkEntries r
def uptoBulkEntry {H : Type} : Lit × DataW H → Nat
  | (.string bytes, d) => bytes.length + uptoBulk d + 1
  | (_, d) => uptoBulk d + 1
 end
def uptoSmall : (H : Type) → List (DataW H) → Bool := fun _ ds => decide (uptoBulkAll ds ≤ 1048576)
def OpenSpec.upto (s : _root_.Go.ChangeSpec) : _root_.Go.OpenSpec := { _root_.Go.OpenSpec.ofChange s with cond := some uptoSmall }

/-- 'galoislaw15.FinitefieldQuotients', WHERE WHAT IT READS IS OF BULK AT MOST 1048576: true; the input reads as it did. -/
def finitefieldQuotientsUptoRow : OpenClaim := { program := "ytalnaafmonmlmaagreat", sum := "ddc71a949fc58f1821646705fac6523be2ec0568910c56ed475a2b8d7c07e92a", func := "galois/galoislaw15.FinitefieldQuotients", spec := "finitefieldQuotients", unfollowed := true, recurses := true, apart := false, narrowed := true }
def FinitefieldQuotientsUptoSaid : Prop := finitefieldQuotientsUptoRow.holds Tryz.pinned (OpenSpec.upto finitefieldQuotientsSpec)

/-- 'galoislaw15.FinitefieldOrders', WHERE WHAT IT READS IS OF BULK AT MOST 1048576: true; the input reads as it did. -/
def finitefieldOrdersUptoRow : OpenClaim := { program := "ytalnaafmonmlmaagreat", sum := "ddc71a949fc58f1821646705fac6523be2ec0568910c56ed475a2b8d7c07e92a", func := "galois/galoislaw15.FinitefieldOrders", spec := "finitefieldOrders", unfollowed := true, recurses := true, apart := false, narrowed := true }
def FinitefieldOrdersUptoSaid : Prop := finitefieldOrdersUptoRow.holds Tryz.pinned (OpenSpec.upto finitefieldOrdersSpec)

/-- 'galoislaw15.FinitefieldLists', WHERE WHAT IT READS IS OF BULK AT MOST 1048576: true; the input reads as it did. -/
def finitefieldListsUptoRow : OpenClaim := { program := "ytalnaafmonmlmaagreat", sum := "ddc71a949fc58f1821646705fac6523be2ec0568910c56ed475a2b8d7c07e92a", func := "galois/galoislaw15.FinitefieldLists", spec := "finitefieldLists", inPlace := ["math/bits.Add64"], unfollowed := true, recurses := true, apart := false, narrowed := true }
def FinitefieldListsUptoSaid : Prop := finitefieldListsUptoRow.holds Tryz.pinned (OpenSpec.upto finitefieldListsSpec)

end Rows
end Go.Proofs.YtalnaafmonmlmaaGreat

/-
  No cell of these rows narrows 'for every input' (looked for: loops, veiled, ifaces, maps, wideKeys, modest, calm, conditions, laid).
  DERIVED. THE GIVEN ROWS OF THIS SEAT. 11 by the template 'for every input the law returns true; each argument reads behind the call as it read before'; 0 by the template 'total and deterministic' (their statements: YtmedflaejnbkoaaTotals.lean).
  GIVEN WITH THE SEED: the statements are not yours to turn. If you find one false, say at which input.
  Laid BY PROGRAM, IN A SANDBOX (cutbox-rows.mjs): the forced cells as the released guide's own fill.sh prints them over the translation 616bf4c1ada190fc… (all of the seat's roots in one cut). By AI agents, Wed Nov 11 2026. No macro, syntax, notation, axiom, sorry.
-/
import Derived.Test.YtmedflaejnbkoaaChecked
import GoSem.Claim
import GoSem.ClaimJoined
import GoSem.ClaimMapViews
import Derived.JoinedTies
import Derived.KernelRfl
namespace Go.Proofs.Ytmedflaejnbkoaa
/- THE CELL 'sum', in the pinned program and in every row, IS THE sha256 OF THE DUMP (.gsa) THAT YtmedflaejnbkoaaProg.lean LOADS. Nothing in Lean hashes anything: it is a label: what it is worth is what the hold of that sum in a sandbox is worth. -/
noncomputable def Try.pinned : Pinned := { name := "ytmedflaejnbkoaa", sum := "616bf4c1ada190fcf0dbc5275957e84a29c86b22957bd0daa3850c92f32623f9", checked := Try.checked }
namespace Rows
def none {H : Type} : Left H := { results := [], args := [] }

/-- 'galoislaw04.ResidueOrders': WHATEVER THE INPUT: true; the input reads as it did. -/
def residueOrdersSpec : ChangeSpec := { name := "residueOrders", fn := fun _ => fun
  | [d1, d2] => { results := [.lit (.bool true)], args := [d1, d2] }
  | _ => none }
def residueOrdersRow : OpenClaim := { program := "ytmedflaejnbkoaa", sum := "616bf4c1ada190fcf0dbc5275957e84a29c86b22957bd0daa3850c92f32623f9", func := "galois/galoislaw04.ResidueOrders", spec := "residueOrders", unfollowed := true, recurses := true, apart := false }
def ResidueOrdersSaid : Prop := residueOrdersRow.holds Try.pinned (OpenSpec.ofChange residueOrdersSpec)

/-- ITS FALSE NEIGHBOUR: 'it returns false'. Refute it at one input. -/
def residueOrdersWrong : ChangeSpec := { name := "residueOrders", fn := fun _ => fun
  | [d1, d2] => { results := [.lit (.bool false)], args := [d1, d2] }
  | _ => none }
def ResidueOrdersWrongFalsely : Prop := residueOrdersRow.holds Try.pinned (OpenSpec.ofChange residueOrdersWrong)

/-- 'galoislaw04.ResidueSystems': WHATEVER THE INPUT: true; the input reads as it did. -/
def residueSystemsSpec : ChangeSpec := { name := "residueSystems", fn := fun _ => fun
  | [d1, d2] => { results := [.lit (.bool true)], args := [d1, d2] }
  | _ => none }
def residueSystemsRow : OpenClaim := { program := "ytmedflaejnbkoaa", sum := "616bf4c1ada190fcf0dbc5275957e84a29c86b22957bd0daa3850c92f32623f9", func := "galois/galoislaw04.ResidueSystems", spec := "residueSystems", unfollowed := true, recurses := true, apart := false }
def ResidueSystemsSaid : Prop := residueSystemsRow.holds Try.pinned (OpenSpec.ofChange residueSystemsSpec)

/-- ITS FALSE NEIGHBOUR: 'it returns false'. Refute it at one input. -/
def residueSystemsWrong : ChangeSpec := { name := "residueSystems", fn := fun _ => fun
  | [d1, d2] => { results := [.lit (.bool false)], args := [d1, d2] }
  | _ => none }
def ResidueSystemsWrongFalsely : Prop := residueSystemsRow.holds Try.pinned (OpenSpec.ofChange residueSystemsWrong)

/-- 'galoislaw04.ResidueReciprocity': WHATEVER THE INPUT: true; the input reads as it did. -/
def residueReciprocitySpec : ChangeSpec := { name := "residueReciprocity", fn := fun _ => fun
  | [d1, d2] => { results := [.lit (.bool true)], args := [d1, d2] }
  | _ => none }
def residueReciprocityRow : OpenClaim := { program := "ytmedflaejnbkoaa", sum := "616bf4c1ada190fcf0dbc5275957e84a29c86b22957bd0daa3850c92f32623f9", func := "galois/galoislaw04.ResidueReciprocity", spec := "residueReciprocity", unfollowed := true, recurses := true, apart := false }
def ResidueReciprocitySaid : Prop := residueReciprocityRow.holds Try.pinned (OpenSpec.ofChange residueReciprocitySpec)

/-- ITS FALSE NEIGHBOUR: 'it returns false'. Refute it at one input. -/
def residueReciprocityWrong : ChangeSpec := { name := "residueReciprocity", fn := fun _ => fun
  | [d1, d2] => { results := [.lit (.bool false)], args := [d1, d2] }
  | _ => none }
def ResidueReciprocityWrongFalsely : Prop := residueReciprocityRow.holds Try.pinned (OpenSpec.ofChange residueReciprocityWrong)

/-- 'galoislaw04.ResidueChinese': WHATEVER THE INPUT: true; the input reads as it did. -/
def residueChineseSpec : ChangeSpec := { name := "residueChinese", fn := fun _ => fun
  | [d1, d2] => { results := [.lit (.bool true)], args := [d1, d2] }
  | _ => none }
def residueChineseRow : OpenClaim := { program := "ytmedflaejnbkoaa", sum := "616bf4c1ada190fcf0dbc5275957e84a29c86b22957bd0daa3850c92f32623f9", func := "galois/galoislaw04.ResidueChinese", spec := "residueChinese", unfollowed := true, recurses := true, apart := false }
def ResidueChineseSaid : Prop := residueChineseRow.holds Try.pinned (OpenSpec.ofChange residueChineseSpec)

/-- ITS FALSE NEIGHBOUR: 'it returns false'. Refute it at one input. -/
def residueChineseWrong : ChangeSpec := { name := "residueChinese", fn := fun _ => fun
  | [d1, d2] => { results := [.lit (.bool false)], args := [d1, d2] }
  | _ => none }
def ResidueChineseWrongFalsely : Prop := residueChineseRow.holds Try.pinned (OpenSpec.ofChange residueChineseWrong)

/-- 'galoislaw04.ResidueSymbols': WHATEVER THE INPUT: true; the input reads as it did. -/
def residueSymbolsSpec : ChangeSpec := { name := "residueSymbols", fn := fun _ => fun
  | [d1, d2] => { results := [.lit (.bool true)], args := [d1, d2] }
  | _ => none }
def residueSymbolsRow : OpenClaim := { program := "ytmedflaejnbkoaa", sum := "616bf4c1ada190fcf0dbc5275957e84a29c86b22957bd0daa3850c92f32623f9", func := "galois/galoislaw04.ResidueSymbols", spec := "residueSymbols", unfollowed := true, recurses := true, apart := false }
def ResidueSymbolsSaid : Prop := residueSymbolsRow.holds Try.pinned (OpenSpec.ofChange residueSymbolsSpec)

/-- ITS FALSE NEIGHBOUR: 'it returns false'. Refute it at one input. -/
def residueSymbolsWrong : ChangeSpec := { name := "residueSymbols", fn := fun _ => fun
  | [d1, d2] => { results := [.lit (.bool false)], args := [d1, d2] }
  | _ => none }
def ResidueSymbolsWrongFalsely : Prop := residueSymbolsRow.holds Try.pinned (OpenSpec.ofChange residueSymbolsWrong)

/-- 'galoislaw04.ResiduePowers': WHATEVER THE INPUT: true; the input reads as it did. -/
def residuePowersSpec : ChangeSpec := { name := "residuePowers", fn := fun _ => fun
  | [d1, d2, d3] => { results := [.lit (.bool true)], args := [d1, d2, d3] }
  | _ => none }
def residuePowersRow : OpenClaim := { program := "ytmedflaejnbkoaa", sum := "616bf4c1ada190fcf0dbc5275957e84a29c86b22957bd0daa3850c92f32623f9", func := "galois/galoislaw04.ResiduePowers", spec := "residuePowers", unfollowed := true, recurses := true, apart := false }
def ResiduePowersSaid : Prop := residuePowersRow.holds Try.pinned (OpenSpec.ofChange residuePowersSpec)

/-- ITS FALSE NEIGHBOUR: 'it returns false'. Refute it at one input. -/
def residuePowersWrong : ChangeSpec := { name := "residuePowers", fn := fun _ => fun
  | [d1, d2, d3] => { results := [.lit (.bool false)], args := [d1, d2, d3] }
  | _ => none }
def ResiduePowersWrongFalsely : Prop := residuePowersRow.holds Try.pinned (OpenSpec.ofChange residuePowersWrong)

/-- 'galoislaw04.ResidueEuler': WHATEVER THE INPUT: true; the input reads as it did. -/
def residueEulerSpec : ChangeSpec := { name := "residueEuler", fn := fun _ => fun
  | [d1, d2] => { results := [.lit (.bool true)], args := [d1, d2] }
  | _ => none }
def residueEulerRow : OpenClaim := { program := "ytmedflaejnbkoaa", sum := "616bf4c1ada190fcf0dbc5275957e84a29c86b22957bd0daa3850c92f32623f9", func := "galois/galoislaw04.ResidueEuler", spec := "residueEuler", unfollowed := true, recurses := true, apart := false }
def ResidueEulerSaid : Prop := residueEulerRow.holds Try.pinned (OpenSpec.ofChange residueEulerSpec)

/-- ITS FALSE NEIGHBOUR: 'it returns false'. Refute it at one input. -/
def residueEulerWrong : ChangeSpec := { name := "residueEuler", fn := fun _ => fun
  | [d1, d2] => { results := [.lit (.bool false)], args := [d1, d2] }
  | _ => none }
def ResidueEulerWrongFalsely : Prop := residueEulerRow.holds Try.pinned (OpenSpec.ofChange residueEulerWrong)

/-- 'galoislaw04.ResidueRoots': WHATEVER THE INPUT: true; the input reads as it did. -/
def residueRootsSpec : ChangeSpec := { name := "residueRoots", fn := fun _ => fun
  | [d1, d2] => { results := [.lit (.bool true)], args := [d1, d2] }
  | _ => none }
def residueRootsRow : OpenClaim := { program := "ytmedflaejnbkoaa", sum := "616bf4c1ada190fcf0dbc5275957e84a29c86b22957bd0daa3850c92f32623f9", func := "galois/galoislaw04.ResidueRoots", spec := "residueRoots", unfollowed := true, recurses := true, apart := false }
def ResidueRootsSaid : Prop := residueRootsRow.holds Try.pinned (OpenSpec.ofChange residueRootsSpec)

/-- ITS FALSE NEIGHBOUR: 'it returns false'. Refute it at one input. -/
def residueRootsWrong : ChangeSpec := { name := "residueRoots", fn := fun _ => fun
  | [d1, d2] => { results := [.lit (.bool false)], args := [d1, d2] }
  | _ => none }
def ResidueRootsWrongFalsely : Prop := residueRootsRow.holds Try.pinned (OpenSpec.ofChange residueRootsWrong)

/-- 'galoislaw04.ResidueIntegers': WHATEVER THE INPUT: true; the input reads as it did. -/
def residueIntegersSpec : ChangeSpec := { name := "residueIntegers", fn := fun _ => fun
  | [d1, d2] => { results := [.lit (.bool true)], args := [d1, d2] }
  | _ => none }
def residueIntegersRow : OpenClaim := { program := "ytmedflaejnbkoaa", sum := "616bf4c1ada190fcf0dbc5275957e84a29c86b22957bd0daa3850c92f32623f9", func := "galois/galoislaw04.ResidueIntegers", spec := "residueIntegers", inPlace := ["math/bits.Add64", "math/bits.Sub64"], unfollowed := true, recurses := true, named := ["math/bits.divideError", "math/bits.overflowError"], apart := false }
def ResidueIntegersSaid : Prop := residueIntegersRow.holds Try.pinned (OpenSpec.ofChange residueIntegersSpec)

/-- ITS FALSE NEIGHBOUR: 'it returns false'. Refute it at one input. -/
def residueIntegersWrong : ChangeSpec := { name := "residueIntegers", fn := fun _ => fun
  | [d1, d2] => { results := [.lit (.bool false)], args := [d1, d2] }
  | _ => none }
def ResidueIntegersWrongFalsely : Prop := residueIntegersRow.holds Try.pinned (OpenSpec.ofChange residueIntegersWrong)

/-- 'galoislaw04.ResidueFactors': WHATEVER THE INPUT: true; the input reads as it did. -/
def residueFactorsSpec : ChangeSpec := { name := "residueFactors", fn := fun _ => fun
  | [d] => { results := [.lit (.bool true)], args := [d] }
  | _ => none }
def residueFactorsRow : OpenClaim := { program := "ytmedflaejnbkoaa", sum := "616bf4c1ada190fcf0dbc5275957e84a29c86b22957bd0daa3850c92f32623f9", func := "galois/galoislaw04.ResidueFactors", spec := "residueFactors", unfollowed := true, recurses := true, apart := false }
def ResidueFactorsSaid : Prop := residueFactorsRow.holds Try.pinned (OpenSpec.ofChange residueFactorsSpec)

/-- ITS FALSE NEIGHBOUR: 'it returns false'. Refute it at one input. -/
def residueFactorsWrong : ChangeSpec := { name := "residueFactors", fn := fun _ => fun
  | [d] => { results := [.lit (.bool false)], args := [d] }
  | _ => none }
def ResidueFactorsWrongFalsely : Prop := residueFactorsRow.holds Try.pinned (OpenSpec.ofChange residueFactorsWrong)

/-- 'galoislaw04.ResidueSums': WHATEVER THE INPUT: true; the input reads as it did. -/
def residueSumsSpec : ChangeSpec := { name := "residueSums", fn := fun _ => fun
  | [d] => { results := [.lit (.bool true)], args := [d] }
  | _ => none }
def residueSumsRow : OpenClaim := { program := "ytmedflaejnbkoaa", sum := "616bf4c1ada190fcf0dbc5275957e84a29c86b22957bd0daa3850c92f32623f9", func := "galois/galoislaw04.ResidueSums", spec := "residueSums", unfollowed := true, recurses := true, apart := false }
def ResidueSumsSaid : Prop := residueSumsRow.holds Try.pinned (OpenSpec.ofChange residueSumsSpec)

/-- ITS FALSE NEIGHBOUR: 'it returns false'. Refute it at one input. -/
def residueSumsWrong : ChangeSpec := { name := "residueSums", fn := fun _ => fun
  | [d] => { results := [.lit (.bool false)], args := [d] }
  | _ => none }
def ResidueSumsWrongFalsely : Prop := residueSumsRow.holds Try.pinned (OpenSpec.ofChange residueSumsWrong)

/- THE SECOND FORM. 'bulk': how many values and letters a reading holds, each counted each time it is reached (what is shared counts as often as it is met; a slice's spare places count too). A statement '..UptoSaid' is the law's where the arguments, and the package variables that the reading takes, are together of bulk at most 1048576: NARROWER than '..Said'. Prove '..Said' where nothing that the law and all that it calls make is longer than what came in: it says more and counts as full. Else prove '..UptoSaid'. A law counts once. -/
mutual
def uptoBulk {H : Type} : DataW H → Nat
  | .lit (.string bytes) => bytes.length + 1
  | .lit _ => 1
  | .nil => 1
  | .ptr d => uptoBulk d + 1
  | .slice elems spare => uptoBulkAll elems + uptoBulkAll spare + 1
  | .agg parts => uptoBulkAll parts + 1
  | .iface _ d => uptoBulk d + 1
  | .map entries => uptoBulkEntries entries + 1
  | .held _ => 1
def uptoBulkAll {H : Type} : List (DataW H) → Nat
  | [] => 0
  | d :: r => uptoBulk d + uptoBulkAll r
def uptoBulkEntries {H : Type} : List (Lit × DataW H) → Nat
  | [] => 0
  | x :: r => uptoBulkEntry x + uptoBulkEntries r
def uptoBulkEntry {H : Type} : Lit × DataW H → Nat
  | (.string bytes, d) => bytes.length + uptoBulk d + 1
  | (_, d) => uptoBulk d + 1
 end
def uptoSmall : (H : Type) → List (DataW H) → Bool := fun _ ds => decide (uptoBulkAll ds ≤ 1048576)
def OpenSpec.upto (s : _root_.Go.ChangeSpec) : _root_.Go.OpenSpec := { _root_.Go.OpenSpec.ofChange s with cond := some uptoSmall }

/-- 'galoislaw04.ResidueOrders', WHERE WHAT IT READS IS OF BULK AT MOST 1048576: true; the input reads as it did. -/
def residueOrdersUptoRow : OpenClaim := { program := "ytmedflaejnbkoaa", sum := "616bf4c1ada190fcf0dbc5275957e84a29c86b22957bd0daa3850c92f32623f9", func := "galois/galoislaw04.ResidueOrders", spec := "residueOrders", unfollowed := true, recurses := true, apart := false, narrowed := true }
def ResidueOrdersUptoSaid : Prop := residueOrdersUptoRow.holds Try.pinned (OpenSpec.upto residueOrdersSpec)

/-- 'galoislaw04.ResidueSystems', WHERE WHAT IT READS IS OF BULK AT MOST 1048576: true; the input reads as it did. -/
def residueSystemsUptoRow : OpenClaim := { program := "ytmedflaejnbkoaa", sum := "616bf4c1ada190fcf0dbc5275957e84a29c86b22957bd0daa3850c92f32623f9", func := "galois/galoislaw04.ResidueSystems", spec := "residueSystems", unfollowed := true, recurses := true, apart := false, narrowed := true }
def ResidueSystemsUptoSaid : Prop := residueSystemsUptoRow.holds Try.pinned (OpenSpec.upto residueSystemsSpec)

/-- 'galoislaw04.ResidueReciprocity', WHERE WHAT IT READS IS OF BULK AT MOST 1048576: true; the input reads as it did. -/
def residueReciprocityUptoRow : OpenClaim := { program := "ytmedflaejnbkoaa", sum := "616bf4c1ada190fcf0dbc5275957e84a29c86b22957bd0daa3850c92f32623f9", func := "galois/galoislaw04.ResidueReciprocity", spec := "residueReciprocity", unfollowed := true, recurses := true, apart := false, narrowed := true }
def ResidueReciprocityUptoSaid : Prop := residueReciprocityUptoRow.holds Try.pinned (OpenSpec.upto residueReciprocitySpec)

/-- 'galoislaw04.ResidueChinese', WHERE WHAT IT READS IS OF BULK AT MOST 1048576: true; the input reads as it did. -/
def residueChineseUptoRow : OpenClaim := { program := "ytmedflaejnbkoaa", sum := "616bf4c1ada190fcf0dbc5275957e84a29c86b22957bd0daa3850c92f32623f9", func := "galois/galoislaw04.ResidueChinese", spec := "residueChinese", unfollowed := true, recurses := true, apart := false, narrowed := true }
def ResidueChineseUptoSaid : Prop := residueChineseUptoRow.holds Try.pinned (OpenSpec.upto residueChineseSpec)

/-- 'galoislaw04.ResidueSymbols', WHERE WHAT IT READS IS OF BULK AT MOST 1048576: true; the input reads as it did. -/
def residueSymbolsUptoRow : OpenClaim := { program := "ytmedflaejnbkoaa", sum := "616bf4c1ada190fcf0dbc5275957e84a29c86b22957bd0daa3850c92f32623f9", func := "galois/galoislaw04.ResidueSymbols", spec := "residueSymbols", unfollowed := true, recurses := true, apart := false, narrowed := true }
def ResidueSymbolsUptoSaid : Prop := residueSymbolsUptoRow.holds Try.pinned (OpenSpec.upto residueSymbolsSpec)

/-- 'galoislaw04.ResiduePowers', WHERE WHAT IT READS IS OF BULK AT MOST 1048576: true; the input reads as it did. -/
def residuePowersUptoRow : OpenClaim := { program := "ytmedflaejnbkoaa", sum := "616bf4c1ada190fcf0dbc5275957e84a29c86b22957bd0daa3850c92f32623f9", func := "galois/galoislaw04.ResiduePowers", spec := "residuePowers", unfollowed := true, recurses := true, apart := false, narrowed := true }
def ResiduePowersUptoSaid : Prop := residuePowersUptoRow.holds Try.pinned (OpenSpec.upto residuePowersSpec)

/-- 'galoislaw04.ResidueEuler', WHERE WHAT IT READS IS OF BULK AT MOST 1048576: true; the input reads as it did. -/
def residueEulerUptoRow : OpenClaim := { program := "ytmedflaejnbkoaa", sum := "616bf4c1ada190fcf0dbc5275957e84a29c86b22957bd0daa3850c92f32623f9", func := "galois/galoislaw04.ResidueEuler", spec := "residueEuler", unfollowed := true, recurses := true, apart := false, narrowed := true }
def ResidueEulerUptoSaid : Prop := residueEulerUptoRow.holds Try.pinned (OpenSpec.upto residueEulerSpec)

/-- 'galoislaw04.ResidueRoots', WHERE WHAT IT READS IS OF BULK AT MOST 1048576: true; the input reads as it did. -/
def residueRootsUptoRow : OpenClaim := { program := "ytmedflaejnbkoaa", sum := "616bf4c1ada190fcf0dbc5275957e84a29c86b22957bd0daa3850c92f32623f9", func := "galois/galoislaw04.ResidueRoots", spec := "residueRoots", unfollowed := true, recurses := true, apart := false, narrowed := true }
def ResidueRootsUptoSaid : Prop := residueRootsUptoRow.holds Try.pinned (OpenSpec.upto residueRootsSpec)

/-- 'galoislaw04.ResidueIntegers', WHERE WHAT IT READS IS OF BULK AT MOST 1048576: true; the input reads as it did. -/
def residueIntegersUptoRow : OpenClaim := { program := "ytmedflaejnbkoaa", sum := "616bf4c1ada190fcf0dbc5275957e84a29c86b22957bd0daa3850c92f32623f9", func := "galois/galoislaw04.ResidueIntegers", spec := "residueIntegers", inPlace := ["math/bits.Add64", "math/bits.Sub64"], unfollowed := true, recurses := true, named := ["math/bits.divideError", "math/bits.overflowError"], apart := false, narrowed := true }
def ResidueIntegersUptoSaid : Prop := residueIntegersUptoRow.holds Try.pinned (OpenSpec.upto residueIntegersSpec)

/-- 'galoislaw04.ResidueFactors', WHERE WHAT IT READS IS OF BULK AT MOST 1048576: true; the input reads as it did. -/
def residueFactorsUptoRow : OpenClaim := { program := "ytmedflaejnbkoaa", sum := "616bf4c1ada190fcf0dbc5275957e84a29c86b22957bd0daa3850c92f32623f9", func := "galois/galoislaw04.ResidueFactors", spec := "residueFactors", unfollowed := true, recurses := true, apart := false, narrowed := true }
def ResidueFactorsUptoSaid : Prop := residueFactorsUptoRow.holds Try.pinned (OpenSpec.upto residueFactorsSpec)

/-- 'galoislaw04.ResidueSums', WHERE WHAT IT READS IS OF BULK AT MOST 1048576: true; the input reads as it did. -/
def residueSumsUptoRow : OpenClaim := { program := "ytmedflaejnbkoaa", sum := "616bf4c1ada190fcf0dbc5275957e84a29c86b22957bd0daa3850c92f32623f9", func := "galois/galoislaw04.ResidueSums", spec := "residueSums", unfollowed := true, recurses := true, apart := false, narrowed := true }
def ResidueSumsUptoSaid : Prop := residueSumsUptoRow.holds Try.pinned (OpenSpec.upto residueSumsSpec)

end Rows
end Go.Proofs.Ytmedflaejnbkoaa

/- The program's examples hold (awake); what is no modulus. No conditions. -/
import Derived.Test.YtmedflaejnbkoaaS1
import Derived.Test.YtmedflaejnbkoaaQG2
namespace Go.Proofs.Ytmedflaejnbkoaa.Q
open Go.RowKit Go.Proofs.YtmedflaejnbkoaaW.PrintWords Go.Proofs.YtmedflaejnbkoaaW.PrintLast Go.Proofs.YtmedflaejnbkoaaW.PrintMore Go.Proofs.Ytmedflaejnbkoaa.M
set_option linter.unusedVariables false
set_option linter.unusedSimpArgs false

set_option maxRecDepth 100000 in
theorem awake_at : galoislaw04_awake.f 40 = some true := by decide +kernel
theorem awake_ev : Ev galoislaw04_awake.f true := Ev.of galoislaw04_awake.mono awake_at

theorem bad_one {m : Int} (h0 : 1 ≤ m) (h1 : m ≤ 2147483647) : residue_bad.f [m] = some false := by
  simp only [residue_bad.f, List.any_cons, List.any_nil, badP, Bool.or_false]
  rw [decide_eq_false (by omega), decide_eq_false (by omega)]
  rfl
theorem bad_one' {m : Int} (h : ¬ (1 ≤ m ∧ m ≤ 2147483647)) : residue_bad.f [m] = some true := by
  simp only [residue_bad.f, List.any_cons, List.any_nil, badP, Bool.or_false]
  by_cases h0 : m < 1
  · rw [decide_eq_true h0]; rfl
  · rw [decide_eq_false h0, decide_eq_true (by omega)]; rfl
end Go.Proofs.Ytmedflaejnbkoaa.Q

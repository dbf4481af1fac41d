/- Machine side and arithmetic of the law, put together by a program of the session. No conditions. -/
import Derived.Test.YtalnaafmonmlmaaKF12
import Derived.Test.YtalnaafmonmlmaaKF15
section
set_option linter.unusedVariables false
set_option maxRecDepth 100000
set_option maxHeartbeats 8000000
namespace Go.Proofs.Ytalnaafmonmlmaa.Q
open Go.RowKit Go.TT Go.Proofs.YtalnaafmonmlmaaW.PrintWords
theorem l15nine_con  {r1 : Int} {r2 : List Int} (h : l15nine.f = some (r1, r2)) : Con Try.prog 43 [] [(false, ⟨.pr (.int .i64) (.pr (.sl 3 (.int .i64)) (.un)), (r1, (r2, ()))⟩)] := by
 refine con_ (ps := [0]) (res := [(0, some 33)]) ?_ Try.func43 Try.ntmps43
 refine go_ ?_
 unfold l15nine.f at h
 replace h := hs_ h
 repeat' (first | split at h | fail)
 all_goals (first | (cases h <;> (repeat (first | refine fg_ ?_ | refine pg_ ?_ | refine qg_ ?_ | refine an_ ?_ | refine ip_ ?_ | refine in_ ?_)) <;> (first | done | rfl | trivial | (simp; done))))
end Go.Proofs.Ytalnaafmonmlmaa.Q
end

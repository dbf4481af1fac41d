/- Machine side and arithmetic of the law, put together by a program of the session. No conditions. -/
import Derived.Test.YtalnaafmonmlmaaGreatKO12
import Derived.Test.YtalnaafmonmlmaaGreatKO13
import Derived.Test.YtalnaafmonmlmaaGreatKO17
section
set_option linter.unusedVariables false
set_option maxRecDepth 100000
set_option maxHeartbeats 8000000
namespace Go.Proofs.YtalnaafmonmlmaaGreat.Q
open Go.RowKit Go.TT Go.Proofs.YtalnaafmonmlmaaGreatW.PrintWords
theorem fi_MinPoly_con {k : Nat} {a0_0 : Int} {l0_1 : List Int} {l1 : List Int} {r1 : List Int} {r2 : Int} (h : fi_MinPoly.f k a0_0 l0_1 l1 = some (r1, r2)) : Con Tryz.prog 22 [⟨.pr (.int .i64) (.pr (.sl 3 (.int .i64)) (.un)), (a0_0, (l0_1, ()))⟩, ⟨.sl 3 (.int .i64), l1⟩] [(false, ⟨.sl 3 (.int .i64), r1⟩), (false, ⟨.int .i64, r2⟩)] := by
 refine con_ (ps := [0, 1, 2, 4, 5, 6, 7, 8, 9, 10, 11, 12, 13, 14, 16, 17, 23, 42, 43, 44, 45, 81, 82, 83, 84, 85, 90]) (res := [(4, none), (5, none)]) ?_ Tryz.func22 Tryz.ntmps22
 refine go_ ?_
 unfold fi_MinPoly.f at h
 replace h := hs_ h
 repeat' (first | split at h | (refine bnf h fun t e h => ?_; (repeat (first | refine fg_ ?_ | refine pg_ ?_ | refine qg_ ?_ | refine an_ ?_ | refine ip_ ?_ | refine in_ ?_)); refine ⟨_, (by first | exact fi_check_con e | exact gFOne_con e | exact fp_Scale_con e | exact gFAdd_con e | exact gFMul_con e | exact gFFrobenius_con e | exact api_ModPoly_int_63_con e), ?_⟩; refine go_ ?_) | (refine bnf h fun t e h => ?_; (repeat (first | refine fg_ ?_ | refine pg_ ?_ | refine qg_ ?_ | refine an_ ?_ | refine ip_ ?_ | refine in_ ?_ | (refine ⟨_, (by first | exact fi_check_con ‹_› | exact gFOne_con ‹_› | exact fp_Scale_con ‹_› | exact gFAdd_con ‹_› | exact gFMul_con ‹_› | exact gFFrobenius_con ‹_› | exact api_ModPoly_int_63_con ‹_›), ?_⟩; refine go_ ?_))); refine ⟨_, (by first | exact fi_check_con e | exact gFOne_con e | exact fp_Scale_con e | exact gFAdd_con e | exact gFMul_con e | exact gFFrobenius_con e | exact api_ModPoly_int_63_con e), ?_⟩; refine go_ ?_) | fail)
 all_goals first
  | (cases h <;> (repeat (first | refine fg_ ?_ | refine pg_ ?_ | refine qg_ ?_ | refine an_ ?_ | refine ip_ ?_ | refine in_ ?_ | (refine ⟨_, (by first | exact fi_check_con ‹_› | exact gFOne_con ‹_› | exact fp_Scale_con ‹_› | exact gFAdd_con ‹_› | exact gFMul_con ‹_› | exact gFFrobenius_con ‹_› | exact api_ModPoly_int_63_con ‹_›), ?_⟩; refine go_ ?_))) <;> (first | done | rfl | trivial | (simp; done)))
  | (
    (with_reducible have h : fi_MinPoly.l0 _ _ _ _ _ _ _ _ = some (r1, r2) := h)
    repeat (first | refine fg_ ?_ | refine pg_ ?_ | refine qg_ ?_ | refine an_ ?_ | refine ip_ ?_ | refine in_ ?_ | (refine ⟨_, (by first | exact fi_check_con ‹_› | exact gFOne_con ‹_› | exact fp_Scale_con ‹_› | exact gFAdd_con ‹_› | exact gFMul_con ‹_› | exact gFFrobenius_con ‹_› | exact api_ModPoly_int_63_con ‹_›), ?_⟩; refine go_ ?_))
    refine lp [(1, .row 3 (.int .i64)), (8, .row 23 (.sl 3 (.int .i64))), (9, .row 3 (.int .i64)), (2, .box), (7, .box)] fun X0 hX0 => ?_
    refine go_ ?_
    have key : ∀ k x1 x8 x9 x102000 x102001 x107000 x107001, fi_MinPoly.l0 k x1 x8 x9 x102000 x102001 x107000 x107001 = some (r1, r2) → X0 ⟨lkp .bot [(7, .ptr 14 0 []), (2, .ptr 4 0 []), (9, .ro (.sl 3 (.int .i64)) x9), (8, .ro (.sl 23 (.sl 3 (.int .i64))) x8), (1, .ro (.sl 3 (.int .i64)) x1)], lkp none [(14, some ⟨66, .pr (.pr (.int .i64) (.pr (.sl 3 (.int .i64)) (.un))) (.un), [((x107000, (x107001, ())), ())], true⟩), (4, some ⟨25, .pr (.int .i64) (.pr (.sl 3 (.int .i64)) (.un)), [(x102000, (x102001, ()))], true⟩)], 0⟩ := by
     refine sind fun k ih0 x1 x8 x9 x102000 x102001 x107000 x107001 h => hX0 _ ?_
     clear hX0
     rcases k with _ | k
     ·cases h
     unfold fi_MinPoly.l0 at h
     replace h := hs_ h
     refine go_ ?_
     repeat' (first | split at h | (refine bnf h fun t e h => ?_; (repeat (first | refine fg_ ?_ | refine pg_ ?_ | refine qg_ ?_ | refine an_ ?_ | refine ip_ ?_ | refine in_ ?_)); refine ⟨_, (by first | exact fi_check_con e | exact gFOne_con e | exact fp_Scale_con e | exact gFAdd_con e | exact gFMul_con e | exact gFFrobenius_con e | exact api_ModPoly_int_63_con e), ?_⟩; refine go_ ?_) | (refine bnf h fun t e h => ?_; (repeat (first | refine fg_ ?_ | refine pg_ ?_ | refine qg_ ?_ | refine an_ ?_ | refine ip_ ?_ | refine in_ ?_ | (refine ⟨_, (by first | exact fi_check_con ‹_› | exact gFOne_con ‹_› | exact fp_Scale_con ‹_› | exact gFAdd_con ‹_› | exact gFMul_con ‹_› | exact gFFrobenius_con ‹_› | exact api_ModPoly_int_63_con ‹_›), ?_⟩; refine go_ ?_))); refine ⟨_, (by first | exact fi_check_con e | exact gFOne_con e | exact fp_Scale_con e | exact gFAdd_con e | exact gFMul_con e | exact gFFrobenius_con e | exact api_ModPoly_int_63_con e), ?_⟩; refine go_ ?_) | fail)
     all_goals first
      | ((repeat (first | refine fg_ ?_ | refine pg_ ?_ | refine qg_ ?_ | refine an_ ?_ | refine ip_ ?_ | refine in_ ?_ | (refine ⟨_, (by first | exact fi_check_con ‹_› | exact gFOne_con ‹_› | exact fp_Scale_con ‹_› | exact gFAdd_con ‹_› | exact gFMul_con ‹_› | exact gFFrobenius_con ‹_› | exact api_ModPoly_int_63_con ‹_›), ?_⟩; refine go_ ?_))); exact ih0 _ (by omega) _ _ _ _ _ _ _ h)
      | (cases h <;> (repeat (first | refine fg_ ?_ | refine pg_ ?_ | refine qg_ ?_ | refine an_ ?_ | refine ip_ ?_ | refine in_ ?_ | (refine ⟨_, (by first | exact fi_check_con ‹_› | exact gFOne_con ‹_› | exact fp_Scale_con ‹_› | exact gFAdd_con ‹_› | exact gFMul_con ‹_› | exact gFFrobenius_con ‹_› | exact api_ModPoly_int_63_con ‹_›), ?_⟩; refine go_ ?_))) <;> (first | done | rfl | trivial | (simp; done)))
      | (
       (with_reducible have h : fi_MinPoly.l1 _ _ _ _ _ _ _ _ _ _ _ _ = some (r1, r2) := h)
       repeat (first | refine fg_ ?_ | refine pg_ ?_ | refine qg_ ?_ | refine an_ ?_ | refine ip_ ?_ | refine in_ ?_ | (refine ⟨_, (by first | exact fi_check_con ‹_› | exact gFOne_con ‹_› | exact fp_Scale_con ‹_› | exact gFAdd_con ‹_› | exact gFMul_con ‹_› | exact gFFrobenius_con ‹_› | exact api_ModPoly_int_63_con ‹_›), ?_⟩; refine go_ ?_))
       refine lp [(1, .row 3 (.int .i64)), (9, .row 3 (.int .i64)), (10, .row 3 (.int .i64)), (11, .own 23 (.sl 3 (.int .i64))), (42, .row 23 (.sl 3 (.int .i64))), (43, .keep), (44, .keep), (2, .box), (7, .box)] fun X1 hX1 => ?_
       refine go_ ?_
       have key : ∀ j, j ≤ k → ∀ x1 x9 x10 x11 x42 x43 x44 x102000 x102001 x107000 x107001, fi_MinPoly.l1 j x1 x9 x10 x11 x42 x43 x44 x102000 x102001 x107000 x107001 = some (r1, r2) → X1 ⟨lkp .bot [(7, .ptr 14 0 []), (2, .ptr 4 0 []), (44, .ro (.int .i64) x44), (43, .ro (.int .i64) x43), (42, .ro (.sl 23 (.sl 3 (.int .i64))) x42), (11, .own 22), (10, .ro (.sl 3 (.int .i64)) x10), (9, .ro (.sl 3 (.int .i64)) x9), (1, .ro (.sl 3 (.int .i64)) x1)], lkp none [(14, some ⟨66, .pr (.pr (.int .i64) (.pr (.sl 3 (.int .i64)) (.un))) (.un), [((x107000, (x107001, ())), ())], true⟩), (4, some ⟨25, .pr (.int .i64) (.pr (.sl 3 (.int .i64)) (.un)), [(x102000, (x102001, ()))], true⟩), (22, some ⟨23, .sl 3 (.int .i64), x11, true⟩)], 0⟩ := by
        refine sinb fun k hk1 ih1 x1 x9 x10 x11 x42 x43 x44 x102000 x102001 x107000 x107001 h => hX1 _ ?_
        clear hX1
        rcases k with _ | k
        ·cases h
        unfold fi_MinPoly.l1 at h
        replace h := hs_ h
        refine go_ ?_
        repeat' (first | split at h | (refine bnf h fun t e h => ?_; (repeat (first | refine fg_ ?_ | refine pg_ ?_ | refine qg_ ?_ | refine an_ ?_ | refine ip_ ?_ | refine in_ ?_)); refine ⟨_, (by first | exact fi_check_con e | exact gFOne_con e | exact fp_Scale_con e | exact gFAdd_con e | exact gFMul_con e | exact gFFrobenius_con e | exact api_ModPoly_int_63_con e), ?_⟩; refine go_ ?_) | (refine bnf h fun t e h => ?_; (repeat (first | refine fg_ ?_ | refine pg_ ?_ | refine qg_ ?_ | refine an_ ?_ | refine ip_ ?_ | refine in_ ?_ | (refine ⟨_, (by first | exact fi_check_con ‹_› | exact gFOne_con ‹_› | exact fp_Scale_con ‹_› | exact gFAdd_con ‹_› | exact gFMul_con ‹_› | exact gFFrobenius_con ‹_› | exact api_ModPoly_int_63_con ‹_›), ?_⟩; refine go_ ?_))); refine ⟨_, (by first | exact fi_check_con e | exact gFOne_con e | exact fp_Scale_con e | exact gFAdd_con e | exact gFMul_con e | exact gFFrobenius_con e | exact api_ModPoly_int_63_con e), ?_⟩; refine go_ ?_) | fail)
        all_goals first
         | ((repeat (first | refine fg_ ?_ | refine pg_ ?_ | refine qg_ ?_ | refine an_ ?_ | refine ip_ ?_ | refine in_ ?_ | (refine ⟨_, (by first | exact fi_check_con ‹_› | exact gFOne_con ‹_› | exact fp_Scale_con ‹_› | exact gFAdd_con ‹_› | exact gFMul_con ‹_› | exact gFFrobenius_con ‹_› | exact api_ModPoly_int_63_con ‹_›), ?_⟩; refine go_ ?_))); exact ih1 _ (by omega) _ _ _ _ _ _ _ _ _ _ _ h)
         | ((repeat (first | refine fg_ ?_ | refine pg_ ?_ | refine qg_ ?_ | refine an_ ?_ | refine ip_ ?_ | refine in_ ?_ | (refine ⟨_, (by first | exact fi_check_con ‹_› | exact gFOne_con ‹_› | exact fp_Scale_con ‹_› | exact gFAdd_con ‹_› | exact gFMul_con ‹_› | exact gFFrobenius_con ‹_› | exact api_ModPoly_int_63_con ‹_›), ?_⟩; refine go_ ?_))); exact ih0 _ (by omega) _ _ _ _ _ _ _ h)
         | (cases h <;> (repeat (first | refine fg_ ?_ | refine pg_ ?_ | refine qg_ ?_ | refine an_ ?_ | refine ip_ ?_ | refine in_ ?_ | (refine ⟨_, (by first | exact fi_check_con ‹_› | exact gFOne_con ‹_› | exact fp_Scale_con ‹_› | exact gFAdd_con ‹_› | exact gFMul_con ‹_› | exact gFFrobenius_con ‹_› | exact api_ModPoly_int_63_con ‹_›), ?_⟩; refine go_ ?_))) <;> (first | done | rfl | trivial | (simp; done)))
         | (
           (with_reducible have h : fi_MinPoly.l2 _ _ _ _ _ = some (r1, r2) := h)
           repeat (first | refine fg_ ?_ | refine pg_ ?_ | refine qg_ ?_ | refine an_ ?_ | refine ip_ ?_ | refine in_ ?_ | (refine ⟨_, (by first | exact fi_check_con ‹_› | exact gFOne_con ‹_› | exact fp_Scale_con ‹_› | exact gFAdd_con ‹_› | exact gFMul_con ‹_› | exact gFFrobenius_con ‹_› | exact api_ModPoly_int_63_con ‹_›), ?_⟩; refine go_ ?_))
           refine lp [(14, .own 3 (.int .i64)), (82, .row 23 (.sl 3 (.int .i64))), (83, .keep), (84, .keep)] fun X2 hX2 => ?_
           refine go_ ?_
           have key : ∀ j, j ≤ k → ∀ x14 x82 x83 x84, fi_MinPoly.l2 j x14 x82 x83 x84 = some (r1, r2) → X2 ⟨lkp .bot [(84, .ro (.int .i64) x84), (83, .ro (.int .i64) x83), (82, .ro (.sl 23 (.sl 3 (.int .i64))) x82), (14, .own 28)], lkp none [(28, some ⟨3, .int .i64, x14, true⟩)], 0⟩ := by
            refine sinb fun k hk2 ih2 x14 x82 x83 x84 h => hX2 _ ?_
            clear hX2
            rcases k with _ | k
            ·cases h
            unfold fi_MinPoly.l2 at h
            replace h := hs_ h
            refine go_ ?_
            repeat' (first | split at h | (refine bnf h fun t e h => ?_; (repeat (first | refine fg_ ?_ | refine pg_ ?_ | refine qg_ ?_ | refine an_ ?_ | refine ip_ ?_ | refine in_ ?_)); refine ⟨_, (by first | exact fi_check_con e | exact gFOne_con e | exact fp_Scale_con e | exact gFAdd_con e | exact gFMul_con e | exact gFFrobenius_con e | exact api_ModPoly_int_63_con e), ?_⟩; refine go_ ?_) | (refine bnf h fun t e h => ?_; (repeat (first | refine fg_ ?_ | refine pg_ ?_ | refine qg_ ?_ | refine an_ ?_ | refine ip_ ?_ | refine in_ ?_ | (refine ⟨_, (by first | exact fi_check_con ‹_› | exact gFOne_con ‹_› | exact fp_Scale_con ‹_› | exact gFAdd_con ‹_› | exact gFMul_con ‹_› | exact gFFrobenius_con ‹_› | exact api_ModPoly_int_63_con ‹_›), ?_⟩; refine go_ ?_))); refine ⟨_, (by first | exact fi_check_con e | exact gFOne_con e | exact fp_Scale_con e | exact gFAdd_con e | exact gFMul_con e | exact gFFrobenius_con e | exact api_ModPoly_int_63_con e), ?_⟩; refine go_ ?_) | fail)
            all_goals (first | ((repeat (first | refine fg_ ?_ | refine pg_ ?_ | refine qg_ ?_ | refine an_ ?_ | refine ip_ ?_ | refine in_ ?_ | (refine ⟨_, (by first | exact fi_check_con ‹_› | exact gFOne_con ‹_› | exact fp_Scale_con ‹_› | exact gFAdd_con ‹_› | exact gFMul_con ‹_› | exact gFFrobenius_con ‹_› | exact api_ModPoly_int_63_con ‹_›), ?_⟩; refine go_ ?_))); exact ih2 _ (by omega) _ _ _ _ h) | ((repeat (first | refine fg_ ?_ | refine pg_ ?_ | refine qg_ ?_ | refine an_ ?_ | refine ip_ ?_ | refine in_ ?_ | (refine ⟨_, (by first | exact fi_check_con ‹_› | exact gFOne_con ‹_› | exact fp_Scale_con ‹_› | exact gFAdd_con ‹_› | exact gFMul_con ‹_› | exact gFFrobenius_con ‹_› | exact api_ModPoly_int_63_con ‹_›), ?_⟩; refine go_ ?_))); exact ih1 _ (by omega) _ _ _ _ _ _ _ _ _ _ _ h) | ((repeat (first | refine fg_ ?_ | refine pg_ ?_ | refine qg_ ?_ | refine an_ ?_ | refine ip_ ?_ | refine in_ ?_ | (refine ⟨_, (by first | exact fi_check_con ‹_› | exact gFOne_con ‹_› | exact fp_Scale_con ‹_› | exact gFAdd_con ‹_› | exact gFMul_con ‹_› | exact gFFrobenius_con ‹_› | exact api_ModPoly_int_63_con ‹_›), ?_⟩; refine go_ ?_))); exact ih0 _ (by omega) _ _ _ _ _ _ _ h) | (cases h <;> (repeat (first | refine fg_ ?_ | refine pg_ ?_ | refine qg_ ?_ | refine an_ ?_ | refine ip_ ?_ | refine in_ ?_ | (refine ⟨_, (by first | exact fi_check_con ‹_› | exact gFOne_con ‹_› | exact fp_Scale_con ‹_› | exact gFAdd_con ‹_› | exact gFMul_con ‹_› | exact gFFrobenius_con ‹_› | exact api_ModPoly_int_63_con ‹_›), ?_⟩; refine go_ ?_))) <;> (first | done | rfl | trivial | (simp; done))))
           exact key _ (by omega) _ _ _ _ h)
       exact key _ (by omega) _ _ _ _ _ _ _ _ _ _ _ h)
    exact key _ _ _ _ _ _ _ _ h)
theorem cmp_isNaN_int_con {a0 : Int} {r : Bool} (h : cmp_isNaN_int.f a0 = some r) : Con Tryz.prog 140 [⟨.int .i64, a0⟩] [(false, ⟨.bool, r⟩)] := by
 refine con_ (ps := [0, 2]) (res := [(2, none)]) ?_ Tryz.func140 Tryz.ntmps140
 refine go_ ?_
 unfold cmp_isNaN_int.f at h
 replace h := hs_ h
 repeat' (first | split at h | fail)
 all_goals (first | (cases h <;> (repeat (first | refine fg_ ?_ | refine pg_ ?_ | refine qg_ ?_ | refine an_ ?_ | refine ip_ ?_ | refine in_ ?_)) <;> (first | done | rfl | trivial | (simp; done))))
theorem cmp_Compare_int_con {a0 : Int} {a1 : Int} {r : Int} (h : cmp_Compare_int.f a0 a1 = some r) : Con Tryz.prog 127 [⟨.int .i64, a0⟩, ⟨.int .i64, a1⟩] [(false, ⟨.int .i64, r⟩)] := by
 refine con_ (ps := [0, 1, 4, 5, 6, 11, 12, 13, 16, 19]) (res := [(4, none)]) ?_ Tryz.func127 Tryz.ntmps127
 refine go_ ?_
 unfold cmp_Compare_int.f at h
 replace h := hs_ h
 repeat' (first | split at h | (refine bnf h fun t e h => ?_; (repeat (first | refine fg_ ?_ | refine pg_ ?_ | refine qg_ ?_ | refine an_ ?_ | refine ip_ ?_ | refine in_ ?_)); refine ⟨_, (by first | exact cmp_isNaN_int_con e), ?_⟩; refine go_ ?_) | (refine bnf h fun t e h => ?_; (repeat (first | refine fg_ ?_ | refine pg_ ?_ | refine qg_ ?_ | refine an_ ?_ | refine ip_ ?_ | refine in_ ?_ | (refine ⟨_, (by first | exact cmp_isNaN_int_con ‹_›), ?_⟩; refine go_ ?_))); refine ⟨_, (by first | exact cmp_isNaN_int_con e), ?_⟩; refine go_ ?_) | fail)
 all_goals (first | (cases h <;> (repeat (first | refine fg_ ?_ | refine pg_ ?_ | refine qg_ ?_ | refine an_ ?_ | refine ip_ ?_ | refine in_ ?_ | (refine ⟨_, (by first | exact cmp_isNaN_int_con ‹_›), ?_⟩; refine go_ ?_))) <;> (first | done | rfl | trivial | (simp; done))))
theorem api_ModPoly_int_99_con {k : Nat} {l0 : List Int} {l1 : List Int} {r : Int} (h : api_ModPoly_int_99.f k l0 l1 = some r) : Con Tryz.prog 99 [⟨.sl 3 (.int .i64), l0⟩, ⟨.sl 3 (.int .i64), l1⟩] [(false, ⟨.int .i64, r⟩)] := by
 refine con_ (ps := [0, 1, 4, 5, 6, 7, 8, 9, 10, 11, 12, 19, 28, 35]) (res := [(4, none)]) ?_ Tryz.func99 Tryz.ntmps99
 refine go_ ?_
 unfold api_ModPoly_int_99.f at h
 replace h := hs_ h
 repeat' (first | split at h | (refine bnf h fun t e h => ?_; (repeat (first | refine fg_ ?_ | refine pg_ ?_ | refine qg_ ?_ | refine an_ ?_ | refine ip_ ?_ | refine in_ ?_)); refine ⟨_, (by first | exact cmp_Compare_int_con e), ?_⟩; refine go_ ?_) | (refine bnf h fun t e h => ?_; (repeat (first | refine fg_ ?_ | refine pg_ ?_ | refine qg_ ?_ | refine an_ ?_ | refine ip_ ?_ | refine in_ ?_ | (refine ⟨_, (by first | exact cmp_Compare_int_con ‹_›), ?_⟩; refine go_ ?_))); refine ⟨_, (by first | exact cmp_Compare_int_con e), ?_⟩; refine go_ ?_) | fail)
 all_goals first
  | (cases h <;> (repeat (first | refine fg_ ?_ | refine pg_ ?_ | refine qg_ ?_ | refine an_ ?_ | refine ip_ ?_ | refine in_ ?_ | (refine ⟨_, (by first | exact cmp_Compare_int_con ‹_›), ?_⟩; refine go_ ?_))) <;> (first | done | rfl | trivial | (simp; done)))
  | (
    (with_reducible have h : api_ModPoly_int_99.l0 _ _ _ _ _ _ = some r := h)
    repeat (first | refine fg_ ?_ | refine pg_ ?_ | refine qg_ ?_ | refine an_ ?_ | refine ip_ ?_ | refine in_ ?_ | (refine ⟨_, (by first | exact cmp_Compare_int_con ‹_›), ?_⟩; refine go_ ?_))
    refine lp [(0, .row 3 (.int .i64)), (1, .row 3 (.int .i64)), (9, .row 3 (.int .i64)), (10, .keep), (11, .keep)] fun X0 hX0 => ?_
    refine go_ ?_
    have key : ∀ k x0 x1 x9 x10 x11, api_ModPoly_int_99.l0 k x0 x1 x9 x10 x11 = some r → X0 ⟨lkp .bot [(11, .ro (.int .i64) x11), (10, .ro (.int .i64) x10), (9, .ro (.sl 3 (.int .i64)) x9), (1, .ro (.sl 3 (.int .i64)) x1), (0, .ro (.sl 3 (.int .i64)) x0)], lkp none [], 0⟩ := by
     refine sind fun k ih0 x0 x1 x9 x10 x11 h => hX0 _ ?_
     clear hX0
     rcases k with _ | k
     ·cases h
     unfold api_ModPoly_int_99.l0 at h
     replace h := hs_ h
     refine go_ ?_
     repeat' (first | split at h | (refine bnf h fun t e h => ?_; (repeat (first | refine fg_ ?_ | refine pg_ ?_ | refine qg_ ?_ | refine an_ ?_ | refine ip_ ?_ | refine in_ ?_)); refine ⟨_, (by first | exact cmp_Compare_int_con e), ?_⟩; refine go_ ?_) | (refine bnf h fun t e h => ?_; (repeat (first | refine fg_ ?_ | refine pg_ ?_ | refine qg_ ?_ | refine an_ ?_ | refine ip_ ?_ | refine in_ ?_ | (refine ⟨_, (by first | exact cmp_Compare_int_con ‹_›), ?_⟩; refine go_ ?_))); refine ⟨_, (by first | exact cmp_Compare_int_con e), ?_⟩; refine go_ ?_) | fail)
     all_goals (first | ((repeat (first | refine fg_ ?_ | refine pg_ ?_ | refine qg_ ?_ | refine an_ ?_ | refine ip_ ?_ | refine in_ ?_ | (refine ⟨_, (by first | exact cmp_Compare_int_con ‹_›), ?_⟩; refine go_ ?_))); exact ih0 _ (by omega) _ _ _ _ _ h) | (cases h <;> (repeat (first | refine fg_ ?_ | refine pg_ ?_ | refine qg_ ?_ | refine an_ ?_ | refine ip_ ?_ | refine in_ ?_ | (refine ⟨_, (by first | exact cmp_Compare_int_con ‹_›), ?_⟩; refine go_ ?_))) <;> (first | done | rfl | trivial | (simp; done))))
    exact key _ _ _ _ _ _ h)
theorem pm_Compare_con {k : Nat} {l0 : List Int} {l1 : List Int} {r : Int} (h : pm_Compare.f k l0 l1 = some r) : Con Tryz.prog 67 [⟨.sl 3 (.int .i64), l0⟩, ⟨.sl 3 (.int .i64), l1⟩] [(false, ⟨.int .i64, r⟩)] := by
 refine con_ (ps := [0, 1, 4, 9, 14]) (res := [(4, none)]) ?_ Tryz.func67 Tryz.ntmps67
 refine go_ ?_
 unfold pm_Compare.f at h
 replace h := hs_ h
 repeat' (first | split at h | (refine bnf h fun t e h => ?_; (repeat (first | refine fg_ ?_ | refine pg_ ?_ | refine qg_ ?_ | refine an_ ?_ | refine ip_ ?_ | refine in_ ?_)); refine ⟨_, (by first | exact api_ModPoly_int_99_con e), ?_⟩; refine go_ ?_) | (refine bnf h fun t e h => ?_; (repeat (first | refine fg_ ?_ | refine pg_ ?_ | refine qg_ ?_ | refine an_ ?_ | refine ip_ ?_ | refine in_ ?_ | (refine ⟨_, (by first | exact api_ModPoly_int_99_con ‹_›), ?_⟩; refine go_ ?_))); refine ⟨_, (by first | exact api_ModPoly_int_99_con e), ?_⟩; refine go_ ?_) | fail)
 all_goals (first | (cases h <;> (repeat (first | refine fg_ ?_ | refine pg_ ?_ | refine qg_ ?_ | refine an_ ?_ | refine ip_ ?_ | refine in_ ?_ | (refine ⟨_, (by first | exact api_ModPoly_int_99_con ‹_›), ?_⟩; refine go_ ?_))) <;> (first | done | rfl | trivial | (simp; done))))
theorem r15Mul_con {k : Nat} {a0_0 : Int} {l0_1 : List Int} {l1 : List Int} {l2 : List Int} {r : List Int} (h : r15Mul.f k a0_0 l0_1 l1 l2 = some r) : Con Tryz.prog 17 [⟨.pr (.int .i64) (.pr (.sl 3 (.int .i64)) (.un)), (a0_0, (l0_1, ()))⟩, ⟨.sl 3 (.int .i64), l1⟩, ⟨.sl 3 (.int .i64), l2⟩] [(false, ⟨.sl 3 (.int .i64), r⟩)] := by
 refine con_ (ps := [0, 1, 2, 3, 6]) (res := [(6, none)]) ?_ Tryz.func17 Tryz.ntmps17
 refine go_ ?_
 unfold r15Mul.f at h
 replace h := hs_ h
 repeat' (first | split at h | (refine bnf h fun t e h => ?_; (repeat (first | refine fg_ ?_ | refine pg_ ?_ | refine qg_ ?_ | refine an_ ?_ | refine ip_ ?_ | refine in_ ?_)); refine ⟨_, (by first | exact r9MulMod_con e), ?_⟩; refine go_ ?_) | (refine bnf h fun t e h => ?_; (repeat (first | refine fg_ ?_ | refine pg_ ?_ | refine qg_ ?_ | refine an_ ?_ | refine ip_ ?_ | refine in_ ?_ | (refine ⟨_, (by first | exact r9MulMod_con ‹_›), ?_⟩; refine go_ ?_))); refine ⟨_, (by first | exact r9MulMod_con e), ?_⟩; refine go_ ?_) | fail)
 all_goals (first | (cases h <;> (repeat (first | refine fg_ ?_ | refine pg_ ?_ | refine qg_ ?_ | refine an_ ?_ | refine ip_ ?_ | refine in_ ?_ | (refine ⟨_, (by first | exact r9MulMod_con ‹_›), ?_⟩; refine go_ ?_))) <;> (first | done | rfl | trivial | (simp; done))))
theorem r15MultiplicativeOrder_con {k : Nat} {a0_0 : Int} {l0_1 : List Int} {l1 : List Int} {r : Int} (h : r15MultiplicativeOrder.f k a0_0 l0_1 l1 = some r) : Con Tryz.prog 25 [⟨.pr (.int .i64) (.pr (.sl 3 (.int .i64)) (.un)), (a0_0, (l0_1, ()))⟩, ⟨.sl 3 (.int .i64), l1⟩] [(false, ⟨.int .i64, r⟩)] := by
 refine con_ (ps := [0, 1, 2, 4, 5, 6, 11]) (res := [(4, none)]) ?_ Tryz.func25 Tryz.ntmps25
 refine go_ ?_
 unfold r15MultiplicativeOrder.f at h
 replace h := hs_ h
 repeat' (first | split at h | (refine bnf h fun t e h => ?_; (repeat (first | refine fg_ ?_ | refine pg_ ?_ | refine qg_ ?_ | refine an_ ?_ | refine ip_ ?_ | refine in_ ?_)); refine ⟨_, (by first | exact r9Same_con e | exact r15Mul_con e), ?_⟩; refine go_ ?_) | (refine bnf h fun t e h => ?_; (repeat (first | refine fg_ ?_ | refine pg_ ?_ | refine qg_ ?_ | refine an_ ?_ | refine ip_ ?_ | refine in_ ?_ | (refine ⟨_, (by first | exact r9Same_con ‹_› | exact r15Mul_con ‹_›), ?_⟩; refine go_ ?_))); refine ⟨_, (by first | exact r9Same_con e | exact r15Mul_con e), ?_⟩; refine go_ ?_) | fail)
 all_goals first
  | (cases h <;> (repeat (first | refine fg_ ?_ | refine pg_ ?_ | refine qg_ ?_ | refine an_ ?_ | refine ip_ ?_ | refine in_ ?_ | (refine ⟨_, (by first | exact r9Same_con ‹_› | exact r15Mul_con ‹_›), ?_⟩; refine go_ ?_))) <;> (first | done | rfl | trivial | (simp; done)))
  | (
    (with_reducible have h : r15MultiplicativeOrder.l0 _ _ _ _ _ _ = some r := h)
    repeat (first | refine fg_ ?_ | refine pg_ ?_ | refine qg_ ?_ | refine an_ ?_ | refine ip_ ?_ | refine in_ ?_ | (refine ⟨_, (by first | exact r9Same_con ‹_› | exact r15Mul_con ‹_›), ?_⟩; refine go_ ?_))
    refine lp [(1, .row 3 (.int .i64)), (5, .keep), (6, .row 3 (.int .i64)), (2, .box)] fun X0 hX0 => ?_
    refine go_ ?_
    have key : ∀ k x1 x5 x6 x102000 x102001, r15MultiplicativeOrder.l0 k x1 x5 x6 x102000 x102001 = some r → X0 ⟨lkp .bot [(2, .ptr 4 0 []), (6, .ro (.sl 3 (.int .i64)) x6), (5, .ro (.int .i64) x5), (1, .ro (.sl 3 (.int .i64)) x1)], lkp none [(4, some ⟨25, .pr (.int .i64) (.pr (.sl 3 (.int .i64)) (.un)), [(x102000, (x102001, ()))], true⟩)], 0⟩ := by
     refine sind fun k ih0 x1 x5 x6 x102000 x102001 h => hX0 _ ?_
     clear hX0
     rcases k with _ | k
     ·cases h
     unfold r15MultiplicativeOrder.l0 at h
     replace h := hs_ h
     refine go_ ?_
     repeat' (first | split at h | (refine bnf h fun t e h => ?_; (repeat (first | refine fg_ ?_ | refine pg_ ?_ | refine qg_ ?_ | refine an_ ?_ | refine ip_ ?_ | refine in_ ?_)); refine ⟨_, (by first | exact r9Same_con e | exact r15Mul_con e), ?_⟩; refine go_ ?_) | (refine bnf h fun t e h => ?_; (repeat (first | refine fg_ ?_ | refine pg_ ?_ | refine qg_ ?_ | refine an_ ?_ | refine ip_ ?_ | refine in_ ?_ | (refine ⟨_, (by first | exact r9Same_con ‹_› | exact r15Mul_con ‹_›), ?_⟩; refine go_ ?_))); refine ⟨_, (by first | exact r9Same_con e | exact r15Mul_con e), ?_⟩; refine go_ ?_) | fail)
     all_goals (first | ((repeat (first | refine fg_ ?_ | refine pg_ ?_ | refine qg_ ?_ | refine an_ ?_ | refine ip_ ?_ | refine in_ ?_ | (refine ⟨_, (by first | exact r9Same_con ‹_› | exact r15Mul_con ‹_›), ?_⟩; refine go_ ?_))); exact ih0 _ (by omega) _ _ _ _ _ h) | (cases h <;> (repeat (first | refine fg_ ?_ | refine pg_ ?_ | refine qg_ ?_ | refine an_ ?_ | refine ip_ ?_ | refine in_ ?_ | (refine ⟨_, (by first | exact r9Same_con ‹_› | exact r15Mul_con ‹_›), ?_⟩; refine go_ ?_))) <;> (first | done | rfl | trivial | (simp; done))))
    exact key _ _ _ _ _ _ h)
theorem r15Element_con {k : Nat} {a0_0 : Int} {l0_1 : List Int} {a1 : Int} {r : List Int} (h : r15Element.f k a0_0 l0_1 a1 = some r) : Con Tryz.prog 35 [⟨.pr (.int .i64) (.pr (.sl 3 (.int .i64)) (.un)), (a0_0, (l0_1, ()))⟩, ⟨.int .i64, a1⟩] [(false, ⟨.sl 3 (.int .i64), r⟩)] := by
 refine con_ (ps := [0, 1, 2, 4, 5, 7]) (res := [(4, none)]) ?_ Tryz.func35 Tryz.ntmps35
 refine go_ ?_
 unfold r15Element.f at h
 replace h := hs_ h
 repeat' (first | split at h | fail)
 all_goals first
  | (cases h <;> (repeat (first | refine fg_ ?_ | refine pg_ ?_ | refine qg_ ?_ | refine an_ ?_ | refine ip_ ?_ | refine in_ ?_)) <;> (first | done | rfl | trivial | (simp; done)))
  | (
    (with_reducible have h : r15Element.l0 _ _ _ _ _ = some r := h)
    repeat (first | refine fg_ ?_ | refine pg_ ?_ | refine qg_ ?_ | refine an_ ?_ | refine ip_ ?_ | refine in_ ?_)
    refine lp [(1, .keep), (5, .own 3 (.int .i64)), (2, .box)] fun X0 hX0 => ?_
    refine go_ ?_
    have key : ∀ k x1 x5 x102000 x102001, r15Element.l0 k x1 x5 x102000 x102001 = some r → X0 ⟨lkp .bot [(2, .ptr 4 0 []), (5, .own 10), (1, .ro (.int .i64) x1)], lkp none [(4, some ⟨25, .pr (.int .i64) (.pr (.sl 3 (.int .i64)) (.un)), [(x102000, (x102001, ()))], true⟩), (10, some ⟨3, .int .i64, x5, true⟩)], 0⟩ := by
     refine sind fun k ih0 x1 x5 x102000 x102001 h => hX0 _ ?_
     clear hX0
     rcases k with _ | k
     ·cases h
     unfold r15Element.l0 at h
     replace h := hs_ h
     refine go_ ?_
     repeat' (first | split at h | fail)
     all_goals (first | ((repeat (first | refine fg_ ?_ | refine pg_ ?_ | refine qg_ ?_ | refine an_ ?_ | refine ip_ ?_ | refine in_ ?_)); exact ih0 _ (by omega) _ _ _ _ h) | (cases h <;> (repeat (first | refine fg_ ?_ | refine pg_ ?_ | refine qg_ ?_ | refine an_ ?_ | refine ip_ ?_ | refine in_ ?_)) <;> (first | done | rfl | trivial | (simp; done))))
    exact key _ _ _ _ _ h)
theorem r15Generator_con {k : Nat} {a0_0 : Int} {l0_1 : List Int} {r : List Int} (h : r15Generator.f k a0_0 l0_1 = some r) : Con Tryz.prog 24 [⟨.pr (.int .i64) (.pr (.sl 3 (.int .i64)) (.un)), (a0_0, (l0_1, ()))⟩] [(false, ⟨.sl 3 (.int .i64), r⟩)] := by
 refine con_ (ps := [0, 1, 2, 3, 4, 9, 19]) (res := [(2, none)]) ?_ Tryz.func24 Tryz.ntmps24
 refine go_ ?_
 unfold r15Generator.f at h
 replace h := hs_ h
 repeat' (first | split at h | (refine bnf h fun t e h => ?_; (repeat (first | refine fg_ ?_ | refine pg_ ?_ | refine qg_ ?_ | refine an_ ?_ | refine ip_ ?_ | refine in_ ?_)); refine ⟨_, (by first | exact r15Size_con e | exact r15Element_con e | exact r15MultiplicativeOrder_con e), ?_⟩; refine go_ ?_) | (refine bnf h fun t e h => ?_; (repeat (first | refine fg_ ?_ | refine pg_ ?_ | refine qg_ ?_ | refine an_ ?_ | refine ip_ ?_ | refine in_ ?_ | (refine ⟨_, (by first | exact r15Size_con ‹_› | exact r15Element_con ‹_› | exact r15MultiplicativeOrder_con ‹_›), ?_⟩; refine go_ ?_))); refine ⟨_, (by first | exact r15Size_con e | exact r15Element_con e | exact r15MultiplicativeOrder_con e), ?_⟩; refine go_ ?_) | fail)
 all_goals first
  | (cases h <;> (repeat (first | refine fg_ ?_ | refine pg_ ?_ | refine qg_ ?_ | refine an_ ?_ | refine ip_ ?_ | refine in_ ?_ | (refine ⟨_, (by first | exact r15Size_con ‹_› | exact r15Element_con ‹_› | exact r15MultiplicativeOrder_con ‹_›), ?_⟩; refine go_ ?_))) <;> (first | done | rfl | trivial | (simp; done)))
  | (
    (with_reducible have h : r15Generator.l0 _ _ _ _ _ = some r := h)
    repeat (first | refine fg_ ?_ | refine pg_ ?_ | refine qg_ ?_ | refine an_ ?_ | refine ip_ ?_ | refine in_ ?_ | (refine ⟨_, (by first | exact r15Size_con ‹_› | exact r15Element_con ‹_› | exact r15MultiplicativeOrder_con ‹_›), ?_⟩; refine go_ ?_))
    refine lp [(3, .keep), (4, .keep), (1, .box)] fun X0 hX0 => ?_
    refine go_ ?_
    have key : ∀ k x3 x4 x102000 x102001, r15Generator.l0 k x3 x4 x102000 x102001 = some r → X0 ⟨lkp .bot [(1, .ptr 2 0 []), (4, .ro (.int .i64) x4), (3, .ro (.int .i64) x3)], lkp none [(2, some ⟨25, .pr (.int .i64) (.pr (.sl 3 (.int .i64)) (.un)), [(x102000, (x102001, ()))], true⟩)], 0⟩ := by
     refine sind fun k ih0 x3 x4 x102000 x102001 h => hX0 _ ?_
     clear hX0
     rcases k with _ | k
     ·cases h
     unfold r15Generator.l0 at h
     replace h := hs_ h
     refine go_ ?_
     repeat' (first | split at h | (refine bnf h fun t e h => ?_; (repeat (first | refine fg_ ?_ | refine pg_ ?_ | refine qg_ ?_ | refine an_ ?_ | refine ip_ ?_ | refine in_ ?_)); refine ⟨_, (by first | exact r15Size_con e | exact r15Element_con e | exact r15MultiplicativeOrder_con e), ?_⟩; refine go_ ?_) | (refine bnf h fun t e h => ?_; (repeat (first | refine fg_ ?_ | refine pg_ ?_ | refine qg_ ?_ | refine an_ ?_ | refine ip_ ?_ | refine in_ ?_ | (refine ⟨_, (by first | exact r15Size_con ‹_› | exact r15Element_con ‹_› | exact r15MultiplicativeOrder_con ‹_›), ?_⟩; refine go_ ?_))); refine ⟨_, (by first | exact r15Size_con e | exact r15Element_con e | exact r15MultiplicativeOrder_con e), ?_⟩; refine go_ ?_) | fail)
     all_goals (first | ((repeat (first | refine fg_ ?_ | refine pg_ ?_ | refine qg_ ?_ | refine an_ ?_ | refine ip_ ?_ | refine in_ ?_ | (refine ⟨_, (by first | exact r15Size_con ‹_› | exact r15Element_con ‹_› | exact r15MultiplicativeOrder_con ‹_›), ?_⟩; refine go_ ?_))); exact ih0 _ (by omega) _ _ _ _ h) | (cases h <;> (repeat (first | refine fg_ ?_ | refine pg_ ?_ | refine qg_ ?_ | refine an_ ?_ | refine ip_ ?_ | refine in_ ?_ | (refine ⟨_, (by first | exact r15Size_con ‹_› | exact r15Element_con ‹_› | exact r15MultiplicativeOrder_con ‹_›), ?_⟩; refine go_ ?_))) <;> (first | done | rfl | trivial | (simp; done))))
    exact key _ _ _ _ _ h)
theorem r9Compare_con {k : Nat} {l0 : List Int} {l1 : List Int} {r : Int} (h : r9Compare.f k l0 l1 = some r) : Con Tryz.prog 68 [⟨.sl 3 (.int .i64), l0⟩, ⟨.sl 3 (.int .i64), l1⟩] [(false, ⟨.int .i64, r⟩)] := by
 refine con_ (ps := [0, 1, 4, 5, 10, 15, 19, 30, 39]) (res := [(4, none)]) ?_ Tryz.func68 Tryz.ntmps68
 refine go_ ?_
 unfold r9Compare.f at h
 replace h := hs_ h
 repeat' (first | split at h | fail)
 all_goals first
  | (cases h <;> (repeat (first | refine fg_ ?_ | refine pg_ ?_ | refine qg_ ?_ | refine an_ ?_ | refine ip_ ?_ | refine in_ ?_)) <;> (first | done | rfl | trivial | (simp; done)))
  | (
    (with_reducible have h : r9Compare.l0 _ _ _ _ = some r := h)
    repeat (first | refine fg_ ?_ | refine pg_ ?_ | refine qg_ ?_ | refine an_ ?_ | refine ip_ ?_ | refine in_ ?_)
    refine lp [(0, .row 3 (.int .i64)), (1, .row 3 (.int .i64)), (5, .keep)] fun X0 hX0 => ?_
    refine go_ ?_
    have key : ∀ k x0 x1 x5, r9Compare.l0 k x0 x1 x5 = some r → X0 ⟨lkp .bot [(5, .ro (.int .i64) x5), (1, .ro (.sl 3 (.int .i64)) x1), (0, .ro (.sl 3 (.int .i64)) x0)], lkp none [], 0⟩ := by
     refine sind fun k ih0 x0 x1 x5 h => hX0 _ ?_
     clear hX0
     rcases k with _ | k
     ·cases h
     unfold r9Compare.l0 at h
     replace h := hs_ h
     refine go_ ?_
     repeat' (first | split at h | fail)
     all_goals (first | ((repeat (first | refine fg_ ?_ | refine pg_ ?_ | refine qg_ ?_ | refine an_ ?_ | refine ip_ ?_ | refine in_ ?_)); exact ih0 _ (by omega) _ _ _ h) | (cases h <;> (repeat (first | refine fg_ ?_ | refine pg_ ?_ | refine qg_ ?_ | refine an_ ?_ | refine ip_ ?_ | refine in_ ?_)) <;> (first | done | rfl | trivial | (simp; done))))
    exact key _ _ _ _ h)
theorem r15SquareRoot_con {k : Nat} {a0_0 : Int} {l0_1 : List Int} {l1 : List Int} {r1 : List Int} {r2 : Bool} (h : r15SquareRoot.f k a0_0 l0_1 l1 = some (r1, r2)) : Con Tryz.prog 26 [⟨.pr (.int .i64) (.pr (.sl 3 (.int .i64)) (.un)), (a0_0, (l0_1, ()))⟩, ⟨.sl 3 (.int .i64), l1⟩] [(false, ⟨.sl 3 (.int .i64), r1⟩), (false, ⟨.bool, r2⟩)] := by
 refine con_ (ps := [0, 1, 2, 4, 5, 6, 7, 8, 9, 10, 15, 36]) (res := [(4, none), (5, none)]) ?_ Tryz.func26 Tryz.ntmps26
 refine go_ ?_
 unfold r15SquareRoot.f at h
 replace h := hs_ h
 repeat' (first | split at h | (refine bnf h fun t e h => ?_; (repeat (first | refine fg_ ?_ | refine pg_ ?_ | refine qg_ ?_ | refine an_ ?_ | refine ip_ ?_ | refine in_ ?_)); refine ⟨_, (by first | exact r15Size_con e | exact r15Element_con e | exact r15Mul_con e | exact r9Same_con e | exact r9Compare_con e), ?_⟩; refine go_ ?_) | (refine bnf h fun t e h => ?_; (repeat (first | refine fg_ ?_ | refine pg_ ?_ | refine qg_ ?_ | refine an_ ?_ | refine ip_ ?_ | refine in_ ?_ | (refine ⟨_, (by first | exact r15Size_con ‹_› | exact r15Element_con ‹_› | exact r15Mul_con ‹_› | exact r9Same_con ‹_› | exact r9Compare_con ‹_›), ?_⟩; refine go_ ?_))); refine ⟨_, (by first | exact r15Size_con e | exact r15Element_con e | exact r15Mul_con e | exact r9Same_con e | exact r9Compare_con e), ?_⟩; refine go_ ?_) | fail)
 all_goals first
  | (cases h <;> (repeat (first | refine fg_ ?_ | refine pg_ ?_ | refine qg_ ?_ | refine an_ ?_ | refine ip_ ?_ | refine in_ ?_ | (refine ⟨_, (by first | exact r15Size_con ‹_› | exact r15Element_con ‹_› | exact r15Mul_con ‹_› | exact r9Same_con ‹_› | exact r9Compare_con ‹_›), ?_⟩; refine go_ ?_))) <;> (first | done | rfl | trivial | (simp; done)))
  | (
    (with_reducible have h : r15SquareRoot.l0 _ _ _ _ _ _ _ _ = some (r1, r2) := h)
    repeat (first | refine fg_ ?_ | refine pg_ ?_ | refine qg_ ?_ | refine an_ ?_ | refine ip_ ?_ | refine in_ ?_ | (refine ⟨_, (by first | exact r15Size_con ‹_› | exact r15Element_con ‹_› | exact r15Mul_con ‹_› | exact r9Same_con ‹_› | exact r9Compare_con ‹_›), ?_⟩; refine go_ ?_))
    refine lp [(1, .row 3 (.int .i64)), (6, .row 3 (.int .i64)), (7, .keep), (8, .keep), (9, .keep), (2, .box)] fun X0 hX0 => ?_
    refine go_ ?_
    have key : ∀ k x1 x6 x7 x8 x9 x102000 x102001, r15SquareRoot.l0 k x1 x6 x7 x8 x9 x102000 x102001 = some (r1, r2) → X0 ⟨lkp .bot [(2, .ptr 4 0 []), (9, .ro (.int .i64) x9), (8, .ro (.int .i64) x8), (7, .ro (.bool) x7), (6, .ro (.sl 3 (.int .i64)) x6), (1, .ro (.sl 3 (.int .i64)) x1)], lkp none [(4, some ⟨25, .pr (.int .i64) (.pr (.sl 3 (.int .i64)) (.un)), [(x102000, (x102001, ()))], true⟩)], 0⟩ := by
     refine sind fun k ih0 x1 x6 x7 x8 x9 x102000 x102001 h => hX0 _ ?_
     clear hX0
     rcases k with _ | k
     ·cases h
     unfold r15SquareRoot.l0 at h
     replace h := hs_ h
     refine go_ ?_
     repeat' (first | split at h | (refine bnf h fun t e h => ?_; (repeat (first | refine fg_ ?_ | refine pg_ ?_ | refine qg_ ?_ | refine an_ ?_ | refine ip_ ?_ | refine in_ ?_)); refine ⟨_, (by first | exact r15Size_con e | exact r15Element_con e | exact r15Mul_con e | exact r9Same_con e | exact r9Compare_con e), ?_⟩; refine go_ ?_) | (refine bnf h fun t e h => ?_; (repeat (first | refine fg_ ?_ | refine pg_ ?_ | refine qg_ ?_ | refine an_ ?_ | refine ip_ ?_ | refine in_ ?_ | (refine ⟨_, (by first | exact r15Size_con ‹_› | exact r15Element_con ‹_› | exact r15Mul_con ‹_› | exact r9Same_con ‹_› | exact r9Compare_con ‹_›), ?_⟩; refine go_ ?_))); refine ⟨_, (by first | exact r15Size_con e | exact r15Element_con e | exact r15Mul_con e | exact r9Same_con e | exact r9Compare_con e), ?_⟩; refine go_ ?_) | fail)
     all_goals (first | ((repeat (first | refine fg_ ?_ | refine pg_ ?_ | refine qg_ ?_ | refine an_ ?_ | refine ip_ ?_ | refine in_ ?_ | (refine ⟨_, (by first | exact r15Size_con ‹_› | exact r15Element_con ‹_› | exact r15Mul_con ‹_› | exact r9Same_con ‹_› | exact r9Compare_con ‹_›), ?_⟩; refine go_ ?_))); exact ih0 _ (by omega) _ _ _ _ _ _ _ h) | (cases h <;> (repeat (first | refine fg_ ?_ | refine pg_ ?_ | refine qg_ ?_ | refine an_ ?_ | refine ip_ ?_ | refine in_ ?_ | (refine ⟨_, (by first | exact r15Size_con ‹_› | exact r15Element_con ‹_› | exact r15Mul_con ‹_› | exact r9Same_con ‹_› | exact r9Compare_con ‹_›), ?_⟩; refine go_ ?_))) <;> (first | done | rfl | trivial | (simp; done))))
    exact key _ _ _ _ _ _ _ _ h)
theorem r15Pow_con {k : Nat} {a0_0 : Int} {l0_1 : List Int} {l1 : List Int} {a2 : ByteArray} {r : List Int} (h : r15Pow.f k a0_0 l0_1 l1 a2 = some r) : Con Tryz.prog 14 [⟨.pr (.int .i64) (.pr (.sl 3 (.int .i64)) (.un)), (a0_0, (l0_1, ()))⟩, ⟨.sl 3 (.int .i64), l1⟩, ⟨.str, a2⟩] [(false, ⟨.sl 3 (.int .i64), r⟩)] := by
 refine con_ (ps := [0, 1, 2, 3, 6]) (res := [(6, none)]) ?_ Tryz.func14 Tryz.ntmps14
 refine go_ ?_
 unfold r15Pow.f at h
 replace h := hs_ h
 repeat' (first | split at h | (refine bnf h fun t e h => ?_; (repeat (first | refine fg_ ?_ | refine pg_ ?_ | refine qg_ ?_ | refine an_ ?_ | refine ip_ ?_ | refine in_ ?_)); refine ⟨_, (by first | exact r9PowMod_con e), ?_⟩; refine go_ ?_) | (refine bnf h fun t e h => ?_; (repeat (first | refine fg_ ?_ | refine pg_ ?_ | refine qg_ ?_ | refine an_ ?_ | refine ip_ ?_ | refine in_ ?_ | (refine ⟨_, (by first | exact r9PowMod_con ‹_›), ?_⟩; refine go_ ?_))); refine ⟨_, (by first | exact r9PowMod_con e), ?_⟩; refine go_ ?_) | fail)
 all_goals (first | (cases h <;> (repeat (first | refine fg_ ?_ | refine pg_ ?_ | refine qg_ ?_ | refine an_ ?_ | refine ip_ ?_ | refine in_ ?_ | (refine ⟨_, (by first | exact r9PowMod_con ‹_›), ?_⟩; refine go_ ?_))) <;> (first | done | rfl | trivial | (simp; done))))
theorem r15Conjugates_con {k : Nat} {a0_0 : Int} {l0_1 : List Int} {l1 : List Int} {r : List (List Int)} (h : r15Conjugates.f k a0_0 l0_1 l1 = some r) : Con Tryz.prog 69 [⟨.pr (.int .i64) (.pr (.sl 3 (.int .i64)) (.un)), (a0_0, (l0_1, ()))⟩, ⟨.sl 3 (.int .i64), l1⟩] [(false, ⟨.sl 23 (.sl 3 (.int .i64)), r⟩)] := by
 refine con_ (ps := [0, 1, 2, 4, 5, 6, 7, 13, 28]) (res := [(4, none)]) ?_ Tryz.func69 Tryz.ntmps69
 refine go_ ?_
 unfold r15Conjugates.f at h
 replace h := hs_ h
 repeat' (first | split at h | (refine bnf h fun t e h => ?_; (repeat (first | refine fg_ ?_ | refine pg_ ?_ | refine qg_ ?_ | refine an_ ?_ | refine ip_ ?_ | refine in_ ?_)); refine ⟨_, (by first | exact r15Degree_con e | exact r1FromInt_con e | exact r15Pow_con e | exact r9Same_con e), ?_⟩; refine go_ ?_) | (refine bnf h fun t e h => ?_; (repeat (first | refine fg_ ?_ | refine pg_ ?_ | refine qg_ ?_ | refine an_ ?_ | refine ip_ ?_ | refine in_ ?_ | (refine ⟨_, (by first | exact r15Degree_con ‹_› | exact r1FromInt_con ‹_› | exact r15Pow_con ‹_› | exact r9Same_con ‹_›), ?_⟩; refine go_ ?_))); refine ⟨_, (by first | exact r15Degree_con e | exact r1FromInt_con e | exact r15Pow_con e | exact r9Same_con e), ?_⟩; refine go_ ?_) | fail)
 all_goals first
  | (cases h <;> (repeat (first | refine fg_ ?_ | refine pg_ ?_ | refine qg_ ?_ | refine an_ ?_ | refine ip_ ?_ | refine in_ ?_ | (refine ⟨_, (by first | exact r15Degree_con ‹_› | exact r1FromInt_con ‹_› | exact r15Pow_con ‹_› | exact r9Same_con ‹_›), ?_⟩; refine go_ ?_))) <;> (first | done | rfl | trivial | (simp; done)))
  | (
    (with_reducible have h : r15Conjugates.l0 _ _ _ _ _ _ = some r := h)
    repeat (first | refine fg_ ?_ | refine pg_ ?_ | refine qg_ ?_ | refine an_ ?_ | refine ip_ ?_ | refine in_ ?_ | (refine ⟨_, (by first | exact r15Degree_con ‹_› | exact r1FromInt_con ‹_› | exact r15Pow_con ‹_› | exact r9Same_con ‹_›), ?_⟩; refine go_ ?_))
    refine lp [(1, .row 3 (.int .i64)), (5, .own 23 (.sl 3 (.int .i64))), (6, .keep), (2, .box)] fun X0 hX0 => ?_
    refine go_ ?_
    have key : ∀ k x1 x5 x6 x102000 x102001, r15Conjugates.l0 k x1 x5 x6 x102000 x102001 = some r → X0 ⟨lkp .bot [(2, .ptr 4 0 []), (6, .ro (.int .i64) x6), (5, .own 10), (1, .ro (.sl 3 (.int .i64)) x1)], lkp none [(4, some ⟨25, .pr (.int .i64) (.pr (.sl 3 (.int .i64)) (.un)), [(x102000, (x102001, ()))], true⟩), (10, some ⟨23, .sl 3 (.int .i64), x5, true⟩)], 0⟩ := by
     refine sind fun k ih0 x1 x5 x6 x102000 x102001 h => hX0 _ ?_
     clear hX0
     rcases k with _ | k
     ·cases h
     unfold r15Conjugates.l0 at h
     replace h := hs_ h
     refine go_ ?_
     repeat' (first | split at h | (refine bnf h fun t e h => ?_; (repeat (first | refine fg_ ?_ | refine pg_ ?_ | refine qg_ ?_ | refine an_ ?_ | refine ip_ ?_ | refine in_ ?_)); refine ⟨_, (by first | exact r15Degree_con e | exact r1FromInt_con e | exact r15Pow_con e | exact r9Same_con e), ?_⟩; refine go_ ?_) | (refine bnf h fun t e h => ?_; (repeat (first | refine fg_ ?_ | refine pg_ ?_ | refine qg_ ?_ | refine an_ ?_ | refine ip_ ?_ | refine in_ ?_ | (refine ⟨_, (by first | exact r15Degree_con ‹_› | exact r1FromInt_con ‹_› | exact r15Pow_con ‹_› | exact r9Same_con ‹_›), ?_⟩; refine go_ ?_))); refine ⟨_, (by first | exact r15Degree_con e | exact r1FromInt_con e | exact r15Pow_con e | exact r9Same_con e), ?_⟩; refine go_ ?_) | fail)
     all_goals (first | ((repeat (first | refine fg_ ?_ | refine pg_ ?_ | refine qg_ ?_ | refine an_ ?_ | refine ip_ ?_ | refine in_ ?_ | (refine ⟨_, (by first | exact r15Degree_con ‹_› | exact r1FromInt_con ‹_› | exact r15Pow_con ‹_› | exact r9Same_con ‹_›), ?_⟩; refine go_ ?_))); exact ih0 _ (by omega) _ _ _ _ _ h) | (cases h <;> (repeat (first | refine fg_ ?_ | refine pg_ ?_ | refine qg_ ?_ | refine an_ ?_ | refine ip_ ?_ | refine in_ ?_ | (refine ⟨_, (by first | exact r15Degree_con ‹_› | exact r1FromInt_con ‹_› | exact r15Pow_con ‹_› | exact r9Same_con ‹_›), ?_⟩; refine go_ ?_))) <;> (first | done | rfl | trivial | (simp; done))))
    exact key _ _ _ _ _ _ h)
theorem r15Add_con {k : Nat} {a0_0 : Int} {l0_1 : List Int} {l1 : List Int} {l2 : List Int} {r : List Int} (h : r15Add.f k a0_0 l0_1 l1 l2 = some r) : Con Tryz.prog 70 [⟨.pr (.int .i64) (.pr (.sl 3 (.int .i64)) (.un)), (a0_0, (l0_1, ()))⟩, ⟨.sl 3 (.int .i64), l1⟩, ⟨.sl 3 (.int .i64), l2⟩] [(false, ⟨.sl 3 (.int .i64), r⟩)] := by
 refine con_ (ps := [0, 1, 2, 3, 6]) (res := [(6, none)]) ?_ Tryz.func70 Tryz.ntmps70
 refine go_ ?_
 unfold r15Add.f at h
 replace h := hs_ h
 repeat' (first | split at h | (refine bnf h fun t e h => ?_; (repeat (first | refine fg_ ?_ | refine pg_ ?_ | refine qg_ ?_ | refine an_ ?_ | refine ip_ ?_ | refine in_ ?_)); refine ⟨_, (by first | exact r9Add_con e), ?_⟩; refine go_ ?_) | (refine bnf h fun t e h => ?_; (repeat (first | refine fg_ ?_ | refine pg_ ?_ | refine qg_ ?_ | refine an_ ?_ | refine ip_ ?_ | refine in_ ?_ | (refine ⟨_, (by first | exact r9Add_con ‹_›), ?_⟩; refine go_ ?_))); refine ⟨_, (by first | exact r9Add_con e), ?_⟩; refine go_ ?_) | fail)
 all_goals (first | (cases h <;> (repeat (first | refine fg_ ?_ | refine pg_ ?_ | refine qg_ ?_ | refine an_ ?_ | refine ip_ ?_ | refine in_ ?_ | (refine ⟨_, (by first | exact r9Add_con ‹_›), ?_⟩; refine go_ ?_))) <;> (first | done | rfl | trivial | (simp; done))))
theorem r15Sub_con {k : Nat} {a0_0 : Int} {l0_1 : List Int} {l1 : List Int} {l2 : List Int} {r : List Int} (h : r15Sub.f k a0_0 l0_1 l1 l2 = some r) : Con Tryz.prog 71 [⟨.pr (.int .i64) (.pr (.sl 3 (.int .i64)) (.un)), (a0_0, (l0_1, ()))⟩, ⟨.sl 3 (.int .i64), l1⟩, ⟨.sl 3 (.int .i64), l2⟩] [(false, ⟨.sl 3 (.int .i64), r⟩)] := by
 refine con_ (ps := [0, 1, 2, 3, 6]) (res := [(6, none)]) ?_ Tryz.func71 Tryz.ntmps71
 refine go_ ?_
 unfold r15Sub.f at h
 replace h := hs_ h
 repeat' (first | split at h | (refine bnf h fun t e h => ?_; (repeat (first | refine fg_ ?_ | refine pg_ ?_ | refine qg_ ?_ | refine an_ ?_ | refine ip_ ?_ | refine in_ ?_)); refine ⟨_, (by first | exact r9Sub_con e), ?_⟩; refine go_ ?_) | (refine bnf h fun t e h => ?_; (repeat (first | refine fg_ ?_ | refine pg_ ?_ | refine qg_ ?_ | refine an_ ?_ | refine ip_ ?_ | refine in_ ?_ | (refine ⟨_, (by first | exact r9Sub_con ‹_›), ?_⟩; refine go_ ?_))); refine ⟨_, (by first | exact r9Sub_con e), ?_⟩; refine go_ ?_) | fail)
 all_goals (first | (cases h <;> (repeat (first | refine fg_ ?_ | refine pg_ ?_ | refine qg_ ?_ | refine an_ ?_ | refine ip_ ?_ | refine in_ ?_ | (refine ⟨_, (by first | exact r9Sub_con ‹_›), ?_⟩; refine go_ ?_))) <;> (first | done | rfl | trivial | (simp; done))))
theorem r9Eval_con {k : Nat} {a0 : Int} {l1 : List Int} {a2 : Int} {r : Int} (h : r9Eval.f k a0 l1 a2 = some r) : Con Tryz.prog 72 [⟨.int .i64, a0⟩, ⟨.sl 3 (.int .i64), l1⟩, ⟨.int .i64, a2⟩] [(false, ⟨.int .i64, r⟩)] := by
 refine con_ (ps := [0, 1, 2, 6, 7, 8, 16]) (res := [(6, none)]) ?_ Tryz.func72 Tryz.ntmps72
 refine go_ ?_
 unfold r9Eval.f at h
 replace h := hs_ h
 repeat' (first | split at h | (refine bnf h fun t e h => ?_; (repeat (first | refine fg_ ?_ | refine pg_ ?_ | refine qg_ ?_ | refine an_ ?_ | refine ip_ ?_ | refine in_ ?_)); refine ⟨_, (by first | exact r4Mod_con e), ?_⟩; refine go_ ?_) | (refine bnf h fun t e h => ?_; (repeat (first | refine fg_ ?_ | refine pg_ ?_ | refine qg_ ?_ | refine an_ ?_ | refine ip_ ?_ | refine in_ ?_ | (refine ⟨_, (by first | exact r4Mod_con ‹_›), ?_⟩; refine go_ ?_))); refine ⟨_, (by first | exact r4Mod_con e), ?_⟩; refine go_ ?_) | fail)
 all_goals first
  | (cases h <;> (repeat (first | refine fg_ ?_ | refine pg_ ?_ | refine qg_ ?_ | refine an_ ?_ | refine ip_ ?_ | refine in_ ?_ | (refine ⟨_, (by first | exact r4Mod_con ‹_›), ?_⟩; refine go_ ?_))) <;> (first | done | rfl | trivial | (simp; done)))
  | (
    (with_reducible have h : r9Eval.l0 _ _ _ _ _ _ = some r := h)
    repeat (first | refine fg_ ?_ | refine pg_ ?_ | refine qg_ ?_ | refine an_ ?_ | refine ip_ ?_ | refine in_ ?_ | (refine ⟨_, (by first | exact r4Mod_con ‹_›), ?_⟩; refine go_ ?_))
    refine lp [(0, .keep), (1, .row 3 (.int .i64)), (2, .keep), (7, .keep), (8, .keep)] fun X0 hX0 => ?_
    refine go_ ?_
    have key : ∀ k x0 x1 x2 x7 x8, r9Eval.l0 k x0 x1 x2 x7 x8 = some r → X0 ⟨lkp .bot [(8, .ro (.int .i64) x8), (7, .ro (.int .i64) x7), (2, .ro (.int .i64) x2), (1, .ro (.sl 3 (.int .i64)) x1), (0, .ro (.int .i64) x0)], lkp none [], 0⟩ := by
     refine sind fun k ih0 x0 x1 x2 x7 x8 h => hX0 _ ?_
     clear hX0
     rcases k with _ | k
     ·cases h
     unfold r9Eval.l0 at h
     replace h := hs_ h
     refine go_ ?_
     repeat' (first | split at h | (refine bnf h fun t e h => ?_; (repeat (first | refine fg_ ?_ | refine pg_ ?_ | refine qg_ ?_ | refine an_ ?_ | refine ip_ ?_ | refine in_ ?_)); refine ⟨_, (by first | exact r4Mod_con e), ?_⟩; refine go_ ?_) | (refine bnf h fun t e h => ?_; (repeat (first | refine fg_ ?_ | refine pg_ ?_ | refine qg_ ?_ | refine an_ ?_ | refine ip_ ?_ | refine in_ ?_ | (refine ⟨_, (by first | exact r4Mod_con ‹_›), ?_⟩; refine go_ ?_))); refine ⟨_, (by first | exact r4Mod_con e), ?_⟩; refine go_ ?_) | fail)
     all_goals (first | ((repeat (first | refine fg_ ?_ | refine pg_ ?_ | refine qg_ ?_ | refine an_ ?_ | refine ip_ ?_ | refine in_ ?_ | (refine ⟨_, (by first | exact r4Mod_con ‹_›), ?_⟩; refine go_ ?_))); exact ih0 _ (by omega) _ _ _ _ _ h) | (cases h <;> (repeat (first | refine fg_ ?_ | refine pg_ ?_ | refine qg_ ?_ | refine an_ ?_ | refine ip_ ?_ | refine in_ ?_ | (refine ⟨_, (by first | exact r4Mod_con ‹_›), ?_⟩; refine go_ ?_))) <;> (first | done | rfl | trivial | (simp; done))))
    exact key _ _ _ _ _ _ h)
theorem r15MinPoly_con {k : Nat} {a0_0 : Int} {l0_1 : List Int} {l1 : List Int} {r : List Int} (h : r15MinPoly.f k a0_0 l0_1 l1 = some r) : Con Tryz.prog 27 [⟨.pr (.int .i64) (.pr (.sl 3 (.int .i64)) (.un)), (a0_0, (l0_1, ()))⟩, ⟨.sl 3 (.int .i64), l1⟩] [(false, ⟨.sl 3 (.int .i64), r⟩)] := by
 refine con_ (ps := [0, 1, 2, 4, 5, 6, 7, 8, 9, 10, 11, 20, 30, 71]) (res := [(4, none)]) ?_ Tryz.func27 Tryz.ntmps27
 refine go_ ?_
 unfold r15MinPoly.f at h
 replace h := hs_ h
 repeat' (first | split at h | (refine bnf h fun t e h => ?_; (repeat (first | refine fg_ ?_ | refine pg_ ?_ | refine qg_ ?_ | refine an_ ?_ | refine ip_ ?_ | refine in_ ?_)); refine ⟨_, (by first | exact r15Conjugates_con e | exact r15Add_con e | exact r15Mul_con e | exact r15Sub_con e | exact r9Eval_con e), ?_⟩; refine go_ ?_) | (refine bnf h fun t e h => ?_; (repeat (first | refine fg_ ?_ | refine pg_ ?_ | refine qg_ ?_ | refine an_ ?_ | refine ip_ ?_ | refine in_ ?_ | (refine ⟨_, (by first | exact r15Conjugates_con ‹_› | exact r15Add_con ‹_› | exact r15Mul_con ‹_› | exact r15Sub_con ‹_› | exact r9Eval_con ‹_›), ?_⟩; refine go_ ?_))); refine ⟨_, (by first | exact r15Conjugates_con e | exact r15Add_con e | exact r15Mul_con e | exact r15Sub_con e | exact r9Eval_con e), ?_⟩; refine go_ ?_) | fail)
 all_goals first
  | (cases h <;> (repeat (first | refine fg_ ?_ | refine pg_ ?_ | refine qg_ ?_ | refine an_ ?_ | refine ip_ ?_ | refine in_ ?_ | (refine ⟨_, (by first | exact r15Conjugates_con ‹_› | exact r15Add_con ‹_› | exact r15Mul_con ‹_› | exact r15Sub_con ‹_› | exact r9Eval_con ‹_›), ?_⟩; refine go_ ?_))) <;> (first | done | rfl | trivial | (simp; done)))
  | (
    (with_reducible have h : r15MinPoly.l0 _ _ _ _ _ _ = some r := h)
    repeat (first | refine fg_ ?_ | refine pg_ ?_ | refine qg_ ?_ | refine an_ ?_ | refine ip_ ?_ | refine in_ ?_ | (refine ⟨_, (by first | exact r15Conjugates_con ‹_› | exact r15Add_con ‹_› | exact r15Mul_con ‹_› | exact r15Sub_con ‹_› | exact r9Eval_con ‹_›), ?_⟩; refine go_ ?_))
    refine lp [(5, .row 23 (.sl 3 (.int .i64))), (6, .row 23 (.sl 3 (.int .i64))), (7, .keep), (2, .box)] fun X0 hX0 => ?_
    refine go_ ?_
    have key : ∀ k x5 x6 x7 x102000 x102001, r15MinPoly.l0 k x5 x6 x7 x102000 x102001 = some r → X0 ⟨lkp .bot [(2, .ptr 4 0 []), (7, .ro (.int .i64) x7), (6, .ro (.sl 23 (.sl 3 (.int .i64))) x6), (5, .ro (.sl 23 (.sl 3 (.int .i64))) x5)], lkp none [(4, some ⟨25, .pr (.int .i64) (.pr (.sl 3 (.int .i64)) (.un)), [(x102000, (x102001, ()))], true⟩)], 0⟩ := by
     refine sind fun k ih0 x5 x6 x7 x102000 x102001 h => hX0 _ ?_
     clear hX0
     rcases k with _ | k
     ·cases h
     unfold r15MinPoly.l0 at h
     replace h := hs_ h
     refine go_ ?_
     repeat' (first | split at h | (refine bnf h fun t e h => ?_; (repeat (first | refine fg_ ?_ | refine pg_ ?_ | refine qg_ ?_ | refine an_ ?_ | refine ip_ ?_ | refine in_ ?_)); refine ⟨_, (by first | exact r15Conjugates_con e | exact r15Add_con e | exact r15Mul_con e | exact r15Sub_con e | exact r9Eval_con e), ?_⟩; refine go_ ?_) | (refine bnf h fun t e h => ?_; (repeat (first | refine fg_ ?_ | refine pg_ ?_ | refine qg_ ?_ | refine an_ ?_ | refine ip_ ?_ | refine in_ ?_ | (refine ⟨_, (by first | exact r15Conjugates_con ‹_› | exact r15Add_con ‹_› | exact r15Mul_con ‹_› | exact r15Sub_con ‹_› | exact r9Eval_con ‹_›), ?_⟩; refine go_ ?_))); refine ⟨_, (by first | exact r15Conjugates_con e | exact r15Add_con e | exact r15Mul_con e | exact r15Sub_con e | exact r9Eval_con e), ?_⟩; refine go_ ?_) | fail)
     all_goals first
      | ((repeat (first | refine fg_ ?_ | refine pg_ ?_ | refine qg_ ?_ | refine an_ ?_ | refine ip_ ?_ | refine in_ ?_ | (refine ⟨_, (by first | exact r15Conjugates_con ‹_› | exact r15Add_con ‹_› | exact r15Mul_con ‹_› | exact r15Sub_con ‹_› | exact r9Eval_con ‹_›), ?_⟩; refine go_ ?_))); exact ih0 _ (by omega) _ _ _ _ _ h)
      | (cases h <;> (repeat (first | refine fg_ ?_ | refine pg_ ?_ | refine qg_ ?_ | refine an_ ?_ | refine ip_ ?_ | refine in_ ?_ | (refine ⟨_, (by first | exact r15Conjugates_con ‹_› | exact r15Add_con ‹_› | exact r15Mul_con ‹_› | exact r15Sub_con ‹_› | exact r9Eval_con ‹_›), ?_⟩; refine go_ ?_))) <;> (first | done | rfl | trivial | (simp; done)))
      | (
       (with_reducible have h : r15MinPoly.l1 _ _ _ _ _ _ _ _ = some r := h)
       repeat (first | refine fg_ ?_ | refine pg_ ?_ | refine qg_ ?_ | refine an_ ?_ | refine ip_ ?_ | refine in_ ?_ | (refine ⟨_, (by first | exact r15Conjugates_con ‹_› | exact r15Add_con ‹_› | exact r15Mul_con ‹_› | exact r15Sub_con ‹_› | exact r9Eval_con ‹_›), ?_⟩; refine go_ ?_))
       refine lp [(5, .row 23 (.sl 3 (.int .i64))), (6, .row 23 (.sl 3 (.int .i64))), (7, .keep), (8, .own 23 (.sl 3 (.int .i64))), (9, .keep), (2, .box)] fun X1 hX1 => ?_
       refine go_ ?_
       have key : ∀ j, j ≤ k → ∀ x5 x6 x7 x8 x9 x102000 x102001, r15MinPoly.l1 j x5 x6 x7 x8 x9 x102000 x102001 = some r → X1 ⟨lkp .bot [(2, .ptr 4 0 []), (9, .ro (.int .i64) x9), (8, .own 16), (7, .ro (.int .i64) x7), (6, .ro (.sl 23 (.sl 3 (.int .i64))) x6), (5, .ro (.sl 23 (.sl 3 (.int .i64))) x5)], lkp none [(4, some ⟨25, .pr (.int .i64) (.pr (.sl 3 (.int .i64)) (.un)), [(x102000, (x102001, ()))], true⟩), (16, some ⟨23, .sl 3 (.int .i64), x8, true⟩)], 0⟩ := by
        refine sinb fun k hk1 ih1 x5 x6 x7 x8 x9 x102000 x102001 h => hX1 _ ?_
        clear hX1
        rcases k with _ | k
        ·cases h
        unfold r15MinPoly.l1 at h
        replace h := hs_ h
        refine go_ ?_
        repeat' (first | split at h | (refine bnf h fun t e h => ?_; (repeat (first | refine fg_ ?_ | refine pg_ ?_ | refine qg_ ?_ | refine an_ ?_ | refine ip_ ?_ | refine in_ ?_)); refine ⟨_, (by first | exact r15Conjugates_con e | exact r15Add_con e | exact r15Mul_con e | exact r15Sub_con e | exact r9Eval_con e), ?_⟩; refine go_ ?_) | (refine bnf h fun t e h => ?_; (repeat (first | refine fg_ ?_ | refine pg_ ?_ | refine qg_ ?_ | refine an_ ?_ | refine ip_ ?_ | refine in_ ?_ | (refine ⟨_, (by first | exact r15Conjugates_con ‹_› | exact r15Add_con ‹_› | exact r15Mul_con ‹_› | exact r15Sub_con ‹_› | exact r9Eval_con ‹_›), ?_⟩; refine go_ ?_))); refine ⟨_, (by first | exact r15Conjugates_con e | exact r15Add_con e | exact r15Mul_con e | exact r15Sub_con e | exact r9Eval_con e), ?_⟩; refine go_ ?_) | fail)
        all_goals (first | ((repeat (first | refine fg_ ?_ | refine pg_ ?_ | refine qg_ ?_ | refine an_ ?_ | refine ip_ ?_ | refine in_ ?_ | (refine ⟨_, (by first | exact r15Conjugates_con ‹_› | exact r15Add_con ‹_› | exact r15Mul_con ‹_› | exact r15Sub_con ‹_› | exact r9Eval_con ‹_›), ?_⟩; refine go_ ?_))); exact ih1 _ (by omega) _ _ _ _ _ _ _ h) | ((repeat (first | refine fg_ ?_ | refine pg_ ?_ | refine qg_ ?_ | refine an_ ?_ | refine ip_ ?_ | refine in_ ?_ | (refine ⟨_, (by first | exact r15Conjugates_con ‹_› | exact r15Add_con ‹_› | exact r15Mul_con ‹_› | exact r15Sub_con ‹_› | exact r9Eval_con ‹_›), ?_⟩; refine go_ ?_))); exact ih0 _ (by omega) _ _ _ _ _ h) | (cases h <;> (repeat (first | refine fg_ ?_ | refine pg_ ?_ | refine qg_ ?_ | refine an_ ?_ | refine ip_ ?_ | refine in_ ?_ | (refine ⟨_, (by first | exact r15Conjugates_con ‹_› | exact r15Add_con ‹_› | exact r15Mul_con ‹_› | exact r15Sub_con ‹_› | exact r9Eval_con ‹_›), ?_⟩; refine go_ ?_))) <;> (first | done | rfl | trivial | (simp; done))))
       exact key _ (by omega) _ _ _ _ _ _ _ h)
      | (
       (with_reducible have h : r15MinPoly.l2 _ _ _ _ _ _ = some r := h)
       repeat (first | refine fg_ ?_ | refine pg_ ?_ | refine qg_ ?_ | refine an_ ?_ | refine ip_ ?_ | refine in_ ?_ | (refine ⟨_, (by first | exact r15Conjugates_con ‹_› | exact r15Add_con ‹_› | exact r15Mul_con ‹_› | exact r15Sub_con ‹_› | exact r9Eval_con ‹_›), ?_⟩; refine go_ ?_))
       refine lp [(5, .row 23 (.sl 3 (.int .i64))), (10, .own 3 (.int .i64)), (11, .keep), (2, .box)] fun X2 hX2 => ?_
       refine go_ ?_
       have key : ∀ j, j ≤ k → ∀ x5 x10 x11 x102000 x102001, r15MinPoly.l2 j x5 x10 x11 x102000 x102001 = some r → X2 ⟨lkp .bot [(2, .ptr 4 0 []), (11, .ro (.int .i64) x11), (10, .own 20), (5, .ro (.sl 23 (.sl 3 (.int .i64))) x5)], lkp none [(4, some ⟨25, .pr (.int .i64) (.pr (.sl 3 (.int .i64)) (.un)), [(x102000, (x102001, ()))], true⟩), (20, some ⟨3, .int .i64, x10, true⟩)], 0⟩ := by
        refine sinb fun k hk2 ih2 x5 x10 x11 x102000 x102001 h => hX2 _ ?_
        clear hX2
        rcases k with _ | k
        ·cases h
        unfold r15MinPoly.l2 at h
        replace h := hs_ h
        refine go_ ?_
        repeat' (first | split at h | (refine bnf h fun t e h => ?_; (repeat (first | refine fg_ ?_ | refine pg_ ?_ | refine qg_ ?_ | refine an_ ?_ | refine ip_ ?_ | refine in_ ?_)); refine ⟨_, (by first | exact r15Conjugates_con e | exact r15Add_con e | exact r15Mul_con e | exact r15Sub_con e | exact r9Eval_con e), ?_⟩; refine go_ ?_) | (refine bnf h fun t e h => ?_; (repeat (first | refine fg_ ?_ | refine pg_ ?_ | refine qg_ ?_ | refine an_ ?_ | refine ip_ ?_ | refine in_ ?_ | (refine ⟨_, (by first | exact r15Conjugates_con ‹_› | exact r15Add_con ‹_› | exact r15Mul_con ‹_› | exact r15Sub_con ‹_› | exact r9Eval_con ‹_›), ?_⟩; refine go_ ?_))); refine ⟨_, (by first | exact r15Conjugates_con e | exact r15Add_con e | exact r15Mul_con e | exact r15Sub_con e | exact r9Eval_con e), ?_⟩; refine go_ ?_) | fail)
        all_goals (first | ((repeat (first | refine fg_ ?_ | refine pg_ ?_ | refine qg_ ?_ | refine an_ ?_ | refine ip_ ?_ | refine in_ ?_ | (refine ⟨_, (by first | exact r15Conjugates_con ‹_› | exact r15Add_con ‹_› | exact r15Mul_con ‹_› | exact r15Sub_con ‹_› | exact r9Eval_con ‹_›), ?_⟩; refine go_ ?_))); exact ih2 _ (by omega) _ _ _ _ _ h) | ((repeat (first | refine fg_ ?_ | refine pg_ ?_ | refine qg_ ?_ | refine an_ ?_ | refine ip_ ?_ | refine in_ ?_ | (refine ⟨_, (by first | exact r15Conjugates_con ‹_› | exact r15Add_con ‹_› | exact r15Mul_con ‹_› | exact r15Sub_con ‹_› | exact r9Eval_con ‹_›), ?_⟩; refine go_ ?_))); exact ih0 _ (by omega) _ _ _ _ _ h) | (cases h <;> (repeat (first | refine fg_ ?_ | refine pg_ ?_ | refine qg_ ?_ | refine an_ ?_ | refine ip_ ?_ | refine in_ ?_ | (refine ⟨_, (by first | exact r15Conjugates_con ‹_› | exact r15Add_con ‹_› | exact r15Mul_con ‹_› | exact r15Sub_con ‹_› | exact r9Eval_con ‹_›), ?_⟩; refine go_ ?_))) <;> (first | done | rfl | trivial | (simp; done))))
       exact key _ (by omega) _ _ _ _ _ h)
    exact key _ _ _ _ _ _ h)
theorem fi_Mul_con {k : Nat} {a0_0 : Int} {l0_1 : List Int} {l1 : List Int} {l2 : List Int} {r1 : List Int} {r2 : Int} (h : fi_Mul.f k a0_0 l0_1 l1 l2 = some (r1, r2)) : Con Tryz.prog 37 [⟨.pr (.int .i64) (.pr (.sl 3 (.int .i64)) (.un)), (a0_0, (l0_1, ()))⟩, ⟨.sl 3 (.int .i64), l1⟩, ⟨.sl 3 (.int .i64), l2⟩] [(false, ⟨.sl 3 (.int .i64), r1⟩), (false, ⟨.int .i64, r2⟩)] := by
 refine con_ (ps := [0, 1, 2, 3, 6, 7, 8, 15]) (res := [(6, none), (7, none)]) ?_ Tryz.func37 Tryz.ntmps37
 refine go_ ?_
 unfold fi_Mul.f at h
 replace h := hs_ h
 repeat' (first | split at h | (refine bnf h fun t e h => ?_; (repeat (first | refine fg_ ?_ | refine pg_ ?_ | refine qg_ ?_ | refine an_ ?_ | refine ip_ ?_ | refine in_ ?_)); refine ⟨_, (by first | exact fi_check_con e | exact gFMul_con e), ?_⟩; refine go_ ?_) | (refine bnf h fun t e h => ?_; (repeat (first | refine fg_ ?_ | refine pg_ ?_ | refine qg_ ?_ | refine an_ ?_ | refine ip_ ?_ | refine in_ ?_ | (refine ⟨_, (by first | exact fi_check_con ‹_› | exact gFMul_con ‹_›), ?_⟩; refine go_ ?_))); refine ⟨_, (by first | exact fi_check_con e | exact gFMul_con e), ?_⟩; refine go_ ?_) | fail)
 all_goals (first | (cases h <;> (repeat (first | refine fg_ ?_ | refine pg_ ?_ | refine qg_ ?_ | refine an_ ?_ | refine ip_ ?_ | refine in_ ?_ | (refine ⟨_, (by first | exact fi_check_con ‹_› | exact gFMul_con ‹_›), ?_⟩; refine go_ ?_))) <;> (first | done | rfl | trivial | (simp; done))))
theorem l15four_con  {r1 : Int} {r2 : List Int} (h : l15four.f = some (r1, r2)) : Con Tryz.prog 38 [] [(false, ⟨.pr (.int .i64) (.pr (.sl 3 (.int .i64)) (.un)), (r1, (r2, ()))⟩)] := by
 refine con_ (ps := [0]) (res := [(0, some 25)]) ?_ Tryz.func38 Tryz.ntmps38
 refine go_ ?_
 unfold l15four.f at h
 replace h := hs_ h
 repeat' (first | split at h | fail)
 all_goals (first | (cases h <;> (repeat (first | refine fg_ ?_ | refine pg_ ?_ | refine qg_ ?_ | refine an_ ?_ | refine ip_ ?_ | refine in_ ?_)) <;> (first | done | rfl | trivial | (simp; done))))
theorem fi_Modulus_con {k : Nat} {a0 : Int} {a1 : Int} {r1 : List Int} {r2 : Int} (h : fi_Modulus.f k a0 a1 = some (r1, r2)) : Con Tryz.prog 39 [⟨.int .i64, a0⟩, ⟨.int .i64, a1⟩] [(false, ⟨.sl 3 (.int .i64), r1⟩), (false, ⟨.int .i64, r2⟩)] := by
 refine con_ (ps := [0, 1, 4, 5, 6, 7, 8, 12, 19, 27, 33, 42]) (res := [(4, none), (5, none)]) ?_ Tryz.func39 Tryz.ntmps39
 refine go_ ?_
 unfold fi_Modulus.f at h
 replace h := hs_ h
 repeat' (first | split at h | (refine bnf h fun t e h => ?_; (repeat (first | refine fg_ ?_ | refine pg_ ?_ | refine qg_ ?_ | refine an_ ?_ | refine ip_ ?_ | refine in_ ?_)); refine ⟨_, (by first | exact pm_Check_con e | exact fp_Irreducible_con e), ?_⟩; refine go_ ?_) | (refine bnf h fun t e h => ?_; (repeat (first | refine fg_ ?_ | refine pg_ ?_ | refine qg_ ?_ | refine an_ ?_ | refine ip_ ?_ | refine in_ ?_ | (refine ⟨_, (by first | exact pm_Check_con ‹_› | exact fp_Irreducible_con ‹_›), ?_⟩; refine go_ ?_))); refine ⟨_, (by first | exact pm_Check_con e | exact fp_Irreducible_con e), ?_⟩; refine go_ ?_) | (rcases k with _ | k; (· cases h); unfold fi_Modulus.j0 at h; replace h := hs_ h) | (rcases k with _ | k; (· cases h); unfold fi_Modulus.j1 at h; replace h := hs_ h) | fail)
 all_goals first
  | (cases h <;> (repeat (first | refine fg_ ?_ | refine pg_ ?_ | refine qg_ ?_ | refine an_ ?_ | refine ip_ ?_ | refine in_ ?_ | (refine ⟨_, (by first | exact pm_Check_con ‹_› | exact fp_Irreducible_con ‹_›), ?_⟩; refine go_ ?_))) <;> (first | done | rfl | trivial | (simp; done)))
  | (
    (with_reducible have h : fi_Modulus.l0 _ _ _ _ = some (r1, r2) := h)
    repeat (first | refine fg_ ?_ | refine pg_ ?_ | refine qg_ ?_ | refine an_ ?_ | refine ip_ ?_ | refine in_ ?_ | (refine ⟨_, (by first | exact pm_Check_con ‹_› | exact fp_Irreducible_con ‹_›), ?_⟩; refine go_ ?_))
    refine lp [(0, .keep), (1, .keep), (7, .own 3 (.int .i64))] fun X0 hX0 => ?_
    refine go_ ?_
    have key : ∀ k x0 x1 x7, fi_Modulus.l0 k x0 x1 x7 = some (r1, r2) → X0 ⟨lkp .bot [(7, .own 14), (1, .ro (.int .i64) x1), (0, .ro (.int .i64) x0)], lkp none [(14, some ⟨3, .int .i64, x7, true⟩)], 0⟩ := by
     refine sind fun k ih0 x0 x1 x7 h => hX0 _ ?_
     clear hX0
     rcases k with _ | k
     ·cases h
     unfold fi_Modulus.l0 at h
     replace h := hs_ h
     refine go_ ?_
     repeat' (first | split at h | (refine bnf h fun t e h => ?_; (repeat (first | refine fg_ ?_ | refine pg_ ?_ | refine qg_ ?_ | refine an_ ?_ | refine ip_ ?_ | refine in_ ?_)); refine ⟨_, (by first | exact pm_Check_con e | exact fp_Irreducible_con e), ?_⟩; refine go_ ?_) | (refine bnf h fun t e h => ?_; (repeat (first | refine fg_ ?_ | refine pg_ ?_ | refine qg_ ?_ | refine an_ ?_ | refine ip_ ?_ | refine in_ ?_ | (refine ⟨_, (by first | exact pm_Check_con ‹_› | exact fp_Irreducible_con ‹_›), ?_⟩; refine go_ ?_))); refine ⟨_, (by first | exact pm_Check_con e | exact fp_Irreducible_con e), ?_⟩; refine go_ ?_) | (rcases k with _ | k; (· cases h); unfold fi_Modulus.j0 at h; replace h := hs_ h) | (rcases k with _ | k; (· cases h); unfold fi_Modulus.j1 at h; replace h := hs_ h) | fail)
     all_goals first
      | ((repeat (first | refine fg_ ?_ | refine pg_ ?_ | refine qg_ ?_ | refine an_ ?_ | refine ip_ ?_ | refine in_ ?_ | (refine ⟨_, (by first | exact pm_Check_con ‹_› | exact fp_Irreducible_con ‹_›), ?_⟩; refine go_ ?_))); exact ih0 _ (by omega) _ _ _ h)
      | (cases h <;> (repeat (first | refine fg_ ?_ | refine pg_ ?_ | refine qg_ ?_ | refine an_ ?_ | refine ip_ ?_ | refine in_ ?_ | (refine ⟨_, (by first | exact pm_Check_con ‹_› | exact fp_Irreducible_con ‹_›), ?_⟩; refine go_ ?_))) <;> (first | done | rfl | trivial | (simp; done)))
      | (
       (with_reducible have h : fi_Modulus.l1 _ _ _ _ _ = some (r1, r2) := h)
       repeat (first | refine fg_ ?_ | refine pg_ ?_ | refine qg_ ?_ | refine an_ ?_ | refine ip_ ?_ | refine in_ ?_ | (refine ⟨_, (by first | exact pm_Check_con ‹_› | exact fp_Irreducible_con ‹_›), ?_⟩; refine go_ ?_))
       refine lp [(0, .keep), (1, .keep), (7, .own 3 (.int .i64)), (8, .keep)] fun X1 hX1 => ?_
       refine go_ ?_
       have key : ∀ j, j ≤ k → ∀ x0 x1 x7 x8, fi_Modulus.l1 j x0 x1 x7 x8 = some (r1, r2) → X1 ⟨lkp .bot [(8, .ro (.int .i64) x8), (7, .own 14), (1, .ro (.int .i64) x1), (0, .ro (.int .i64) x0)], lkp none [(14, some ⟨3, .int .i64, x7, true⟩)], 0⟩ := by
        refine sinb fun k hk1 ih1 x0 x1 x7 x8 h => hX1 _ ?_
        clear hX1
        rcases k with _ | k
        ·cases h
        unfold fi_Modulus.l1 at h
        replace h := hs_ h
        refine go_ ?_
        repeat' (first | split at h | (refine bnf h fun t e h => ?_; (repeat (first | refine fg_ ?_ | refine pg_ ?_ | refine qg_ ?_ | refine an_ ?_ | refine ip_ ?_ | refine in_ ?_)); refine ⟨_, (by first | exact pm_Check_con e | exact fp_Irreducible_con e), ?_⟩; refine go_ ?_) | (refine bnf h fun t e h => ?_; (repeat (first | refine fg_ ?_ | refine pg_ ?_ | refine qg_ ?_ | refine an_ ?_ | refine ip_ ?_ | refine in_ ?_ | (refine ⟨_, (by first | exact pm_Check_con ‹_› | exact fp_Irreducible_con ‹_›), ?_⟩; refine go_ ?_))); refine ⟨_, (by first | exact pm_Check_con e | exact fp_Irreducible_con e), ?_⟩; refine go_ ?_) | (rcases k with _ | k; (· cases h); unfold fi_Modulus.j0 at h; replace h := hs_ h) | (rcases k with _ | k; (· cases h); unfold fi_Modulus.j1 at h; replace h := hs_ h) | fail)
        all_goals (first | ((repeat (first | refine fg_ ?_ | refine pg_ ?_ | refine qg_ ?_ | refine an_ ?_ | refine ip_ ?_ | refine in_ ?_ | (refine ⟨_, (by first | exact pm_Check_con ‹_› | exact fp_Irreducible_con ‹_›), ?_⟩; refine go_ ?_))); exact ih1 _ (by omega) _ _ _ _ h) | ((repeat (first | refine fg_ ?_ | refine pg_ ?_ | refine qg_ ?_ | refine an_ ?_ | refine ip_ ?_ | refine in_ ?_ | (refine ⟨_, (by first | exact pm_Check_con ‹_› | exact fp_Irreducible_con ‹_›), ?_⟩; refine go_ ?_))); exact ih0 _ (by omega) _ _ _ h) | (cases h <;> (repeat (first | refine fg_ ?_ | refine pg_ ?_ | refine qg_ ?_ | refine an_ ?_ | refine ip_ ?_ | refine in_ ?_ | (refine ⟨_, (by first | exact pm_Check_con ‹_› | exact fp_Irreducible_con ‹_›), ?_⟩; refine go_ ?_))) <;> (first | done | rfl | trivial | (simp; done))))
       exact key _ (by omega) _ _ _ _ h)
    exact key _ _ _ _ h)
theorem l15nine_con  {r1 : Int} {r2 : List Int} (h : l15nine.f = some (r1, r2)) : Con Tryz.prog 40 [] [(false, ⟨.pr (.int .i64) (.pr (.sl 3 (.int .i64)) (.un)), (r1, (r2, ()))⟩)] := by
 refine con_ (ps := [0]) (res := [(0, some 25)]) ?_ Tryz.func40 Tryz.ntmps40
 refine go_ ?_
 unfold l15nine.f at h
 replace h := hs_ h
 repeat' (first | split at h | fail)
 all_goals (first | (cases h <;> (repeat (first | refine fg_ ?_ | refine pg_ ?_ | refine qg_ ?_ | refine an_ ?_ | refine ip_ ?_ | refine in_ ?_)) <;> (first | done | rfl | trivial | (simp; done))))
theorem fp_Xgcd_con {k : Nat} {a0 : Int} {l1 : List Int} {l2 : List Int} {r1 : List Int} {r2 : List Int} {r3 : List Int} (h : fp_Xgcd.f k a0 l1 l2 = some (r1, r2, r3)) : Con Tryz.prog 84 [⟨.int .i64, a0⟩, ⟨.sl 3 (.int .i64), l1⟩, ⟨.sl 3 (.int .i64), l2⟩] [(false, ⟨.sl 3 (.int .i64), r1⟩), (false, ⟨.sl 3 (.int .i64), r2⟩), (false, ⟨.sl 3 (.int .i64), r3⟩)] := by
 refine con_ (ps := [0, 1, 2, 6, 7, 8, 9, 10, 11, 12, 13, 14, 15, 16, 17, 19, 23, 26, 44]) (res := [(6, none), (7, none), (8, none)]) ?_ Tryz.func84 Tryz.ntmps84
 refine go_ ?_
 unfold fp_Xgcd.f at h
 replace h := hs_ h
 repeat' (first | split at h | (refine bnf h fun t e h => ?_; (repeat (first | refine fg_ ?_ | refine pg_ ?_ | refine qg_ ?_ | refine an_ ?_ | refine ip_ ?_ | refine in_ ?_)); refine ⟨_, (by first | exact fp_Monic_con e | exact fp_Inv_con e | exact fp_DivMod_con e | exact fp_Mul_con e | exact fp_Sub_con e | exact fp_Scale_con e | exact fp_Rem_con e), ?_⟩; refine go_ ?_) | (refine bnf h fun t e h => ?_; (repeat (first | refine fg_ ?_ | refine pg_ ?_ | refine qg_ ?_ | refine an_ ?_ | refine ip_ ?_ | refine in_ ?_ | (refine ⟨_, (by first | exact fp_Monic_con ‹_› | exact fp_Inv_con ‹_› | exact fp_DivMod_con ‹_› | exact fp_Mul_con ‹_› | exact fp_Sub_con ‹_› | exact fp_Scale_con ‹_› | exact fp_Rem_con ‹_›), ?_⟩; refine go_ ?_))); refine ⟨_, (by first | exact fp_Monic_con e | exact fp_Inv_con e | exact fp_DivMod_con e | exact fp_Mul_con e | exact fp_Sub_con e | exact fp_Scale_con e | exact fp_Rem_con e), ?_⟩; refine go_ ?_) | fail)
 all_goals first
  | (cases h <;> (repeat (first | refine fg_ ?_ | refine pg_ ?_ | refine qg_ ?_ | refine an_ ?_ | refine ip_ ?_ | refine in_ ?_ | (refine ⟨_, (by first | exact fp_Monic_con ‹_› | exact fp_Inv_con ‹_› | exact fp_DivMod_con ‹_› | exact fp_Mul_con ‹_› | exact fp_Sub_con ‹_› | exact fp_Scale_con ‹_› | exact fp_Rem_con ‹_›), ?_⟩; refine go_ ?_))) <;> (first | done | rfl | trivial | (simp; done)))
  | (
    (with_reducible have h : fp_Xgcd.l0 _ _ _ _ _ _ _ _ = some (r1, r2, r3) := h)
    repeat (first | refine fg_ ?_ | refine pg_ ?_ | refine qg_ ?_ | refine an_ ?_ | refine ip_ ?_ | refine in_ ?_ | (refine ⟨_, (by first | exact fp_Monic_con ‹_› | exact fp_Inv_con ‹_› | exact fp_DivMod_con ‹_› | exact fp_Mul_con ‹_› | exact fp_Sub_con ‹_› | exact fp_Scale_con ‹_› | exact fp_Rem_con ‹_›), ?_⟩; refine go_ ?_))
    refine lp [(0, .keep), (1, .row 3 (.int .i64)), (2, .row 3 (.int .i64)), (9, .row 3 (.int .i64)), (10, .row 3 (.int .i64)), (11, .row 3 (.int .i64)), (12, .row 3 (.int .i64))] fun X0 hX0 => ?_
    refine go_ ?_
    have key : ∀ k x0 x1 x2 x9 x10 x11 x12, fp_Xgcd.l0 k x0 x1 x2 x9 x10 x11 x12 = some (r1, r2, r3) → X0 ⟨lkp .bot [(12, .ro (.sl 3 (.int .i64)) x12), (11, .ro (.sl 3 (.int .i64)) x11), (10, .ro (.sl 3 (.int .i64)) x10), (9, .ro (.sl 3 (.int .i64)) x9), (2, .ro (.sl 3 (.int .i64)) x2), (1, .ro (.sl 3 (.int .i64)) x1), (0, .ro (.int .i64) x0)], lkp none [], 0⟩ := by
     refine sind fun k ih0 x0 x1 x2 x9 x10 x11 x12 h => hX0 _ ?_
     clear hX0
     rcases k with _ | k
     ·cases h
     unfold fp_Xgcd.l0 at h
     replace h := hs_ h
     refine go_ ?_
     repeat' (first | split at h | (refine bnf h fun t e h => ?_; (repeat (first | refine fg_ ?_ | refine pg_ ?_ | refine qg_ ?_ | refine an_ ?_ | refine ip_ ?_ | refine in_ ?_)); refine ⟨_, (by first | exact fp_Monic_con e | exact fp_Inv_con e | exact fp_DivMod_con e | exact fp_Mul_con e | exact fp_Sub_con e | exact fp_Scale_con e | exact fp_Rem_con e), ?_⟩; refine go_ ?_) | (refine bnf h fun t e h => ?_; (repeat (first | refine fg_ ?_ | refine pg_ ?_ | refine qg_ ?_ | refine an_ ?_ | refine ip_ ?_ | refine in_ ?_ | (refine ⟨_, (by first | exact fp_Monic_con ‹_› | exact fp_Inv_con ‹_› | exact fp_DivMod_con ‹_› | exact fp_Mul_con ‹_› | exact fp_Sub_con ‹_› | exact fp_Scale_con ‹_› | exact fp_Rem_con ‹_›), ?_⟩; refine go_ ?_))); refine ⟨_, (by first | exact fp_Monic_con e | exact fp_Inv_con e | exact fp_DivMod_con e | exact fp_Mul_con e | exact fp_Sub_con e | exact fp_Scale_con e | exact fp_Rem_con e), ?_⟩; refine go_ ?_) | fail)
     all_goals (first | ((repeat (first | refine fg_ ?_ | refine pg_ ?_ | refine qg_ ?_ | refine an_ ?_ | refine ip_ ?_ | refine in_ ?_ | (refine ⟨_, (by first | exact fp_Monic_con ‹_› | exact fp_Inv_con ‹_› | exact fp_DivMod_con ‹_› | exact fp_Mul_con ‹_› | exact fp_Sub_con ‹_› | exact fp_Scale_con ‹_› | exact fp_Rem_con ‹_›), ?_⟩; refine go_ ?_))); exact ih0 _ (by omega) _ _ _ _ _ _ _ h) | (cases h <;> (repeat (first | refine fg_ ?_ | refine pg_ ?_ | refine qg_ ?_ | refine an_ ?_ | refine ip_ ?_ | refine in_ ?_ | (refine ⟨_, (by first | exact fp_Monic_con ‹_› | exact fp_Inv_con ‹_› | exact fp_DivMod_con ‹_› | exact fp_Mul_con ‹_› | exact fp_Sub_con ‹_› | exact fp_Scale_con ‹_› | exact fp_Rem_con ‹_›), ?_⟩; refine go_ ?_))) <;> (first | done | rfl | trivial | (simp; done))))
    exact key _ _ _ _ _ _ _ _ h)
theorem gFInverse_con {k : Nat} {a0_0 : Int} {l0_1 : List Int} {l1 : List Int} {r : List Int} (h : gFInverse.f k a0_0 l0_1 l1 = some r) : Con Tryz.prog 43 [⟨.pr (.pr (.int .i64) (.pr (.sl 3 (.int .i64)) (.un))) (.un), ((a0_0, (l0_1, ())), ())⟩, ⟨.sl 3 (.int .i64), l1⟩] [(false, ⟨.sl 3 (.int .i64), r⟩)] := by
 refine con_ (ps := [0, 1, 2, 4, 6]) (res := [(4, none)]) ?_ Tryz.func43 Tryz.ntmps43
 refine go_ ?_
 unfold gFInverse.f at h
 replace h := hs_ h
 repeat' (first | split at h | (refine bnf h fun t e h => ?_; (repeat (first | refine fg_ ?_ | refine pg_ ?_ | refine qg_ ?_ | refine an_ ?_ | refine ip_ ?_ | refine in_ ?_)); refine ⟨_, (by first | exact fp_Xgcd_con e | exact fp_Rem_con e), ?_⟩; refine go_ ?_) | (refine bnf h fun t e h => ?_; (repeat (first | refine fg_ ?_ | refine pg_ ?_ | refine qg_ ?_ | refine an_ ?_ | refine ip_ ?_ | refine in_ ?_ | (refine ⟨_, (by first | exact fp_Xgcd_con ‹_› | exact fp_Rem_con ‹_›), ?_⟩; refine go_ ?_))); refine ⟨_, (by first | exact fp_Xgcd_con e | exact fp_Rem_con e), ?_⟩; refine go_ ?_) | fail)
 all_goals (first | (cases h <;> (repeat (first | refine fg_ ?_ | refine pg_ ?_ | refine qg_ ?_ | refine an_ ?_ | refine ip_ ?_ | refine in_ ?_ | (refine ⟨_, (by first | exact fp_Xgcd_con ‹_› | exact fp_Rem_con ‹_›), ?_⟩; refine go_ ?_))) <;> (first | done | rfl | trivial | (simp; done))))
theorem fi_Inverse_con {k : Nat} {a0_0 : Int} {l0_1 : List Int} {l1 : List Int} {r1 : List Int} {r2 : Int} (h : fi_Inverse.f k a0_0 l0_1 l1 = some (r1, r2)) : Con Tryz.prog 9 [⟨.pr (.int .i64) (.pr (.sl 3 (.int .i64)) (.un)), (a0_0, (l0_1, ()))⟩, ⟨.sl 3 (.int .i64), l1⟩] [(false, ⟨.sl 3 (.int .i64), r1⟩), (false, ⟨.int .i64, r2⟩)] := by
 refine con_ (ps := [0, 1, 2, 4, 5, 6, 12, 16]) (res := [(4, none), (5, none)]) ?_ Tryz.func9 Tryz.ntmps9
 refine go_ ?_
 unfold fi_Inverse.f at h
 replace h := hs_ h
 repeat' (first | split at h | (refine bnf h fun t e h => ?_; (repeat (first | refine fg_ ?_ | refine pg_ ?_ | refine qg_ ?_ | refine an_ ?_ | refine ip_ ?_ | refine in_ ?_)); refine ⟨_, (by first | exact fi_check_con e | exact gFInverse_con e), ?_⟩; refine go_ ?_) | (refine bnf h fun t e h => ?_; (repeat (first | refine fg_ ?_ | refine pg_ ?_ | refine qg_ ?_ | refine an_ ?_ | refine ip_ ?_ | refine in_ ?_ | (refine ⟨_, (by first | exact fi_check_con ‹_› | exact gFInverse_con ‹_›), ?_⟩; refine go_ ?_))); refine ⟨_, (by first | exact fi_check_con e | exact gFInverse_con e), ?_⟩; refine go_ ?_) | fail)
 all_goals (first | (cases h <;> (repeat (first | refine fg_ ?_ | refine pg_ ?_ | refine qg_ ?_ | refine an_ ?_ | refine ip_ ?_ | refine in_ ?_ | (refine ⟨_, (by first | exact fi_check_con ‹_› | exact gFInverse_con ‹_›), ?_⟩; refine go_ ?_))) <;> (first | done | rfl | trivial | (simp; done))))
theorem l15short_con {a0_0 : Int} {l0_1 : List Int} {l1 : List Int} {l2 : List Int} {r : Bool} (h : l15short.f a0_0 l0_1 l1 l2 = some r) : Con Tryz.prog 7 [⟨.pr (.int .i64) (.pr (.sl 3 (.int .i64)) (.un)), (a0_0, (l0_1, ()))⟩, ⟨.sl 3 (.int .i64), l1⟩, ⟨.sl 3 (.int .i64), l2⟩] [(false, ⟨.bool, r⟩)] := by
 refine con_ (ps := [0, 1, 2, 3, 6]) (res := [(6, none)]) ?_ Tryz.func7 Tryz.ntmps7
 refine go_ ?_
 unfold l15short.f at h
 replace h := hs_ h
 repeat' (first | split at h | fail)
 all_goals (first | (cases h <;> (repeat (first | refine fg_ ?_ | refine pg_ ?_ | refine qg_ ?_ | refine an_ ?_ | refine ip_ ?_ | refine in_ ?_)) <;> (first | done | rfl | trivial | (simp; done))))
end Go.Proofs.YtalnaafmonmlmaaGreat.Q
end

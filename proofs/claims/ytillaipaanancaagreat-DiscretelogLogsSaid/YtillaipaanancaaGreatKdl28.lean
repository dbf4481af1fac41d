/- Machine side and arithmetic of the law, put together by a program of the session. No conditions. -/
import Derived.Test.YtillaipaanancaaGreatKdl18
import Derived.Test.YtillaipaanancaaGreatKdl19
import Derived.Test.YtillaipaanancaaGreatKdl26
import Derived.Test.YtillaipaanancaaGreatKdl27
section
set_option linter.unusedVariables false
set_option maxRecDepth 100000
set_option maxHeartbeats 8000000
namespace Go.Proofs.YtillaipaanancaaGreat.Q
open Go.RowKit Go.TT Go.Proofs.YtillaipaanancaaGreatW.PrintWords
theorem r9Add_con {k : Nat} {a0 : Int} {l1 : List Int} {l2 : List Int} {r : List Int} (h : r9Add.f k a0 l1 l2 = some r) : Con Tryz.prog 75 [⟨.int .i64, a0⟩, ⟨.sl 3 (.int .i64), l1⟩, ⟨.sl 3 (.int .i64), l2⟩] [(false, ⟨.sl 3 (.int .i64), r⟩)] := by
 refine con_ (ps := [0, 1, 2, 6, 7, 8, 18, 24, 40]) (res := [(6, none)]) ?_ Tryz.func75 Tryz.ntmps75
 refine go_ ?_
 unfold r9Add.f at h
 replace h := hs_ h
 repeat' (first | split at h | (refine bnf h fun t e h => ?_; (repeat (first | refine fg_ ?_ | refine pg_ ?_ | refine qg_ ?_ | refine an_ ?_ | refine ip_ ?_ | refine in_ ?_)); refine .inl ⟨_, (by first | exact r9Trim_con e), ?_⟩; refine go_ ?_) | (refine bnf h fun t e h => ?_; (repeat (first | refine fg_ ?_ | refine pg_ ?_ | refine qg_ ?_ | refine an_ ?_ | refine ip_ ?_ | refine in_ ?_ | (refine .inl ⟨_, (by first | exact r9Trim_con ‹_›), ?_⟩; refine go_ ?_))); refine .inl ⟨_, (by first | exact r9Trim_con e), ?_⟩; refine go_ ?_) | fail)
 all_goals first
  | (cases h <;> (repeat (first | refine fg_ ?_ | refine pg_ ?_ | refine qg_ ?_ | refine an_ ?_ | refine ip_ ?_ | refine in_ ?_ | (refine .inl ⟨_, (by first | exact r9Trim_con ‹_›), ?_⟩; refine go_ ?_))) <;> (first | done | rfl | trivial | (simp; done) | (exfalso; omega)))
  | (exfalso; omega)
  | (
    (with_reducible have h : r9Add.l0 _ _ _ _ _ _ = some r := h)
    repeat (first | refine fg_ ?_ | refine pg_ ?_ | refine qg_ ?_ | refine an_ ?_ | refine ip_ ?_ | refine in_ ?_ | (refine .inl ⟨_, (by first | exact r9Trim_con ‹_›), ?_⟩; refine go_ ?_))
    refine lp [(0, .keep), (1, .row 3 (.int .i64)), (2, .row 3 (.int .i64)), (7, .own 3 (.int .i64)), (8, .keep)] fun X0 hX0 => ?_
    refine go_ ?_
    have key : ∀ k x0 x1 x2 x7 x8, r9Add.l0 k x0 x1 x2 x7 x8 = some r → X0 ⟨lkp .bot [(8, .ro (.int .i64) x8), (7, .own 14), (2, .ro (.sl 3 (.int .i64)) x2), (1, .ro (.sl 3 (.int .i64)) x1), (0, .ro (.int .i64) x0)], lkp none [(14, some ⟨3, .int .i64, x7, true⟩)], 0⟩ := by
     refine sind fun k ih0 x0 x1 x2 x7 x8 h => hX0 _ ?_
     clear hX0
     rcases k with _ | k
     ·cases h
     unfold r9Add.l0 at h
     replace h := hs_ h
     refine go_ ?_
     repeat' (first | split at h | (refine bnf h fun t e h => ?_; (repeat (first | refine fg_ ?_ | refine pg_ ?_ | refine qg_ ?_ | refine an_ ?_ | refine ip_ ?_ | refine in_ ?_)); refine .inl ⟨_, (by first | exact r9Trim_con e), ?_⟩; refine go_ ?_) | (refine bnf h fun t e h => ?_; (repeat (first | refine fg_ ?_ | refine pg_ ?_ | refine qg_ ?_ | refine an_ ?_ | refine ip_ ?_ | refine in_ ?_ | (refine .inl ⟨_, (by first | exact r9Trim_con ‹_›), ?_⟩; refine go_ ?_))); refine .inl ⟨_, (by first | exact r9Trim_con e), ?_⟩; refine go_ ?_) | fail)
     all_goals (first | ((repeat (first | refine fg_ ?_ | refine pg_ ?_ | refine qg_ ?_ | refine an_ ?_ | refine ip_ ?_ | refine in_ ?_ | (refine .inl ⟨_, (by first | exact r9Trim_con ‹_›), ?_⟩; refine go_ ?_))); exact ih0 _ (by omega) _ _ _ _ _ h) | (cases h <;> (repeat (first | refine fg_ ?_ | refine pg_ ?_ | refine qg_ ?_ | refine an_ ?_ | refine ip_ ?_ | refine in_ ?_ | (refine .inl ⟨_, (by first | exact r9Trim_con ‹_›), ?_⟩; refine go_ ?_))) <;> (first | done | rfl | trivial | (simp; done) | (exfalso; omega))) | (exfalso; omega))
    exact key _ _ _ _ _ _ h)
theorem r9Sub_con {k : Nat} {a0 : Int} {l1 : List Int} {l2 : List Int} {r : List Int} (h : r9Sub.f k a0 l1 l2 = some r) : Con Tryz.prog 102 [⟨.int .i64, a0⟩, ⟨.sl 3 (.int .i64), l1⟩, ⟨.sl 3 (.int .i64), l2⟩] [(false, ⟨.sl 3 (.int .i64), r⟩)] := by
 refine con_ (ps := [0, 1, 2, 6]) (res := [(6, none)]) ?_ Tryz.func102 Tryz.ntmps102
 refine go_ ?_
 unfold r9Sub.f at h
 replace h := hs_ h
 repeat' (first | split at h | (refine bnf h fun t e h => ?_; (repeat (first | refine fg_ ?_ | refine pg_ ?_ | refine qg_ ?_ | refine an_ ?_ | refine ip_ ?_ | refine in_ ?_)); refine .inl ⟨_, (by first | exact r9Scale_con e | exact r9Add_con e), ?_⟩; refine go_ ?_) | (refine bnf h fun t e h => ?_; (repeat (first | refine fg_ ?_ | refine pg_ ?_ | refine qg_ ?_ | refine an_ ?_ | refine ip_ ?_ | refine in_ ?_ | (refine .inl ⟨_, (by first | exact r9Scale_con ‹_› | exact r9Add_con ‹_›), ?_⟩; refine go_ ?_))); refine .inl ⟨_, (by first | exact r9Scale_con e | exact r9Add_con e), ?_⟩; refine go_ ?_) | fail)
 all_goals (first | (cases h <;> (repeat (first | refine fg_ ?_ | refine pg_ ?_ | refine qg_ ?_ | refine an_ ?_ | refine ip_ ?_ | refine in_ ?_ | (refine .inl ⟨_, (by first | exact r9Scale_con ‹_› | exact r9Add_con ‹_›), ?_⟩; refine go_ ?_))) <;> (first | done | rfl | trivial | (simp; done) | (exfalso; omega))) | (exfalso; omega))
theorem r1pack_con {k : Nat} {l0 : List Int} {r : ByteArray} (h : r1pack.f k l0 = some r) : Con Tryz.prog 120 [⟨.sl 79 (.int .u64), l0⟩] [(false, ⟨.str, r⟩)] := by
 refine con_ (ps := [0, 2, 3, 4, 5, 6, 11, 15, 31]) (res := [(2, none)]) ?_ Tryz.func120 Tryz.ntmps120
 refine go_ ?_
 unfold r1pack.f at h
 replace h := hs_ h
 repeat' (first | split at h | fail)
 all_goals first
  | (cases h <;> (repeat (first | refine fg_ ?_ | refine pg_ ?_ | refine qg_ ?_ | refine an_ ?_ | refine ip_ ?_ | refine in_ ?_)) <;> (first | done | rfl | trivial | (simp; done) | (exfalso; omega)))
  | (exfalso; omega)
  | (
    (with_reducible have h : r1pack.l0 _ _ _ _ = some r := h)
    repeat (first | refine fg_ ?_ | refine pg_ ?_ | refine qg_ ?_ | refine an_ ?_ | refine ip_ ?_ | refine in_ ?_)
    refine lp [(0, .row 79 (.int .u64)), (3, .own 5 (.int .u8)), (4, .keep)] fun X0 hX0 => ?_
    refine go_ ?_
    have key : ∀ k x0 x3 x4, r1pack.l0 k x0 x3 x4 = some r → X0 ⟨lkp .bot [(4, .ro (.int .i64) x4), (3, .own 6), (0, .ro (.sl 79 (.int .u64)) x0)], lkp none [(6, some ⟨5, .int .u8, x3, true⟩)], 0⟩ := by
     refine sind fun k ih0 x0 x3 x4 h => hX0 _ ?_
     clear hX0
     rcases k with _ | k
     ·cases h
     unfold r1pack.l0 at h
     replace h := hs_ h
     refine go_ ?_
     repeat' (first | split at h | fail)
     all_goals first
      | ((repeat (first | refine fg_ ?_ | refine pg_ ?_ | refine qg_ ?_ | refine an_ ?_ | refine ip_ ?_ | refine in_ ?_)); exact ih0 _ (by omega) _ _ _ h)
      | (cases h <;> (repeat (first | refine fg_ ?_ | refine pg_ ?_ | refine qg_ ?_ | refine an_ ?_ | refine ip_ ?_ | refine in_ ?_)) <;> (first | done | rfl | trivial | (simp; done) | (exfalso; omega)))
      | (exfalso; omega)
      | (
       (with_reducible have h : r1pack.l1 _ _ _ _ _ = some r := h)
       repeat (first | refine fg_ ?_ | refine pg_ ?_ | refine qg_ ?_ | refine an_ ?_ | refine ip_ ?_ | refine in_ ?_)
       refine lp [(0, .row 79 (.int .u64)), (3, .own 5 (.int .u8)), (4, .keep), (5, .keep)] fun X1 hX1 => ?_
       refine go_ ?_
       have key : ∀ j, j ≤ k → ∀ x0 x3 x4 x5, r1pack.l1 j x0 x3 x4 x5 = some r → X1 ⟨lkp .bot [(5, .ro (.int .i64) x5), (4, .ro (.int .i64) x4), (3, .own 6), (0, .ro (.sl 79 (.int .u64)) x0)], lkp none [(6, some ⟨5, .int .u8, x3, true⟩)], 0⟩ := by
        refine sinb fun k hk1 ih1 x0 x3 x4 x5 h => hX1 _ ?_
        clear hX1
        rcases k with _ | k
        ·cases h
        unfold r1pack.l1 at h
        replace h := hs_ h
        refine go_ ?_
        repeat' (first | split at h | fail)
        all_goals (first | ((repeat (first | refine fg_ ?_ | refine pg_ ?_ | refine qg_ ?_ | refine an_ ?_ | refine ip_ ?_ | refine in_ ?_)); exact ih1 _ (by omega) _ _ _ _ h) | ((repeat (first | refine fg_ ?_ | refine pg_ ?_ | refine qg_ ?_ | refine an_ ?_ | refine ip_ ?_ | refine in_ ?_)); exact ih0 _ (by omega) _ _ _ h) | (cases h <;> (repeat (first | refine fg_ ?_ | refine pg_ ?_ | refine qg_ ?_ | refine an_ ?_ | refine ip_ ?_ | refine in_ ?_)) <;> (first | done | rfl | trivial | (simp; done) | (exfalso; omega))) | (exfalso; omega))
       exact key _ (by omega) _ _ _ _ h)
    exact key _ _ _ _ h)
theorem r1Of_con {k : Nat} {a0 : Int} {r : ByteArray} (h : r1Of.f k a0 = some r) : Con Tryz.prog 79 [⟨.int .u64, a0⟩] [(false, ⟨.str, r⟩)] := by
 refine con_ (ps := [0, 2]) (res := [(2, none)]) ?_ Tryz.func79 Tryz.ntmps79
 refine go_ ?_
 unfold r1Of.f at h
 replace h := hs_ h
 repeat' (first | split at h | (refine bnf h fun t e h => ?_; (repeat (first | refine fg_ ?_ | refine pg_ ?_ | refine qg_ ?_ | refine an_ ?_ | refine ip_ ?_ | refine in_ ?_)); refine .inl ⟨_, (by first | exact r1pack_con e), ?_⟩; refine go_ ?_) | (refine bnf h fun t e h => ?_; (repeat (first | refine fg_ ?_ | refine pg_ ?_ | refine qg_ ?_ | refine an_ ?_ | refine ip_ ?_ | refine in_ ?_ | (refine .inl ⟨_, (by first | exact r1pack_con ‹_›), ?_⟩; refine go_ ?_))); refine .inl ⟨_, (by first | exact r1pack_con e), ?_⟩; refine go_ ?_) | fail)
 all_goals (first | (cases h <;> (repeat (first | refine fg_ ?_ | refine pg_ ?_ | refine qg_ ?_ | refine an_ ?_ | refine ip_ ?_ | refine in_ ?_ | (refine .inl ⟨_, (by first | exact r1pack_con ‹_›), ?_⟩; refine go_ ?_))) <;> (first | done | rfl | trivial | (simp; done) | (exfalso; omega))) | (exfalso; omega))
theorem r1FromInt_con {k : Nat} {a0 : Int} {r : ByteArray} (h : r1FromInt.f k a0 = some r) : Con Tryz.prog 35 [⟨.int .i64, a0⟩] [(false, ⟨.str, r⟩)] := by
 refine con_ (ps := [0, 2]) (res := [(2, none)]) ?_ Tryz.func35 Tryz.ntmps35
 refine go_ ?_
 unfold r1FromInt.f at h
 replace h := hs_ h
 repeat' (first | split at h | (refine bnf h fun t e h => ?_; (repeat (first | refine fg_ ?_ | refine pg_ ?_ | refine qg_ ?_ | refine an_ ?_ | refine ip_ ?_ | refine in_ ?_)); refine .inl ⟨_, (by first | exact r1Of_con e), ?_⟩; refine go_ ?_) | (refine bnf h fun t e h => ?_; (repeat (first | refine fg_ ?_ | refine pg_ ?_ | refine qg_ ?_ | refine an_ ?_ | refine ip_ ?_ | refine in_ ?_ | (refine .inl ⟨_, (by first | exact r1Of_con ‹_›), ?_⟩; refine go_ ?_))); refine .inl ⟨_, (by first | exact r1Of_con e), ?_⟩; refine go_ ?_) | fail)
 all_goals (first | (cases h <;> (repeat (first | refine fg_ ?_ | refine pg_ ?_ | refine qg_ ?_ | refine an_ ?_ | refine ip_ ?_ | refine in_ ?_ | (refine .inl ⟨_, (by first | exact r1Of_con ‹_›), ?_⟩; refine go_ ?_))) <;> (first | done | rfl | trivial | (simp; done) | (exfalso; omega))) | (exfalso; omega))
theorem r9X_con  {r : List Int} (h : r9X.f = some r) : Con Tryz.prog 99 [] [(false, ⟨.sl 3 (.int .i64), r⟩)] := by
 refine con_ (ps := [0]) (res := [(0, none)]) ?_ Tryz.func99 Tryz.ntmps99
 refine go_ ?_
 unfold r9X.f at h
 replace h := hs_ h
 repeat' (first | split at h | fail)
 all_goals (first | (cases h <;> (repeat (first | refine fg_ ?_ | refine pg_ ?_ | refine qg_ ?_ | refine an_ ?_ | refine ip_ ?_ | refine in_ ?_)) <;> (first | done | rfl | trivial | (simp; done) | (exfalso; omega))) | (exfalso; omega))
theorem r9IsIrreducible_con {k : Nat} {a0 : Int} {l1 : List Int} {r : Bool} (h : r9IsIrreducible.f k a0 l1 = some r) : Con Tryz.prog 53 [⟨.int .i64, a0⟩, ⟨.sl 3 (.int .i64), l1⟩] [(false, ⟨.bool, r⟩)] := by
 refine con_ (ps := [0, 1, 4, 5, 6, 9, 19, 36]) (res := [(4, none)]) ?_ Tryz.func53 Tryz.ntmps53
 refine go_ ?_
 unfold r9IsIrreducible.f at h
 replace h := hs_ h
 repeat' (first | split at h | (refine bnf h fun t e h => ?_; (repeat (first | refine fg_ ?_ | refine pg_ ?_ | refine qg_ ?_ | refine an_ ?_ | refine ip_ ?_ | refine in_ ?_)); refine .inl ⟨_, (by first | exact r9X_con e | exact r9Mod_con e | exact r1FromInt_con e | exact r9PowMod_con e | exact r9Sub_con e | exact r9Gcd_con e), ?_⟩; refine go_ ?_) | (refine bnf h fun t e h => ?_; (repeat (first | refine fg_ ?_ | refine pg_ ?_ | refine qg_ ?_ | refine an_ ?_ | refine ip_ ?_ | refine in_ ?_ | (refine .inl ⟨_, (by first | exact r9X_con ‹_› | exact r9Mod_con ‹_› | exact r1FromInt_con ‹_› | exact r9PowMod_con ‹_› | exact r9Sub_con ‹_› | exact r9Gcd_con ‹_›), ?_⟩; refine go_ ?_))); refine .inl ⟨_, (by first | exact r9X_con e | exact r9Mod_con e | exact r1FromInt_con e | exact r9PowMod_con e | exact r9Sub_con e | exact r9Gcd_con e), ?_⟩; refine go_ ?_) | fail)
 all_goals first
  | (cases h <;> (repeat (first | refine fg_ ?_ | refine pg_ ?_ | refine qg_ ?_ | refine an_ ?_ | refine ip_ ?_ | refine in_ ?_ | (refine .inl ⟨_, (by first | exact r9X_con ‹_› | exact r9Mod_con ‹_› | exact r1FromInt_con ‹_› | exact r9PowMod_con ‹_› | exact r9Sub_con ‹_› | exact r9Gcd_con ‹_›), ?_⟩; refine go_ ?_))) <;> (first | done | rfl | trivial | (simp; done) | (exfalso; omega)))
  | (exfalso; omega)
  | (
    (with_reducible have h : r9IsIrreducible.l0 _ _ _ _ _ = some r := h)
    repeat (first | refine fg_ ?_ | refine pg_ ?_ | refine qg_ ?_ | refine an_ ?_ | refine ip_ ?_ | refine in_ ?_ | (refine .inl ⟨_, (by first | exact r9X_con ‹_› | exact r9Mod_con ‹_› | exact r1FromInt_con ‹_› | exact r9PowMod_con ‹_› | exact r9Sub_con ‹_› | exact r9Gcd_con ‹_›), ?_⟩; refine go_ ?_))
    refine lp [(0, .keep), (1, .row 3 (.int .i64)), (5, .row 3 (.int .i64)), (6, .keep)] fun X0 hX0 => ?_
    refine go_ ?_
    have key : ∀ k x0 x1 x5 x6, r9IsIrreducible.l0 k x0 x1 x5 x6 = some r → X0 ⟨lkp .bot [(6, .ro (.int .i64) x6), (5, .ro (.sl 3 (.int .i64)) x5), (1, .ro (.sl 3 (.int .i64)) x1), (0, .ro (.int .i64) x0)], lkp none [], 0⟩ := by
     refine sind fun k ih0 x0 x1 x5 x6 h => hX0 _ ?_
     clear hX0
     rcases k with _ | k
     ·cases h
     unfold r9IsIrreducible.l0 at h
     replace h := hs_ h
     refine go_ ?_
     repeat' (first | split at h | (refine bnf h fun t e h => ?_; (repeat (first | refine fg_ ?_ | refine pg_ ?_ | refine qg_ ?_ | refine an_ ?_ | refine ip_ ?_ | refine in_ ?_)); refine .inl ⟨_, (by first | exact r9X_con e | exact r9Mod_con e | exact r1FromInt_con e | exact r9PowMod_con e | exact r9Sub_con e | exact r9Gcd_con e), ?_⟩; refine go_ ?_) | (refine bnf h fun t e h => ?_; (repeat (first | refine fg_ ?_ | refine pg_ ?_ | refine qg_ ?_ | refine an_ ?_ | refine ip_ ?_ | refine in_ ?_ | (refine .inl ⟨_, (by first | exact r9X_con ‹_› | exact r9Mod_con ‹_› | exact r1FromInt_con ‹_› | exact r9PowMod_con ‹_› | exact r9Sub_con ‹_› | exact r9Gcd_con ‹_›), ?_⟩; refine go_ ?_))); refine .inl ⟨_, (by first | exact r9X_con e | exact r9Mod_con e | exact r1FromInt_con e | exact r9PowMod_con e | exact r9Sub_con e | exact r9Gcd_con e), ?_⟩; refine go_ ?_) | fail)
     all_goals (first | ((repeat (first | refine fg_ ?_ | refine pg_ ?_ | refine qg_ ?_ | refine an_ ?_ | refine ip_ ?_ | refine in_ ?_ | (refine .inl ⟨_, (by first | exact r9X_con ‹_› | exact r9Mod_con ‹_› | exact r1FromInt_con ‹_› | exact r9PowMod_con ‹_› | exact r9Sub_con ‹_› | exact r9Gcd_con ‹_›), ?_⟩; refine go_ ?_))); exact ih0 _ (by omega) _ _ _ _ h) | (cases h <;> (repeat (first | refine fg_ ?_ | refine pg_ ?_ | refine qg_ ?_ | refine an_ ?_ | refine ip_ ?_ | refine in_ ?_ | (refine .inl ⟨_, (by first | exact r9X_con ‹_› | exact r9Mod_con ‹_› | exact r1FromInt_con ‹_› | exact r9PowMod_con ‹_› | exact r9Sub_con ‹_› | exact r9Gcd_con ‹_›), ?_⟩; refine go_ ?_))) <;> (first | done | rfl | trivial | (simp; done) | (exfalso; omega))) | (exfalso; omega))
    exact key _ _ _ _ _ h)
theorem r15Check_con {k : Nat} {a0_0 : Int} {l0_1 : List Int} {r : Int} (h : r15Check.f k a0_0 l0_1 = some r) : Con Tryz.prog 11 [⟨.pr (.int .i64) (.pr (.sl 3 (.int .i64)) (.un)), (a0_0, (l0_1, ()))⟩] [(false, ⟨.int .i64, r⟩)] := by
 refine con_ (ps := [0, 1, 2, 3, 9, 13, 18, 29]) (res := [(2, none)]) ?_ Tryz.func11 Tryz.ntmps11
 refine go_ ?_
 unfold r15Check.f at h
 replace h := hs_ h
 repeat' (first | split at h | (refine bnf h fun t e h => ?_; (repeat (first | refine fg_ ?_ | refine pg_ ?_ | refine qg_ ?_ | refine an_ ?_ | refine ip_ ?_ | refine in_ ?_)); refine .inl ⟨_, (by first | exact r9Check_con e | exact r9Lead_con e | exact r9IsIrreducible_con e), ?_⟩; refine go_ ?_) | (refine bnf h fun t e h => ?_; (repeat (first | refine fg_ ?_ | refine pg_ ?_ | refine qg_ ?_ | refine an_ ?_ | refine ip_ ?_ | refine in_ ?_ | (refine .inl ⟨_, (by first | exact r9Check_con ‹_› | exact r9Lead_con ‹_› | exact r9IsIrreducible_con ‹_›), ?_⟩; refine go_ ?_))); refine .inl ⟨_, (by first | exact r9Check_con e | exact r9Lead_con e | exact r9IsIrreducible_con e), ?_⟩; refine go_ ?_) | (rcases k with _ | k; (· cases h); unfold r15Check.j0 at h; replace h := hs_ h) | fail)
 all_goals (first | (cases h <;> (repeat (first | refine fg_ ?_ | refine pg_ ?_ | refine qg_ ?_ | refine an_ ?_ | refine ip_ ?_ | refine in_ ?_ | (refine .inl ⟨_, (by first | exact r9Check_con ‹_› | exact r9Lead_con ‹_› | exact r9IsIrreducible_con ‹_›), ?_⟩; refine go_ ?_))) <;> (first | done | rfl | trivial | (simp; done) | (exfalso; omega))) | (exfalso; omega))
theorem r15Degree_con {a0_0 : Int} {l0_1 : List Int} {r : Int} (h : r15Degree.f a0_0 l0_1 = some r) : Con Tryz.prog 54 [⟨.pr (.int .i64) (.pr (.sl 3 (.int .i64)) (.un)), (a0_0, (l0_1, ()))⟩] [(false, ⟨.int .i64, r⟩)] := by
 refine con_ (ps := [0, 1, 2]) (res := [(2, none)]) ?_ Tryz.func54 Tryz.ntmps54
 refine go_ ?_
 unfold r15Degree.f at h
 replace h := hs_ h
 repeat' (first | split at h | fail)
 all_goals (first | (cases h <;> (repeat (first | refine fg_ ?_ | refine pg_ ?_ | refine qg_ ?_ | refine an_ ?_ | refine ip_ ?_ | refine in_ ?_)) <;> (first | done | rfl | trivial | (simp; done) | (exfalso; omega))) | (exfalso; omega))
theorem r15Size_con {k : Nat} {a0_0 : Int} {l0_1 : List Int} {r : Int} (h : r15Size.f k a0_0 l0_1 = some r) : Con Tryz.prog 13 [⟨.pr (.int .i64) (.pr (.sl 3 (.int .i64)) (.un)), (a0_0, (l0_1, ()))⟩] [(false, ⟨.int .i64, r⟩)] := by
 refine con_ (ps := [0, 1, 2, 3, 4, 8, 15]) (res := [(2, none)]) ?_ Tryz.func13 Tryz.ntmps13
 refine go_ ?_
 unfold r15Size.f at h
 replace h := hs_ h
 repeat' (first | split at h | (refine bnf h fun t e h => ?_; (repeat (first | refine fg_ ?_ | refine pg_ ?_ | refine qg_ ?_ | refine an_ ?_ | refine ip_ ?_ | refine in_ ?_)); refine .inl ⟨_, (by first | exact r15Degree_con e), ?_⟩; refine go_ ?_) | (refine bnf h fun t e h => ?_; (repeat (first | refine fg_ ?_ | refine pg_ ?_ | refine qg_ ?_ | refine an_ ?_ | refine ip_ ?_ | refine in_ ?_ | (refine .inl ⟨_, (by first | exact r15Degree_con ‹_›), ?_⟩; refine go_ ?_))); refine .inl ⟨_, (by first | exact r15Degree_con e), ?_⟩; refine go_ ?_) | fail)
 all_goals first
  | (cases h <;> (repeat (first | refine fg_ ?_ | refine pg_ ?_ | refine qg_ ?_ | refine an_ ?_ | refine ip_ ?_ | refine in_ ?_ | (refine .inl ⟨_, (by first | exact r15Degree_con ‹_›), ?_⟩; refine go_ ?_))) <;> (first | done | rfl | trivial | (simp; done) | (exfalso; omega)))
  | (exfalso; omega)
  | (
    (with_reducible have h : r15Size.l0 _ _ _ _ _ = some r := h)
    repeat (first | refine fg_ ?_ | refine pg_ ?_ | refine qg_ ?_ | refine an_ ?_ | refine ip_ ?_ | refine in_ ?_ | (refine .inl ⟨_, (by first | exact r15Degree_con ‹_›), ?_⟩; refine go_ ?_))
    refine lp [(3, .keep), (4, .keep), (1, .box)] fun X0 hX0 => ?_
    refine go_ ?_
    have key : ∀ k x3 x4 x102000 x102001, r15Size.l0 k x3 x4 x102000 x102001 = some r → X0 ⟨lkp .bot [(1, .ptr 2 0 []), (4, .ro (.int .i64) x4), (3, .ro (.int .i64) x3)], lkp none [(2, some ⟨25, .pr (.int .i64) (.pr (.sl 3 (.int .i64)) (.un)), [(x102000, (x102001, ()))], true⟩)], 0⟩ := by
     refine sind fun k ih0 x3 x4 x102000 x102001 h => hX0 _ ?_
     clear hX0
     rcases k with _ | k
     ·cases h
     unfold r15Size.l0 at h
     replace h := hs_ h
     refine go_ ?_
     repeat' (first | split at h | (refine bnf h fun t e h => ?_; (repeat (first | refine fg_ ?_ | refine pg_ ?_ | refine qg_ ?_ | refine an_ ?_ | refine ip_ ?_ | refine in_ ?_)); refine .inl ⟨_, (by first | exact r15Degree_con e), ?_⟩; refine go_ ?_) | (refine bnf h fun t e h => ?_; (repeat (first | refine fg_ ?_ | refine pg_ ?_ | refine qg_ ?_ | refine an_ ?_ | refine ip_ ?_ | refine in_ ?_ | (refine .inl ⟨_, (by first | exact r15Degree_con ‹_›), ?_⟩; refine go_ ?_))); refine .inl ⟨_, (by first | exact r15Degree_con e), ?_⟩; refine go_ ?_) | fail)
     all_goals (first | ((repeat (first | refine fg_ ?_ | refine pg_ ?_ | refine qg_ ?_ | refine an_ ?_ | refine ip_ ?_ | refine in_ ?_ | (refine .inl ⟨_, (by first | exact r15Degree_con ‹_›), ?_⟩; refine go_ ?_))); exact ih0 _ (by omega) _ _ _ _ h) | (cases h <;> (repeat (first | refine fg_ ?_ | refine pg_ ?_ | refine qg_ ?_ | refine an_ ?_ | refine ip_ ?_ | refine in_ ?_ | (refine .inl ⟨_, (by first | exact r15Degree_con ‹_›), ?_⟩; refine go_ ?_))) <;> (first | done | rfl | trivial | (simp; done) | (exfalso; omega))) | (exfalso; omega))
    exact key _ _ _ _ _ h)
theorem r15Few_con {k : Nat} {a0_0 : Int} {l0_1 : List Int} {a1 : Int} {r : Bool} (h : r15Few.f k a0_0 l0_1 a1 = some r) : Con Tryz.prog 12 [⟨.pr (.int .i64) (.pr (.sl 3 (.int .i64)) (.un)), (a0_0, (l0_1, ()))⟩, ⟨.int .i64, a1⟩] [(false, ⟨.bool, r⟩)] := by
 refine con_ (ps := [0, 1, 2, 4]) (res := [(4, none)]) ?_ Tryz.func12 Tryz.ntmps12
 refine go_ ?_
 unfold r15Few.f at h
 replace h := hs_ h
 repeat' (first | split at h | (refine bnf h fun t e h => ?_; (repeat (first | refine fg_ ?_ | refine pg_ ?_ | refine qg_ ?_ | refine an_ ?_ | refine ip_ ?_ | refine in_ ?_)); refine .inl ⟨_, (by first | exact r15Check_con e | exact r15Size_con e), ?_⟩; refine go_ ?_) | (refine bnf h fun t e h => ?_; (repeat (first | refine fg_ ?_ | refine pg_ ?_ | refine qg_ ?_ | refine an_ ?_ | refine ip_ ?_ | refine in_ ?_ | (refine .inl ⟨_, (by first | exact r15Check_con ‹_› | exact r15Size_con ‹_›), ?_⟩; refine go_ ?_))); refine .inl ⟨_, (by first | exact r15Check_con e | exact r15Size_con e), ?_⟩; refine go_ ?_) | fail)
 all_goals (first | (cases h <;> (repeat (first | refine fg_ ?_ | refine pg_ ?_ | refine qg_ ?_ | refine an_ ?_ | refine ip_ ?_ | refine in_ ?_ | (refine .inl ⟨_, (by first | exact r15Check_con ‹_› | exact r15Size_con ‹_›), ?_⟩; refine go_ ?_))) <;> (first | done | rfl | trivial | (simp; done) | (exfalso; omega))) | (exfalso; omega))
theorem r15Member_con {k : Nat} {a0_0 : Int} {l0_1 : List Int} {l1 : List Int} {r : Int} (h : r15Member.f k a0_0 l0_1 l1 = some r) : Con Tryz.prog 33 [⟨.pr (.int .i64) (.pr (.sl 3 (.int .i64)) (.un)), (a0_0, (l0_1, ()))⟩, ⟨.sl 3 (.int .i64), l1⟩] [(false, ⟨.int .i64, r⟩)] := by
 refine con_ (ps := [0, 1, 2, 4, 5, 19]) (res := [(4, none)]) ?_ Tryz.func33 Tryz.ntmps33
 refine go_ ?_
 unfold r15Member.f at h
 replace h := hs_ h
 repeat' (first | split at h | (refine bnf h fun t e h => ?_; (repeat (first | refine fg_ ?_ | refine pg_ ?_ | refine qg_ ?_ | refine an_ ?_ | refine ip_ ?_ | refine in_ ?_)); refine .inl ⟨_, (by first | exact r9Check_con e), ?_⟩; refine go_ ?_) | (refine bnf h fun t e h => ?_; (repeat (first | refine fg_ ?_ | refine pg_ ?_ | refine qg_ ?_ | refine an_ ?_ | refine ip_ ?_ | refine in_ ?_ | (refine .inl ⟨_, (by first | exact r9Check_con ‹_›), ?_⟩; refine go_ ?_))); refine .inl ⟨_, (by first | exact r9Check_con e), ?_⟩; refine go_ ?_) | fail)
 all_goals (first | (cases h <;> (repeat (first | refine fg_ ?_ | refine pg_ ?_ | refine qg_ ?_ | refine an_ ?_ | refine ip_ ?_ | refine in_ ?_ | (refine .inl ⟨_, (by first | exact r9Check_con ‹_›), ?_⟩; refine go_ ?_))) <;> (first | done | rfl | trivial | (simp; done) | (exfalso; omega))) | (exfalso; omega))
theorem r15CheckElement_con {k : Nat} {a0_0 : Int} {l0_1 : List Int} {l1 : List Int} {r : Int} (h : r15CheckElement.f k a0_0 l0_1 l1 = some r) : Con Tryz.prog 62 [⟨.pr (.int .i64) (.pr (.sl 3 (.int .i64)) (.un)), (a0_0, (l0_1, ()))⟩, ⟨.sl 3 (.int .i64), l1⟩] [(false, ⟨.int .i64, r⟩)] := by
 refine con_ (ps := [0, 1, 2, 4, 7]) (res := [(4, none)]) ?_ Tryz.func62 Tryz.ntmps62
 refine go_ ?_
 unfold r15CheckElement.f at h
 replace h := hs_ h
 repeat' (first | split at h | (refine bnf h fun t e h => ?_; (repeat (first | refine fg_ ?_ | refine pg_ ?_ | refine qg_ ?_ | refine an_ ?_ | refine ip_ ?_ | refine in_ ?_)); refine .inl ⟨_, (by first | exact r15Check_con e | exact r15Member_con e), ?_⟩; refine go_ ?_) | (refine bnf h fun t e h => ?_; (repeat (first | refine fg_ ?_ | refine pg_ ?_ | refine qg_ ?_ | refine an_ ?_ | refine ip_ ?_ | refine in_ ?_ | (refine .inl ⟨_, (by first | exact r15Check_con ‹_› | exact r15Member_con ‹_›), ?_⟩; refine go_ ?_))); refine .inl ⟨_, (by first | exact r15Check_con e | exact r15Member_con e), ?_⟩; refine go_ ?_) | fail)
 all_goals (first | (cases h <;> (repeat (first | refine fg_ ?_ | refine pg_ ?_ | refine qg_ ?_ | refine an_ ?_ | refine ip_ ?_ | refine in_ ?_ | (refine .inl ⟨_, (by first | exact r15Check_con ‹_› | exact r15Member_con ‹_›), ?_⟩; refine go_ ?_))) <;> (first | done | rfl | trivial | (simp; done) | (exfalso; omega))) | (exfalso; omega))
theorem galoisref18_CheckSmall_con {k : Nat} {a0_0 : Int} {l0_1 : List Int} {l1 : List Int} {l2 : List Int} {a3 : Int} {r : Int} (h : galoisref18_CheckSmall.f k a0_0 l0_1 l1 l2 a3 = some r) : Con Tryz.prog 15 [⟨.pr (.int .i64) (.pr (.sl 3 (.int .i64)) (.un)), (a0_0, (l0_1, ()))⟩, ⟨.sl 3 (.int .i64), l1⟩, ⟨.sl 3 (.int .i64), l2⟩, ⟨.int .i64, a3⟩] [(false, ⟨.int .i64, r⟩)] := by
 refine con_ (ps := [0, 1, 2, 3, 4, 8, 9, 14, 30]) (res := [(8, none)]) ?_ Tryz.func15 Tryz.ntmps15
 refine go_ ?_
 unfold galoisref18_CheckSmall.f at h
 replace h := hs_ h
 repeat' (first | split at h | (refine bnf h fun t e h => ?_; (repeat (first | refine fg_ ?_ | refine pg_ ?_ | refine qg_ ?_ | refine an_ ?_ | refine ip_ ?_ | refine in_ ?_)); refine .inl ⟨_, (by first | exact r15CheckElement_con e | exact r15Member_con e | exact r15Size_con e), ?_⟩; refine go_ ?_) | (refine bnf h fun t e h => ?_; (repeat (first | refine fg_ ?_ | refine pg_ ?_ | refine qg_ ?_ | refine an_ ?_ | refine ip_ ?_ | refine in_ ?_ | (refine .inl ⟨_, (by first | exact r15CheckElement_con ‹_› | exact r15Member_con ‹_› | exact r15Size_con ‹_›), ?_⟩; refine go_ ?_))); refine .inl ⟨_, (by first | exact r15CheckElement_con e | exact r15Member_con e | exact r15Size_con e), ?_⟩; refine go_ ?_) | (rcases k with _ | k; (· cases h); unfold galoisref18_CheckSmall.j0 at h; replace h := hs_ h) | fail)
 all_goals (first | (cases h <;> (repeat (first | refine fg_ ?_ | refine pg_ ?_ | refine qg_ ?_ | refine an_ ?_ | refine ip_ ?_ | refine in_ ?_ | (refine .inl ⟨_, (by first | exact r15CheckElement_con ‹_› | exact r15Member_con ‹_› | exact r15Size_con ‹_›), ?_⟩; refine go_ ?_))) <;> (first | done | rfl | trivial | (simp; done) | (exfalso; omega))) | (exfalso; omega))
theorem r15Mul_con {k : Nat} {a0_0 : Int} {l0_1 : List Int} {l1 : List Int} {l2 : List Int} {r : List Int} (h : r15Mul.f k a0_0 l0_1 l1 l2 = some r) : Con Tryz.prog 64 [⟨.pr (.int .i64) (.pr (.sl 3 (.int .i64)) (.un)), (a0_0, (l0_1, ()))⟩, ⟨.sl 3 (.int .i64), l1⟩, ⟨.sl 3 (.int .i64), l2⟩] [(false, ⟨.sl 3 (.int .i64), r⟩)] := by
 refine con_ (ps := [0, 1, 2, 3, 6]) (res := [(6, none)]) ?_ Tryz.func64 Tryz.ntmps64
 refine go_ ?_
 unfold r15Mul.f at h
 replace h := hs_ h
 repeat' (first | split at h | (refine bnf h fun t e h => ?_; (repeat (first | refine fg_ ?_ | refine pg_ ?_ | refine qg_ ?_ | refine an_ ?_ | refine ip_ ?_ | refine in_ ?_)); refine .inl ⟨_, (by first | exact r9MulMod_con e), ?_⟩; refine go_ ?_) | (refine bnf h fun t e h => ?_; (repeat (first | refine fg_ ?_ | refine pg_ ?_ | refine qg_ ?_ | refine an_ ?_ | refine ip_ ?_ | refine in_ ?_ | (refine .inl ⟨_, (by first | exact r9MulMod_con ‹_›), ?_⟩; refine go_ ?_))); refine .inl ⟨_, (by first | exact r9MulMod_con e), ?_⟩; refine go_ ?_) | fail)
 all_goals (first | (cases h <;> (repeat (first | refine fg_ ?_ | refine pg_ ?_ | refine qg_ ?_ | refine an_ ?_ | refine ip_ ?_ | refine in_ ?_ | (refine .inl ⟨_, (by first | exact r9MulMod_con ‹_›), ?_⟩; refine go_ ?_))) <;> (first | done | rfl | trivial | (simp; done) | (exfalso; omega))) | (exfalso; omega))
theorem r15MultiplicativeOrder_con {k : Nat} {a0_0 : Int} {l0_1 : List Int} {l1 : List Int} {r : Int} (h : r15MultiplicativeOrder.f k a0_0 l0_1 l1 = some r) : Con Tryz.prog 63 [⟨.pr (.int .i64) (.pr (.sl 3 (.int .i64)) (.un)), (a0_0, (l0_1, ()))⟩, ⟨.sl 3 (.int .i64), l1⟩] [(false, ⟨.int .i64, r⟩)] := by
 refine con_ (ps := [0, 1, 2, 4, 5, 6, 11]) (res := [(4, none)]) ?_ Tryz.func63 Tryz.ntmps63
 refine go_ ?_
 unfold r15MultiplicativeOrder.f at h
 replace h := hs_ h
 repeat' (first | split at h | (refine bnf h fun t e h => ?_; (repeat (first | refine fg_ ?_ | refine pg_ ?_ | refine qg_ ?_ | refine an_ ?_ | refine ip_ ?_ | refine in_ ?_)); refine .inl ⟨_, (by first | exact r9Same_con e | exact r15Mul_con e), ?_⟩; refine go_ ?_) | (refine bnf h fun t e h => ?_; (repeat (first | refine fg_ ?_ | refine pg_ ?_ | refine qg_ ?_ | refine an_ ?_ | refine ip_ ?_ | refine in_ ?_ | (refine .inl ⟨_, (by first | exact r9Same_con ‹_› | exact r15Mul_con ‹_›), ?_⟩; refine go_ ?_))); refine .inl ⟨_, (by first | exact r9Same_con e | exact r15Mul_con e), ?_⟩; refine go_ ?_) | fail)
 all_goals first
  | (cases h <;> (repeat (first | refine fg_ ?_ | refine pg_ ?_ | refine qg_ ?_ | refine an_ ?_ | refine ip_ ?_ | refine in_ ?_ | (refine .inl ⟨_, (by first | exact r9Same_con ‹_› | exact r15Mul_con ‹_›), ?_⟩; refine go_ ?_))) <;> (first | done | rfl | trivial | (simp; done) | (exfalso; omega)))
  | (exfalso; omega)
  | (
    (with_reducible have h : r15MultiplicativeOrder.l0 _ _ _ _ _ _ = some r := h)
    repeat (first | refine fg_ ?_ | refine pg_ ?_ | refine qg_ ?_ | refine an_ ?_ | refine ip_ ?_ | refine in_ ?_ | (refine .inl ⟨_, (by first | exact r9Same_con ‹_› | exact r15Mul_con ‹_›), ?_⟩; refine go_ ?_))
    refine lp [(1, .row 3 (.int .i64)), (5, .keep), (6, .row 3 (.int .i64)), (2, .box)] fun X0 hX0 => ?_
    refine go_ ?_
    have key : ∀ k x1 x5 x6 x102000 x102001, r15MultiplicativeOrder.l0 k x1 x5 x6 x102000 x102001 = some r → X0 ⟨lkp .bot [(2, .ptr 4 0 []), (6, .ro (.sl 3 (.int .i64)) x6), (5, .ro (.int .i64) x5), (1, .ro (.sl 3 (.int .i64)) x1)], lkp none [(4, some ⟨25, .pr (.int .i64) (.pr (.sl 3 (.int .i64)) (.un)), [(x102000, (x102001, ()))], true⟩)], 0⟩ := by
     refine sind fun k ih0 x1 x5 x6 x102000 x102001 h => hX0 _ ?_
     clear hX0
     rcases k with _ | k
     ·cases h
     unfold r15MultiplicativeOrder.l0 at h
     replace h := hs_ h
     refine go_ ?_
     repeat' (first | split at h | (refine bnf h fun t e h => ?_; (repeat (first | refine fg_ ?_ | refine pg_ ?_ | refine qg_ ?_ | refine an_ ?_ | refine ip_ ?_ | refine in_ ?_)); refine .inl ⟨_, (by first | exact r9Same_con e | exact r15Mul_con e), ?_⟩; refine go_ ?_) | (refine bnf h fun t e h => ?_; (repeat (first | refine fg_ ?_ | refine pg_ ?_ | refine qg_ ?_ | refine an_ ?_ | refine ip_ ?_ | refine in_ ?_ | (refine .inl ⟨_, (by first | exact r9Same_con ‹_› | exact r15Mul_con ‹_›), ?_⟩; refine go_ ?_))); refine .inl ⟨_, (by first | exact r9Same_con e | exact r15Mul_con e), ?_⟩; refine go_ ?_) | fail)
     all_goals (first | ((repeat (first | refine fg_ ?_ | refine pg_ ?_ | refine qg_ ?_ | refine an_ ?_ | refine ip_ ?_ | refine in_ ?_ | (refine .inl ⟨_, (by first | exact r9Same_con ‹_› | exact r15Mul_con ‹_›), ?_⟩; refine go_ ?_))); exact ih0 _ (by omega) _ _ _ _ _ h) | (cases h <;> (repeat (first | refine fg_ ?_ | refine pg_ ?_ | refine qg_ ?_ | refine an_ ?_ | refine ip_ ?_ | refine in_ ?_ | (refine .inl ⟨_, (by first | exact r9Same_con ‹_› | exact r15Mul_con ‹_›), ?_⟩; refine go_ ?_))) <;> (first | done | rfl | trivial | (simp; done) | (exfalso; omega))) | (exfalso; omega))
    exact key _ _ _ _ _ _ h)
theorem galoisref18_IsGenerator_con {k : Nat} {a0_0 : Int} {l0_1 : List Int} {l1 : List Int} {r : Bool} (h : galoisref18_IsGenerator.f k a0_0 l0_1 l1 = some r) : Con Tryz.prog 16 [⟨.pr (.int .i64) (.pr (.sl 3 (.int .i64)) (.un)), (a0_0, (l0_1, ()))⟩, ⟨.sl 3 (.int .i64), l1⟩] [(false, ⟨.bool, r⟩)] := by
 refine con_ (ps := [0, 1, 2, 4]) (res := [(4, none)]) ?_ Tryz.func16 Tryz.ntmps16
 refine go_ ?_
 unfold galoisref18_IsGenerator.f at h
 replace h := hs_ h
 repeat' (first | split at h | (refine bnf h fun t e h => ?_; (repeat (first | refine fg_ ?_ | refine pg_ ?_ | refine qg_ ?_ | refine an_ ?_ | refine ip_ ?_ | refine in_ ?_)); refine .inl ⟨_, (by first | exact r15MultiplicativeOrder_con e | exact r15Size_con e), ?_⟩; refine go_ ?_) | (refine bnf h fun t e h => ?_; (repeat (first | refine fg_ ?_ | refine pg_ ?_ | refine qg_ ?_ | refine an_ ?_ | refine ip_ ?_ | refine in_ ?_ | (refine .inl ⟨_, (by first | exact r15MultiplicativeOrder_con ‹_› | exact r15Size_con ‹_›), ?_⟩; refine go_ ?_))); refine .inl ⟨_, (by first | exact r15MultiplicativeOrder_con e | exact r15Size_con e), ?_⟩; refine go_ ?_) | fail)
 all_goals (first | (cases h <;> (repeat (first | refine fg_ ?_ | refine pg_ ?_ | refine qg_ ?_ | refine an_ ?_ | refine ip_ ?_ | refine in_ ?_ | (refine .inl ⟨_, (by first | exact r15MultiplicativeOrder_con ‹_› | exact r15Size_con ‹_›), ?_⟩; refine go_ ?_))) <;> (first | done | rfl | trivial | (simp; done) | (exfalso; omega))) | (exfalso; omega))
theorem r15Number_con {k : Nat} {a0_0 : Int} {l0_1 : List Int} {l1 : List Int} {r : Int} (h : r15Number.f k a0_0 l0_1 l1 = some r) : Con Tryz.prog 18 [⟨.pr (.int .i64) (.pr (.sl 3 (.int .i64)) (.un)), (a0_0, (l0_1, ()))⟩, ⟨.sl 3 (.int .i64), l1⟩] [(false, ⟨.int .i64, r⟩)] := by
 refine con_ (ps := [0, 1, 2, 4, 5, 6, 11]) (res := [(4, none)]) ?_ Tryz.func18 Tryz.ntmps18
 refine go_ ?_
 unfold r15Number.f at h
 replace h := hs_ h
 repeat' (first | split at h | fail)
 all_goals first
  | (cases h <;> (repeat (first | refine fg_ ?_ | refine pg_ ?_ | refine qg_ ?_ | refine an_ ?_ | refine ip_ ?_ | refine in_ ?_)) <;> (first | done | rfl | trivial | (simp; done) | (exfalso; omega)))
  | (exfalso; omega)
  | (
    (with_reducible have h : r15Number.l0 _ _ _ _ _ _ = some r := h)
    repeat (first | refine fg_ ?_ | refine pg_ ?_ | refine qg_ ?_ | refine an_ ?_ | refine ip_ ?_ | refine in_ ?_)
    refine lp [(1, .row 3 (.int .i64)), (5, .keep), (6, .keep), (2, .box)] fun X0 hX0 => ?_
    refine go_ ?_
    have key : ∀ k x1 x5 x6 x102000 x102001, r15Number.l0 k x1 x5 x6 x102000 x102001 = some r → X0 ⟨lkp .bot [(2, .ptr 4 0 []), (6, .ro (.int .i64) x6), (5, .ro (.int .i64) x5), (1, .ro (.sl 3 (.int .i64)) x1)], lkp none [(4, some ⟨25, .pr (.int .i64) (.pr (.sl 3 (.int .i64)) (.un)), [(x102000, (x102001, ()))], true⟩)], 0⟩ := by
     refine sind fun k ih0 x1 x5 x6 x102000 x102001 h => hX0 _ ?_
     clear hX0
     rcases k with _ | k
     ·cases h
     unfold r15Number.l0 at h
     replace h := hs_ h
     refine go_ ?_
     repeat' (first | split at h | fail)
     all_goals (first | ((repeat (first | refine fg_ ?_ | refine pg_ ?_ | refine qg_ ?_ | refine an_ ?_ | refine ip_ ?_ | refine in_ ?_)); exact ih0 _ (by omega) _ _ _ _ _ h) | (cases h <;> (repeat (first | refine fg_ ?_ | refine pg_ ?_ | refine qg_ ?_ | refine an_ ?_ | refine ip_ ?_ | refine in_ ?_)) <;> (first | done | rfl | trivial | (simp; done) | (exfalso; omega))) | (exfalso; omega))
    exact key _ _ _ _ _ _ h)
theorem galoisref18_Table_con {k : Nat} {a0_0 : Int} {l0_1 : List Int} {l1 : List Int} {r : List Int} (h : galoisref18_Table.f k a0_0 l0_1 l1 = some r) : Con Tryz.prog 17 [⟨.pr (.int .i64) (.pr (.sl 3 (.int .i64)) (.un)), (a0_0, (l0_1, ()))⟩, ⟨.sl 3 (.int .i64), l1⟩] [(false, ⟨.sl 3 (.int .i64), r⟩)] := by
 refine con_ (ps := [0, 1, 2, 4, 5, 6, 7, 8, 19]) (res := [(4, none)]) ?_ Tryz.func17 Tryz.ntmps17
 refine go_ ?_
 unfold galoisref18_Table.f at h
 replace h := hs_ h
 repeat' (first | split at h | (refine bnf h fun t e h => ?_; (repeat (first | refine fg_ ?_ | refine pg_ ?_ | refine qg_ ?_ | refine an_ ?_ | refine ip_ ?_ | refine in_ ?_)); refine .inl ⟨_, (by first | exact r15Size_con e | exact r15Number_con e | exact r15Mul_con e), ?_⟩; refine go_ ?_) | (refine bnf h fun t e h => ?_; (repeat (first | refine fg_ ?_ | refine pg_ ?_ | refine qg_ ?_ | refine an_ ?_ | refine ip_ ?_ | refine in_ ?_ | (refine .inl ⟨_, (by first | exact r15Size_con ‹_› | exact r15Number_con ‹_› | exact r15Mul_con ‹_›), ?_⟩; refine go_ ?_))); refine .inl ⟨_, (by first | exact r15Size_con e | exact r15Number_con e | exact r15Mul_con e), ?_⟩; refine go_ ?_) | fail)
 all_goals first
  | (cases h <;> (repeat (first | refine fg_ ?_ | refine pg_ ?_ | refine qg_ ?_ | refine an_ ?_ | refine ip_ ?_ | refine in_ ?_ | (refine .inl ⟨_, (by first | exact r15Size_con ‹_› | exact r15Number_con ‹_› | exact r15Mul_con ‹_›), ?_⟩; refine go_ ?_))) <;> (first | done | rfl | trivial | (simp; done) | (exfalso; omega)))
  | (exfalso; omega)
  | (
    (with_reducible have h : galoisref18_Table.l0 _ _ _ _ _ _ _ _ = some r := h)
    repeat (first | refine fg_ ?_ | refine pg_ ?_ | refine qg_ ?_ | refine an_ ?_ | refine ip_ ?_ | refine in_ ?_ | (refine .inl ⟨_, (by first | exact r15Size_con ‹_› | exact r15Number_con ‹_› | exact r15Mul_con ‹_›), ?_⟩; refine go_ ?_))
    refine lp [(1, .row 3 (.int .i64)), (5, .keep), (6, .own 3 (.int .i64)), (7, .row 3 (.int .i64)), (8, .keep), (2, .box)] fun X0 hX0 => ?_
    refine go_ ?_
    have key : ∀ k x1 x5 x6 x7 x8 x102000 x102001, galoisref18_Table.l0 k x1 x5 x6 x7 x8 x102000 x102001 = some r → X0 ⟨lkp .bot [(2, .ptr 4 0 []), (8, .ro (.int .i64) x8), (7, .ro (.sl 3 (.int .i64)) x7), (6, .own 12), (5, .ro (.int .i64) x5), (1, .ro (.sl 3 (.int .i64)) x1)], lkp none [(4, some ⟨25, .pr (.int .i64) (.pr (.sl 3 (.int .i64)) (.un)), [(x102000, (x102001, ()))], true⟩), (12, some ⟨3, .int .i64, x6, true⟩)], 0⟩ := by
     refine sind fun k ih0 x1 x5 x6 x7 x8 x102000 x102001 h => hX0 _ ?_
     clear hX0
     rcases k with _ | k
     ·cases h
     unfold galoisref18_Table.l0 at h
     replace h := hs_ h
     refine go_ ?_
     repeat' (first | split at h | (refine bnf h fun t e h => ?_; (repeat (first | refine fg_ ?_ | refine pg_ ?_ | refine qg_ ?_ | refine an_ ?_ | refine ip_ ?_ | refine in_ ?_)); refine .inl ⟨_, (by first | exact r15Size_con e | exact r15Number_con e | exact r15Mul_con e), ?_⟩; refine go_ ?_) | (refine bnf h fun t e h => ?_; (repeat (first | refine fg_ ?_ | refine pg_ ?_ | refine qg_ ?_ | refine an_ ?_ | refine ip_ ?_ | refine in_ ?_ | (refine .inl ⟨_, (by first | exact r15Size_con ‹_› | exact r15Number_con ‹_› | exact r15Mul_con ‹_›), ?_⟩; refine go_ ?_))); refine .inl ⟨_, (by first | exact r15Size_con e | exact r15Number_con e | exact r15Mul_con e), ?_⟩; refine go_ ?_) | fail)
     all_goals (first | ((repeat (first | refine fg_ ?_ | refine pg_ ?_ | refine qg_ ?_ | refine an_ ?_ | refine ip_ ?_ | refine in_ ?_ | (refine .inl ⟨_, (by first | exact r15Size_con ‹_› | exact r15Number_con ‹_› | exact r15Mul_con ‹_›), ?_⟩; refine go_ ?_))); exact ih0 _ (by omega) _ _ _ _ _ _ _ h) | (cases h <;> (repeat (first | refine fg_ ?_ | refine pg_ ?_ | refine qg_ ?_ | refine an_ ?_ | refine ip_ ?_ | refine in_ ?_ | (refine .inl ⟨_, (by first | exact r15Size_con ‹_› | exact r15Number_con ‹_› | exact r15Mul_con ‹_›), ?_⟩; refine go_ ?_))) <;> (first | done | rfl | trivial | (simp; done) | (exfalso; omega))) | (exfalso; omega))
    exact key _ _ _ _ _ _ _ _ h)
end Go.Proofs.YtillaipaanancaaGreat.Q
end

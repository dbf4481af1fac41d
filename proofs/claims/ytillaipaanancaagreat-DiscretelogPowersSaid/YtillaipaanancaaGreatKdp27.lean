/- Machine side and arithmetic of the law, put together by a program of the session. No conditions. -/
import Derived.Test.YtillaipaanancaaGreatKdp18
import Derived.Test.YtillaipaanancaaGreatKdp25
import Derived.Test.YtillaipaanancaaGreatKdp26
section
set_option linter.unusedVariables false
set_option maxRecDepth 100000
set_option maxHeartbeats 8000000
namespace Go.Proofs.YtillaipaanancaaGreat.Q
open Go.RowKit Go.TT Go.Proofs.YtillaipaanancaaGreatW.PrintWords
theorem r9Sub_con {k : Nat} {a0 : Int} {l1 : List Int} {l2 : List Int} {r : List Int} (h : r9Sub.f k a0 l1 l2 = some r) : Con Tryz.prog 102 [⟨.int .i64, a0⟩, ⟨.sl 3 (.int .i64), l1⟩, ⟨.sl 3 (.int .i64), l2⟩] [(false, ⟨.sl 3 (.int .i64), r⟩)] := by
 refine con_ (ps := [0, 1, 2, 6]) (res := [(6, none)]) ?_ Tryz.func102 Tryz.ntmps102
 refine go_ ?_
 unfold r9Sub.f at h
 replace h := hs_ h
 repeat' (first | split at h | (refine bnf h fun t e h => ?_; (repeat (first | refine g6_ ?_)); refine .inl ⟨_, (by first | exact r9Scale_con e | exact r9Add_con e), ?_⟩; refine go_ ?_) | (refine bnf h fun t e h => ?_; (repeat (first | refine g6_ ?_ | (refine .inl ⟨_, (by first | exact r9Scale_con ‹_› | exact r9Add_con ‹_›), ?_⟩; refine go_ ?_))); refine .inl ⟨_, (by first | exact r9Scale_con e | exact r9Add_con e), ?_⟩; refine go_ ?_) | fail)
 all_goals (first | (cases h <;> (repeat (first | refine g6_ ?_ | (refine .inl ⟨_, (by first | exact r9Scale_con ‹_› | exact r9Add_con ‹_›), ?_⟩; refine go_ ?_))) <;> (first | done | rfl | trivial | (simp; done) | (exfalso; omega))) | (exfalso; omega))
theorem r9X_con  {r : List Int} (h : r9X.f = some r) : Con Tryz.prog 99 [] [(false, ⟨.sl 3 (.int .i64), r⟩)] := by
 refine con_ (ps := [0]) (res := [(0, none)]) ?_ Tryz.func99 Tryz.ntmps99
 refine go_ ?_
 unfold r9X.f at h
 replace h := hs_ h
 repeat' (first | split at h | fail)
 all_goals (first | (cases h <;> (repeat (first | refine g6_ ?_)) <;> (first | done | rfl | trivial | (simp; done) | (exfalso; omega))) | (exfalso; omega))
theorem r9IsIrreducible_con {k : Nat} {a0 : Int} {l1 : List Int} {r : Bool} (h : r9IsIrreducible.f k a0 l1 = some r) : Con Tryz.prog 53 [⟨.int .i64, a0⟩, ⟨.sl 3 (.int .i64), l1⟩] [(false, ⟨.bool, r⟩)] := by
 refine con_ (ps := [0, 1, 4, 5, 6, 9, 19, 36]) (res := [(4, none)]) ?_ Tryz.func53 Tryz.ntmps53
 refine go_ ?_
 unfold r9IsIrreducible.f at h
 replace h := hs_ h
 repeat' (first | split at h | (refine bnf h fun t e h => ?_; (repeat (first | refine g6_ ?_)); refine .inl ⟨_, (by first | exact r9X_con e | exact r9Mod_con e | exact r1FromInt_con e | exact r9PowMod_con e | exact r9Sub_con e | exact r9Gcd_con e), ?_⟩; refine go_ ?_) | (refine bnf h fun t e h => ?_; (repeat (first | refine g6_ ?_ | (refine .inl ⟨_, (by first | exact r9X_con ‹_› | exact r9Mod_con ‹_› | exact r1FromInt_con ‹_› | exact r9PowMod_con ‹_› | exact r9Sub_con ‹_› | exact r9Gcd_con ‹_›), ?_⟩; refine go_ ?_))); refine .inl ⟨_, (by first | exact r9X_con e | exact r9Mod_con e | exact r1FromInt_con e | exact r9PowMod_con e | exact r9Sub_con e | exact r9Gcd_con e), ?_⟩; refine go_ ?_) | fail)
 all_goals first
  | (cases h <;> (repeat (first | refine g6_ ?_ | (refine .inl ⟨_, (by first | exact r9X_con ‹_› | exact r9Mod_con ‹_› | exact r1FromInt_con ‹_› | exact r9PowMod_con ‹_› | exact r9Sub_con ‹_› | exact r9Gcd_con ‹_›), ?_⟩; refine go_ ?_))) <;> (first | done | rfl | trivial | (simp; done) | (exfalso; omega)))
  | (exfalso; omega)
  | (
    (with_reducible have h : r9IsIrreducible.l0 _ _ _ _ _ = some r := h)
    repeat (first | refine g6_ ?_ | (refine .inl ⟨_, (by first | exact r9X_con ‹_› | exact r9Mod_con ‹_› | exact r1FromInt_con ‹_› | exact r9PowMod_con ‹_› | exact r9Sub_con ‹_› | exact r9Gcd_con ‹_›), ?_⟩; refine go_ ?_))
    refine lp [(0, .keep), (1, .row 3 (.int .i64)), (5, .row 3 (.int .i64)), (6, .keep)] fun X0 hX0 => ?_
    refine go_ ?_
    have key : ∀ k x0 x1 x5 x6, r9IsIrreducible.l0 k x0 x1 x5 x6 = some r → X0 ⟨lkp .bot [(6, .ro (.int .i64) x6), (5, .ro (.sl 3 (.int .i64)) x5), (1, .ro (.sl 3 (.int .i64)) x1), (0, .ro (.int .i64) x0)], lkp none [], 0⟩ := by
     refine sind fun k ih0 x0 x1 x5 x6 h => hX0 _ ?_
     clear hX0
     rcases k with _ | k
     ·cases h
     unfold r9IsIrreducible.l0 at h
     replace h := hs_ h
     refine go_ ?_
     repeat' (first | split at h | (refine bnf h fun t e h => ?_; (repeat (first | refine g6_ ?_)); refine .inl ⟨_, (by first | exact r9X_con e | exact r9Mod_con e | exact r1FromInt_con e | exact r9PowMod_con e | exact r9Sub_con e | exact r9Gcd_con e), ?_⟩; refine go_ ?_) | (refine bnf h fun t e h => ?_; (repeat (first | refine g6_ ?_ | (refine .inl ⟨_, (by first | exact r9X_con ‹_› | exact r9Mod_con ‹_› | exact r1FromInt_con ‹_› | exact r9PowMod_con ‹_› | exact r9Sub_con ‹_› | exact r9Gcd_con ‹_›), ?_⟩; refine go_ ?_))); refine .inl ⟨_, (by first | exact r9X_con e | exact r9Mod_con e | exact r1FromInt_con e | exact r9PowMod_con e | exact r9Sub_con e | exact r9Gcd_con e), ?_⟩; refine go_ ?_) | fail)
     all_goals (first | ((repeat (first | refine g6_ ?_ | (refine .inl ⟨_, (by first | exact r9X_con ‹_› | exact r9Mod_con ‹_› | exact r1FromInt_con ‹_› | exact r9PowMod_con ‹_› | exact r9Sub_con ‹_› | exact r9Gcd_con ‹_›), ?_⟩; refine go_ ?_))); exact ih0 _ (by omega) _ _ _ _ h) | (cases h <;> (repeat (first | refine g6_ ?_ | (refine .inl ⟨_, (by first | exact r9X_con ‹_› | exact r9Mod_con ‹_› | exact r1FromInt_con ‹_› | exact r9PowMod_con ‹_› | exact r9Sub_con ‹_› | exact r9Gcd_con ‹_›), ?_⟩; refine go_ ?_))) <;> (first | done | rfl | trivial | (simp; done) | (exfalso; omega))) | (exfalso; omega))
    exact key _ _ _ _ _ h)
theorem r15Check_con {k : Nat} {a0_0 : Int} {l0_1 : List Int} {r : Int} (h : r15Check.f k a0_0 l0_1 = some r) : Con Tryz.prog 11 [⟨.pr (.int .i64) (.pr (.sl 3 (.int .i64)) (.un)), (a0_0, (l0_1, ()))⟩] [(false, ⟨.int .i64, r⟩)] := by
 refine con_ (ps := [0, 1, 2, 3, 9, 13, 18, 29]) (res := [(2, none)]) ?_ Tryz.func11 Tryz.ntmps11
 refine go_ ?_
 unfold r15Check.f at h
 replace h := hs_ h
 repeat' (first | split at h | (refine bnf h fun t e h => ?_; (repeat (first | refine g6_ ?_)); refine .inl ⟨_, (by first | exact r9Check_con e | exact r9Lead_con e | exact r9IsIrreducible_con e), ?_⟩; refine go_ ?_) | (refine bnf h fun t e h => ?_; (repeat (first | refine g6_ ?_ | (refine .inl ⟨_, (by first | exact r9Check_con ‹_› | exact r9Lead_con ‹_› | exact r9IsIrreducible_con ‹_›), ?_⟩; refine go_ ?_))); refine .inl ⟨_, (by first | exact r9Check_con e | exact r9Lead_con e | exact r9IsIrreducible_con e), ?_⟩; refine go_ ?_) | (rcases k with _ | k; (· cases h); unfold r15Check.j0 at h; replace h := hs_ h) | fail)
 all_goals (first | (cases h <;> (repeat (first | refine g6_ ?_ | (refine .inl ⟨_, (by first | exact r9Check_con ‹_› | exact r9Lead_con ‹_› | exact r9IsIrreducible_con ‹_›), ?_⟩; refine go_ ?_))) <;> (first | done | rfl | trivial | (simp; done) | (exfalso; omega))) | (exfalso; omega))
theorem r15Few_con {k : Nat} {a0_0 : Int} {l0_1 : List Int} {a1 : Int} {r : Bool} (h : r15Few.f k a0_0 l0_1 a1 = some r) : Con Tryz.prog 12 [⟨.pr (.int .i64) (.pr (.sl 3 (.int .i64)) (.un)), (a0_0, (l0_1, ()))⟩, ⟨.int .i64, a1⟩] [(false, ⟨.bool, r⟩)] := by
 refine con_ (ps := [0, 1, 2, 4]) (res := [(4, none)]) ?_ Tryz.func12 Tryz.ntmps12
 refine go_ ?_
 unfold r15Few.f at h
 replace h := hs_ h
 repeat' (first | split at h | (refine bnf h fun t e h => ?_; (repeat (first | refine g6_ ?_)); refine .inl ⟨_, (by first | exact r15Check_con e | exact r15Size_con e), ?_⟩; refine go_ ?_) | (refine bnf h fun t e h => ?_; (repeat (first | refine g6_ ?_ | (refine .inl ⟨_, (by first | exact r15Check_con ‹_› | exact r15Size_con ‹_›), ?_⟩; refine go_ ?_))); refine .inl ⟨_, (by first | exact r15Check_con e | exact r15Size_con e), ?_⟩; refine go_ ?_) | fail)
 all_goals (first | (cases h <;> (repeat (first | refine g6_ ?_ | (refine .inl ⟨_, (by first | exact r15Check_con ‹_› | exact r15Size_con ‹_›), ?_⟩; refine go_ ?_))) <;> (first | done | rfl | trivial | (simp; done) | (exfalso; omega))) | (exfalso; omega))
theorem r15Member_con {k : Nat} {a0_0 : Int} {l0_1 : List Int} {l1 : List Int} {r : Int} (h : r15Member.f k a0_0 l0_1 l1 = some r) : Con Tryz.prog 33 [⟨.pr (.int .i64) (.pr (.sl 3 (.int .i64)) (.un)), (a0_0, (l0_1, ()))⟩, ⟨.sl 3 (.int .i64), l1⟩] [(false, ⟨.int .i64, r⟩)] := by
 refine con_ (ps := [0, 1, 2, 4, 5, 19]) (res := [(4, none)]) ?_ Tryz.func33 Tryz.ntmps33
 refine go_ ?_
 unfold r15Member.f at h
 replace h := hs_ h
 repeat' (first | split at h | (refine bnf h fun t e h => ?_; (repeat (first | refine g6_ ?_)); refine .inl ⟨_, (by first | exact r9Check_con e), ?_⟩; refine go_ ?_) | (refine bnf h fun t e h => ?_; (repeat (first | refine g6_ ?_ | (refine .inl ⟨_, (by first | exact r9Check_con ‹_›), ?_⟩; refine go_ ?_))); refine .inl ⟨_, (by first | exact r9Check_con e), ?_⟩; refine go_ ?_) | fail)
 all_goals (first | (cases h <;> (repeat (first | refine g6_ ?_ | (refine .inl ⟨_, (by first | exact r9Check_con ‹_›), ?_⟩; refine go_ ?_))) <;> (first | done | rfl | trivial | (simp; done) | (exfalso; omega))) | (exfalso; omega))
theorem l18fine_con {k : Nat} {a0_0 : Int} {l0_1 : List Int} {l1 : List Int} {l2 : List Int} {r : Bool} (h : l18fine.f k a0_0 l0_1 l1 l2 = some r) : Con Tryz.prog 39 [⟨.pr (.int .i64) (.pr (.sl 3 (.int .i64)) (.un)), (a0_0, (l0_1, ()))⟩, ⟨.sl 3 (.int .i64), l1⟩, ⟨.sl 3 (.int .i64), l2⟩] [(false, ⟨.bool, r⟩)] := by
 refine con_ (ps := [0, 1, 2, 3, 6]) (res := [(6, none)]) ?_ Tryz.func39 Tryz.ntmps39
 refine go_ ?_
 unfold l18fine.f at h
 replace h := hs_ h
 repeat' (first | split at h | (refine bnf h fun t e h => ?_; (repeat (first | refine g6_ ?_)); refine .inl ⟨_, (by first | exact r15Few_con e | exact r15Member_con e), ?_⟩; refine go_ ?_) | (refine bnf h fun t e h => ?_; (repeat (first | refine g6_ ?_ | (refine .inl ⟨_, (by first | exact r15Few_con ‹_› | exact r15Member_con ‹_›), ?_⟩; refine go_ ?_))); refine .inl ⟨_, (by first | exact r15Few_con e | exact r15Member_con e), ?_⟩; refine go_ ?_) | fail)
 all_goals (first | (cases h <;> (repeat (first | refine g6_ ?_ | (refine .inl ⟨_, (by first | exact r15Few_con ‹_› | exact r15Member_con ‹_›), ?_⟩; refine go_ ?_))) <;> (first | done | rfl | trivial | (simp; done) | (exfalso; omega))) | (exfalso; omega))
theorem fi_Mul_con {k : Nat} {a0_0 : Int} {l0_1 : List Int} {l1 : List Int} {l2 : List Int} {r1 : List Int} {r2 : Int} (h : fi_Mul.f k a0_0 l0_1 l1 l2 = some (r1, r2)) : Con Tryz.prog 41 [⟨.pr (.int .i64) (.pr (.sl 3 (.int .i64)) (.un)), (a0_0, (l0_1, ()))⟩, ⟨.sl 3 (.int .i64), l1⟩, ⟨.sl 3 (.int .i64), l2⟩] [(false, ⟨.sl 3 (.int .i64), r1⟩), (false, ⟨.int .i64, r2⟩)] := by
 refine con_ (ps := [0, 1, 2, 3, 6, 7, 8, 15]) (res := [(6, none), (7, none)]) ?_ Tryz.func41 Tryz.ntmps41
 refine go_ ?_
 unfold fi_Mul.f at h
 replace h := hs_ h
 repeat' (first | split at h | (refine bnf h fun t e h => ?_; (repeat (first | refine g6_ ?_)); refine .inl ⟨_, (by first | exact fi_check_con e | exact gFMul_con e), ?_⟩; refine go_ ?_) | (refine bnf h fun t e h => ?_; (repeat (first | refine g6_ ?_ | (refine .inl ⟨_, (by first | exact fi_check_con ‹_› | exact gFMul_con ‹_›), ?_⟩; refine go_ ?_))); refine .inl ⟨_, (by first | exact fi_check_con e | exact gFMul_con e), ?_⟩; refine go_ ?_) | fail)
 all_goals (first | (cases h <;> (repeat (first | refine g6_ ?_ | (refine .inl ⟨_, (by first | exact fi_check_con ‹_› | exact gFMul_con ‹_›), ?_⟩; refine go_ ?_))) <;> (first | done | rfl | trivial | (simp; done) | (exfalso; omega))) | (exfalso; omega))
theorem fi_Number_con {k : Nat} {a0_0 : Int} {l0_1 : List Int} {l1 : List Int} {r1 : Int} {r2 : Int} (h : fi_Number.f k a0_0 l0_1 l1 = some (r1, r2)) : Con Tryz.prog 42 [⟨.pr (.int .i64) (.pr (.sl 3 (.int .i64)) (.un)), (a0_0, (l0_1, ()))⟩, ⟨.sl 3 (.int .i64), l1⟩] [(false, ⟨.int .i64, r1⟩), (false, ⟨.int .i64, r2⟩)] := by
 refine con_ (ps := [0, 1, 2, 4, 5, 6, 8, 14, 22]) (res := [(4, none), (5, none)]) ?_ Tryz.func42 Tryz.ntmps42
 refine go_ ?_
 unfold fi_Number.f at h
 replace h := hs_ h
 repeat' (first | split at h | (refine bnf h fun t e h => ?_; (repeat (first | refine g6_ ?_)); refine .inl ⟨_, (by first | exact fi_check_con e | exact fi_size_con e | exact gFNumber_con e), ?_⟩; refine go_ ?_) | (refine bnf h fun t e h => ?_; (repeat (first | refine g6_ ?_ | (refine .inl ⟨_, (by first | exact fi_check_con ‹_› | exact fi_size_con ‹_› | exact gFNumber_con ‹_›), ?_⟩; refine go_ ?_))); refine .inl ⟨_, (by first | exact fi_check_con e | exact fi_size_con e | exact gFNumber_con e), ?_⟩; refine go_ ?_) | fail)
 all_goals (first | (cases h <;> (repeat (first | refine g6_ ?_ | (refine .inl ⟨_, (by first | exact fi_check_con ‹_› | exact fi_size_con ‹_› | exact gFNumber_con ‹_›), ?_⟩; refine go_ ?_))) <;> (first | done | rfl | trivial | (simp; done) | (exfalso; omega))) | (exfalso; omega))
end Go.Proofs.YtillaipaanancaaGreat.Q
end

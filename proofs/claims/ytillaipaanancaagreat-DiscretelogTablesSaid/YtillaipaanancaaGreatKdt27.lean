/- Machine side and arithmetic of the law, put together by a program of the session. No conditions. -/
import Derived.Test.YtillaipaanancaaGreatKdt18
import Derived.Test.YtillaipaanancaaGreatKdt25
import Derived.Test.YtillaipaanancaaGreatKdt26
section
set_option linter.unusedVariables false
set_option maxRecDepth 100000
set_option maxHeartbeats 8000000
namespace Go.Proofs.YtillaipaanancaaGreat.Q
open Go.RowKit Go.TT Go.Proofs.YtillaipaanancaaGreatW.PrintWords
theorem r15Mul_con {k : Nat} {a0_0 : Int} {l0_1 : List Int} {l1 : List Int} {l2 : List Int} {r : List Int} (h : r15Mul.f k a0_0 l0_1 l1 l2 = some r) : Con Tryz.prog 64 [⟨.pr (.int .i64) (.pr (.sl 3 (.int .i64)) (.un)), (a0_0, (l0_1, ()))⟩, ⟨.sl 3 (.int .i64), l1⟩, ⟨.sl 3 (.int .i64), l2⟩] [(false, ⟨.sl 3 (.int .i64), r⟩)] := by
 refine con_ (ps := [0, 1, 2, 3, 6]) (res := [(6, none)]) ?_ Tryz.func64 Tryz.ntmps64
 refine go_ ?_
 unfold r15Mul.f at h
 replace h := hs_ h
 repeat' (first | split at h | (refine bnf h fun t e h => ?_; (repeat (first | refine g6_ ?_)); refine .inl ⟨_, (by first | exact r9MulMod_con e), ?_⟩; refine go_ ?_) | (refine bnf h fun t e h => ?_; (repeat (first | refine g6_ ?_ | (refine .inl ⟨_, (by first | exact r9MulMod_con ‹_›), ?_⟩; refine go_ ?_))); refine .inl ⟨_, (by first | exact r9MulMod_con e), ?_⟩; refine go_ ?_) | fail)
 all_goals (first | (cases h <;> (repeat (first | refine g6_ ?_ | (refine .inl ⟨_, (by first | exact r9MulMod_con ‹_›), ?_⟩; refine go_ ?_))) <;> (first | done | rfl | trivial | (simp; done) | (exfalso; omega))) | (exfalso; omega))
theorem r15MultiplicativeOrder_con {k : Nat} {a0_0 : Int} {l0_1 : List Int} {l1 : List Int} {r : Int} (h : r15MultiplicativeOrder.f k a0_0 l0_1 l1 = some r) : Con Tryz.prog 63 [⟨.pr (.int .i64) (.pr (.sl 3 (.int .i64)) (.un)), (a0_0, (l0_1, ()))⟩, ⟨.sl 3 (.int .i64), l1⟩] [(false, ⟨.int .i64, r⟩)] := by
 refine con_ (ps := [0, 1, 2, 4, 5, 6, 11]) (res := [(4, none)]) ?_ Tryz.func63 Tryz.ntmps63
 refine go_ ?_
 unfold r15MultiplicativeOrder.f at h
 replace h := hs_ h
 repeat' (first | split at h | (refine bnf h fun t e h => ?_; (repeat (first | refine g6_ ?_)); refine .inl ⟨_, (by first | exact r9Same_con e | exact r15Mul_con e), ?_⟩; refine go_ ?_) | (refine bnf h fun t e h => ?_; (repeat (first | refine g6_ ?_ | (refine .inl ⟨_, (by first | exact r9Same_con ‹_› | exact r15Mul_con ‹_›), ?_⟩; refine go_ ?_))); refine .inl ⟨_, (by first | exact r9Same_con e | exact r15Mul_con e), ?_⟩; refine go_ ?_) | fail)
 all_goals first
  | (cases h <;> (repeat (first | refine g6_ ?_ | (refine .inl ⟨_, (by first | exact r9Same_con ‹_› | exact r15Mul_con ‹_›), ?_⟩; refine go_ ?_))) <;> (first | done | rfl | trivial | (simp; done) | (exfalso; omega)))
  | (exfalso; omega)
  | (
    (with_reducible have h : r15MultiplicativeOrder.l0 _ _ _ _ _ _ = some r := h)
    repeat (first | refine g6_ ?_ | (refine .inl ⟨_, (by first | exact r9Same_con ‹_› | exact r15Mul_con ‹_›), ?_⟩; refine go_ ?_))
    refine lp [(1, .row 3 (.int .i64)), (5, .keep), (6, .row 3 (.int .i64)), (2, .box)] fun X0 hX0 => ?_
    refine go_ ?_
    have key : ∀ k x1 x5 x6 x102000 x102001, r15MultiplicativeOrder.l0 k x1 x5 x6 x102000 x102001 = some r → X0 ⟨lkp .bot [(2, .ptr 4 0 []), (6, .ro (.sl 3 (.int .i64)) x6), (5, .ro (.int .i64) x5), (1, .ro (.sl 3 (.int .i64)) x1)], lkp none [(4, some ⟨25, .pr (.int .i64) (.pr (.sl 3 (.int .i64)) (.un)), [(x102000, (x102001, ()))], true⟩)], 0⟩ := by
     refine sind fun k ih0 x1 x5 x6 x102000 x102001 h => hX0 _ ?_
     clear hX0
     rcases k with _ | k
     ·cases h
     unfold r15MultiplicativeOrder.l0 at h
     replace h := hs_ h
     refine go_ ?_
     repeat' (first | split at h | (refine bnf h fun t e h => ?_; (repeat (first | refine g6_ ?_)); refine .inl ⟨_, (by first | exact r9Same_con e | exact r15Mul_con e), ?_⟩; refine go_ ?_) | (refine bnf h fun t e h => ?_; (repeat (first | refine g6_ ?_ | (refine .inl ⟨_, (by first | exact r9Same_con ‹_› | exact r15Mul_con ‹_›), ?_⟩; refine go_ ?_))); refine .inl ⟨_, (by first | exact r9Same_con e | exact r15Mul_con e), ?_⟩; refine go_ ?_) | fail)
     all_goals (first | ((repeat (first | refine g6_ ?_ | (refine .inl ⟨_, (by first | exact r9Same_con ‹_› | exact r15Mul_con ‹_›), ?_⟩; refine go_ ?_))); exact ih0 _ (by omega) _ _ _ _ _ h) | (cases h <;> (repeat (first | refine g6_ ?_ | (refine .inl ⟨_, (by first | exact r9Same_con ‹_› | exact r15Mul_con ‹_›), ?_⟩; refine go_ ?_))) <;> (first | done | rfl | trivial | (simp; done) | (exfalso; omega))) | (exfalso; omega))
    exact key _ _ _ _ _ _ h)
theorem r18IsGenerator_con {k : Nat} {a0_0 : Int} {l0_1 : List Int} {l1 : List Int} {r : Bool} (h : r18IsGenerator.f k a0_0 l0_1 l1 = some r) : Con Tryz.prog 16 [⟨.pr (.int .i64) (.pr (.sl 3 (.int .i64)) (.un)), (a0_0, (l0_1, ()))⟩, ⟨.sl 3 (.int .i64), l1⟩] [(false, ⟨.bool, r⟩)] := by
 refine con_ (ps := [0, 1, 2, 4]) (res := [(4, none)]) ?_ Tryz.func16 Tryz.ntmps16
 refine go_ ?_
 unfold r18IsGenerator.f at h
 replace h := hs_ h
 repeat' (first | split at h | (refine bnf h fun t e h => ?_; (repeat (first | refine g6_ ?_)); refine .inl ⟨_, (by first | exact r15MultiplicativeOrder_con e | exact r15Size_con e), ?_⟩; refine go_ ?_) | (refine bnf h fun t e h => ?_; (repeat (first | refine g6_ ?_ | (refine .inl ⟨_, (by first | exact r15MultiplicativeOrder_con ‹_› | exact r15Size_con ‹_›), ?_⟩; refine go_ ?_))); refine .inl ⟨_, (by first | exact r15MultiplicativeOrder_con e | exact r15Size_con e), ?_⟩; refine go_ ?_) | fail)
 all_goals (first | (cases h <;> (repeat (first | refine g6_ ?_ | (refine .inl ⟨_, (by first | exact r15MultiplicativeOrder_con ‹_› | exact r15Size_con ‹_›), ?_⟩; refine go_ ?_))) <;> (first | done | rfl | trivial | (simp; done) | (exfalso; omega))) | (exfalso; omega))
theorem r15Number_con {k : Nat} {a0_0 : Int} {l0_1 : List Int} {l1 : List Int} {r : Int} (h : r15Number.f k a0_0 l0_1 l1 = some r) : Con Tryz.prog 18 [⟨.pr (.int .i64) (.pr (.sl 3 (.int .i64)) (.un)), (a0_0, (l0_1, ()))⟩, ⟨.sl 3 (.int .i64), l1⟩] [(false, ⟨.int .i64, r⟩)] := by
 refine con_ (ps := [0, 1, 2, 4, 5, 6, 11]) (res := [(4, none)]) ?_ Tryz.func18 Tryz.ntmps18
 refine go_ ?_
 unfold r15Number.f at h
 replace h := hs_ h
 repeat' (first | split at h | fail)
 all_goals first
  | (cases h <;> (repeat (first | refine g6_ ?_)) <;> (first | done | rfl | trivial | (simp; done) | (exfalso; omega)))
  | (exfalso; omega)
  | (
    (with_reducible have h : r15Number.l0 _ _ _ _ _ _ = some r := h)
    repeat (first | refine g6_ ?_)
    refine lp [(1, .row 3 (.int .i64)), (5, .keep), (6, .keep), (2, .box)] fun X0 hX0 => ?_
    refine go_ ?_
    have key : ∀ k x1 x5 x6 x102000 x102001, r15Number.l0 k x1 x5 x6 x102000 x102001 = some r → X0 ⟨lkp .bot [(2, .ptr 4 0 []), (6, .ro (.int .i64) x6), (5, .ro (.int .i64) x5), (1, .ro (.sl 3 (.int .i64)) x1)], lkp none [(4, some ⟨25, .pr (.int .i64) (.pr (.sl 3 (.int .i64)) (.un)), [(x102000, (x102001, ()))], true⟩)], 0⟩ := by
     refine sind fun k ih0 x1 x5 x6 x102000 x102001 h => hX0 _ ?_
     clear hX0
     rcases k with _ | k
     ·cases h
     unfold r15Number.l0 at h
     replace h := hs_ h
     refine go_ ?_
     repeat' (first | split at h | fail)
     all_goals (first | ((repeat (first | refine g6_ ?_)); exact ih0 _ (by omega) _ _ _ _ _ h) | (cases h <;> (repeat (first | refine g6_ ?_)) <;> (first | done | rfl | trivial | (simp; done) | (exfalso; omega))) | (exfalso; omega))
    exact key _ _ _ _ _ _ h)
theorem r18Table_con {k : Nat} {a0_0 : Int} {l0_1 : List Int} {l1 : List Int} {r : List Int} (h : r18Table.f k a0_0 l0_1 l1 = some r) : Con Tryz.prog 17 [⟨.pr (.int .i64) (.pr (.sl 3 (.int .i64)) (.un)), (a0_0, (l0_1, ()))⟩, ⟨.sl 3 (.int .i64), l1⟩] [(false, ⟨.sl 3 (.int .i64), r⟩)] := by
 refine con_ (ps := [0, 1, 2, 4, 5, 6, 7, 8, 19]) (res := [(4, none)]) ?_ Tryz.func17 Tryz.ntmps17
 refine go_ ?_
 unfold r18Table.f at h
 replace h := hs_ h
 repeat' (first | split at h | (refine bnf h fun t e h => ?_; (repeat (first | refine g6_ ?_)); refine .inl ⟨_, (by first | exact r15Size_con e | exact r15Number_con e | exact r15Mul_con e), ?_⟩; refine go_ ?_) | (refine bnf h fun t e h => ?_; (repeat (first | refine g6_ ?_ | (refine .inl ⟨_, (by first | exact r15Size_con ‹_› | exact r15Number_con ‹_› | exact r15Mul_con ‹_›), ?_⟩; refine go_ ?_))); refine .inl ⟨_, (by first | exact r15Size_con e | exact r15Number_con e | exact r15Mul_con e), ?_⟩; refine go_ ?_) | fail)
 all_goals first
  | (cases h <;> (repeat (first | refine g6_ ?_ | (refine .inl ⟨_, (by first | exact r15Size_con ‹_› | exact r15Number_con ‹_› | exact r15Mul_con ‹_›), ?_⟩; refine go_ ?_))) <;> (first | done | rfl | trivial | (simp; done) | (exfalso; omega)))
  | (exfalso; omega)
  | (
    (with_reducible have h : r18Table.l0 _ _ _ _ _ _ _ _ = some r := h)
    repeat (first | refine g6_ ?_ | (refine .inl ⟨_, (by first | exact r15Size_con ‹_› | exact r15Number_con ‹_› | exact r15Mul_con ‹_›), ?_⟩; refine go_ ?_))
    refine lp [(1, .row 3 (.int .i64)), (5, .keep), (6, .own 3 (.int .i64)), (7, .row 3 (.int .i64)), (8, .keep), (2, .box)] fun X0 hX0 => ?_
    refine go_ ?_
    have key : ∀ k x1 x5 x6 x7 x8 x102000 x102001, r18Table.l0 k x1 x5 x6 x7 x8 x102000 x102001 = some r → X0 ⟨lkp .bot [(2, .ptr 4 0 []), (8, .ro (.int .i64) x8), (7, .ro (.sl 3 (.int .i64)) x7), (6, .own 12), (5, .ro (.int .i64) x5), (1, .ro (.sl 3 (.int .i64)) x1)], lkp none [(4, some ⟨25, .pr (.int .i64) (.pr (.sl 3 (.int .i64)) (.un)), [(x102000, (x102001, ()))], true⟩), (12, some ⟨3, .int .i64, x6, true⟩)], 0⟩ := by
     refine sind fun k ih0 x1 x5 x6 x7 x8 x102000 x102001 h => hX0 _ ?_
     clear hX0
     rcases k with _ | k
     ·cases h
     unfold r18Table.l0 at h
     replace h := hs_ h
     refine go_ ?_
     repeat' (first | split at h | (refine bnf h fun t e h => ?_; (repeat (first | refine g6_ ?_)); refine .inl ⟨_, (by first | exact r15Size_con e | exact r15Number_con e | exact r15Mul_con e), ?_⟩; refine go_ ?_) | (refine bnf h fun t e h => ?_; (repeat (first | refine g6_ ?_ | (refine .inl ⟨_, (by first | exact r15Size_con ‹_› | exact r15Number_con ‹_› | exact r15Mul_con ‹_›), ?_⟩; refine go_ ?_))); refine .inl ⟨_, (by first | exact r15Size_con e | exact r15Number_con e | exact r15Mul_con e), ?_⟩; refine go_ ?_) | fail)
     all_goals (first | ((repeat (first | refine g6_ ?_ | (refine .inl ⟨_, (by first | exact r15Size_con ‹_› | exact r15Number_con ‹_› | exact r15Mul_con ‹_›), ?_⟩; refine go_ ?_))); exact ih0 _ (by omega) _ _ _ _ _ _ _ h) | (cases h <;> (repeat (first | refine g6_ ?_ | (refine .inl ⟨_, (by first | exact r15Size_con ‹_› | exact r15Number_con ‹_› | exact r15Mul_con ‹_›), ?_⟩; refine go_ ?_))) <;> (first | done | rfl | trivial | (simp; done) | (exfalso; omega))) | (exfalso; omega))
    exact key _ _ _ _ _ _ _ _ h)
theorem r15Few_con {k : Nat} {a0_0 : Int} {l0_1 : List Int} {a1 : Int} {r : Bool} (h : r15Few.f k a0_0 l0_1 a1 = some r) : Con Tryz.prog 12 [⟨.pr (.int .i64) (.pr (.sl 3 (.int .i64)) (.un)), (a0_0, (l0_1, ()))⟩, ⟨.int .i64, a1⟩] [(false, ⟨.bool, r⟩)] := by
 refine con_ (ps := [0, 1, 2, 4]) (res := [(4, none)]) ?_ Tryz.func12 Tryz.ntmps12
 refine go_ ?_
 unfold r15Few.f at h
 replace h := hs_ h
 repeat' (first | split at h | (refine bnf h fun t e h => ?_; (repeat (first | refine g6_ ?_)); refine .inl ⟨_, (by first | exact r15Check_con e | exact r15Size_con e), ?_⟩; refine go_ ?_) | (refine bnf h fun t e h => ?_; (repeat (first | refine g6_ ?_ | (refine .inl ⟨_, (by first | exact r15Check_con ‹_› | exact r15Size_con ‹_›), ?_⟩; refine go_ ?_))); refine .inl ⟨_, (by first | exact r15Check_con e | exact r15Size_con e), ?_⟩; refine go_ ?_) | fail)
 all_goals (first | (cases h <;> (repeat (first | refine g6_ ?_ | (refine .inl ⟨_, (by first | exact r15Check_con ‹_› | exact r15Size_con ‹_›), ?_⟩; refine go_ ?_))) <;> (first | done | rfl | trivial | (simp; done) | (exfalso; omega))) | (exfalso; omega))
theorem l18light_con {k : Nat} {a0_0 : Int} {l0_1 : List Int} {r : Bool} (h : l18light.f k a0_0 l0_1 = some r) : Con Tryz.prog 19 [⟨.pr (.int .i64) (.pr (.sl 3 (.int .i64)) (.un)), (a0_0, (l0_1, ()))⟩] [(false, ⟨.bool, r⟩)] := by
 refine con_ (ps := [0, 1, 2, 6]) (res := [(2, none)]) ?_ Tryz.func19 Tryz.ntmps19
 refine go_ ?_
 unfold l18light.f at h
 replace h := hs_ h
 repeat' (first | split at h | (refine bnf h fun t e h => ?_; (repeat (first | refine g6_ ?_)); refine .inl ⟨_, (by first | exact r15Check_con e | exact r15Few_con e), ?_⟩; refine go_ ?_) | (refine bnf h fun t e h => ?_; (repeat (first | refine g6_ ?_ | (refine .inl ⟨_, (by first | exact r15Check_con ‹_› | exact r15Few_con ‹_›), ?_⟩; refine go_ ?_))); refine .inl ⟨_, (by first | exact r15Check_con e | exact r15Few_con e), ?_⟩; refine go_ ?_) | fail)
 all_goals (first | (cases h <;> (repeat (first | refine g6_ ?_ | (refine .inl ⟨_, (by first | exact r15Check_con ‹_› | exact r15Few_con ‹_›), ?_⟩; refine go_ ?_))) <;> (first | done | rfl | trivial | (simp; done) | (exfalso; omega))) | (exfalso; omega))
theorem r15Add_con {k : Nat} {a0_0 : Int} {l0_1 : List Int} {l1 : List Int} {l2 : List Int} {r : List Int} (h : r15Add.f k a0_0 l0_1 l1 l2 = some r) : Con Tryz.prog 31 [⟨.pr (.int .i64) (.pr (.sl 3 (.int .i64)) (.un)), (a0_0, (l0_1, ()))⟩, ⟨.sl 3 (.int .i64), l1⟩, ⟨.sl 3 (.int .i64), l2⟩] [(false, ⟨.sl 3 (.int .i64), r⟩)] := by
 refine con_ (ps := [0, 1, 2, 3, 6]) (res := [(6, none)]) ?_ Tryz.func31 Tryz.ntmps31
 refine go_ ?_
 unfold r15Add.f at h
 replace h := hs_ h
 repeat' (first | split at h | (refine bnf h fun t e h => ?_; (repeat (first | refine g6_ ?_)); refine .inl ⟨_, (by first | exact r9Add_con e), ?_⟩; refine go_ ?_) | (refine bnf h fun t e h => ?_; (repeat (first | refine g6_ ?_ | (refine .inl ⟨_, (by first | exact r9Add_con ‹_›), ?_⟩; refine go_ ?_))); refine .inl ⟨_, (by first | exact r9Add_con e), ?_⟩; refine go_ ?_) | fail)
 all_goals (first | (cases h <;> (repeat (first | refine g6_ ?_ | (refine .inl ⟨_, (by first | exact r9Add_con ‹_›), ?_⟩; refine go_ ?_))) <;> (first | done | rfl | trivial | (simp; done) | (exfalso; omega))) | (exfalso; omega))
theorem r18Zech_con {k : Nat} {a0_0 : Int} {l0_1 : List Int} {l1 : List Int} {r : List Int} (h : r18Zech.f k a0_0 l0_1 l1 = some r) : Con Tryz.prog 30 [⟨.pr (.int .i64) (.pr (.sl 3 (.int .i64)) (.un)), (a0_0, (l0_1, ()))⟩, ⟨.sl 3 (.int .i64), l1⟩] [(false, ⟨.sl 3 (.int .i64), r⟩)] := by
 refine con_ (ps := [0, 1, 2, 4, 5, 6, 7, 8, 17]) (res := [(4, none)]) ?_ Tryz.func30 Tryz.ntmps30
 refine go_ ?_
 unfold r18Zech.f at h
 replace h := hs_ h
 repeat' (first | split at h | (refine bnf h fun t e h => ?_; (repeat (first | refine g6_ ?_)); refine .inl ⟨_, (by first | exact r18Table_con e | exact r15Size_con e | exact r15Add_con e | exact r15Number_con e | exact r15Mul_con e), ?_⟩; refine go_ ?_) | (refine bnf h fun t e h => ?_; (repeat (first | refine g6_ ?_ | (refine .inl ⟨_, (by first | exact r18Table_con ‹_› | exact r15Size_con ‹_› | exact r15Add_con ‹_› | exact r15Number_con ‹_› | exact r15Mul_con ‹_›), ?_⟩; refine go_ ?_))); refine .inl ⟨_, (by first | exact r18Table_con e | exact r15Size_con e | exact r15Add_con e | exact r15Number_con e | exact r15Mul_con e), ?_⟩; refine go_ ?_) | fail)
 all_goals first
  | (cases h <;> (repeat (first | refine g6_ ?_ | (refine .inl ⟨_, (by first | exact r18Table_con ‹_› | exact r15Size_con ‹_› | exact r15Add_con ‹_› | exact r15Number_con ‹_› | exact r15Mul_con ‹_›), ?_⟩; refine go_ ?_))) <;> (first | done | rfl | trivial | (simp; done) | (exfalso; omega)))
  | (exfalso; omega)
  | (
    (with_reducible have h : r18Zech.l0 _ _ _ _ _ _ _ _ = some r := h)
    repeat (first | refine g6_ ?_ | (refine .inl ⟨_, (by first | exact r18Table_con ‹_› | exact r15Size_con ‹_› | exact r15Add_con ‹_› | exact r15Number_con ‹_› | exact r15Mul_con ‹_›), ?_⟩; refine go_ ?_))
    refine lp [(1, .row 3 (.int .i64)), (5, .own 3 (.int .i64)), (6, .row 3 (.int .i64)), (7, .row 3 (.int .i64)), (8, .keep), (2, .box)] fun X0 hX0 => ?_
    refine go_ ?_
    have key : ∀ k x1 x5 x6 x7 x8 x102000 x102001, r18Zech.l0 k x1 x5 x6 x7 x8 x102000 x102001 = some r → X0 ⟨lkp .bot [(2, .ptr 4 0 []), (8, .ro (.int .i64) x8), (7, .ro (.sl 3 (.int .i64)) x7), (6, .ro (.sl 3 (.int .i64)) x6), (5, .own 10), (1, .ro (.sl 3 (.int .i64)) x1)], lkp none [(4, some ⟨25, .pr (.int .i64) (.pr (.sl 3 (.int .i64)) (.un)), [(x102000, (x102001, ()))], true⟩), (10, some ⟨3, .int .i64, x5, true⟩)], 0⟩ := by
     refine sind fun k ih0 x1 x5 x6 x7 x8 x102000 x102001 h => hX0 _ ?_
     clear hX0
     rcases k with _ | k
     ·cases h
     unfold r18Zech.l0 at h
     replace h := hs_ h
     refine go_ ?_
     repeat' (first | split at h | (refine bnf h fun t e h => ?_; (repeat (first | refine g6_ ?_)); refine .inl ⟨_, (by first | exact r18Table_con e | exact r15Size_con e | exact r15Add_con e | exact r15Number_con e | exact r15Mul_con e), ?_⟩; refine go_ ?_) | (refine bnf h fun t e h => ?_; (repeat (first | refine g6_ ?_ | (refine .inl ⟨_, (by first | exact r18Table_con ‹_› | exact r15Size_con ‹_› | exact r15Add_con ‹_› | exact r15Number_con ‹_› | exact r15Mul_con ‹_›), ?_⟩; refine go_ ?_))); refine .inl ⟨_, (by first | exact r18Table_con e | exact r15Size_con e | exact r15Add_con e | exact r15Number_con e | exact r15Mul_con e), ?_⟩; refine go_ ?_) | fail)
     all_goals (first | ((repeat (first | refine g6_ ?_ | (refine .inl ⟨_, (by first | exact r18Table_con ‹_› | exact r15Size_con ‹_› | exact r15Add_con ‹_› | exact r15Number_con ‹_› | exact r15Mul_con ‹_›), ?_⟩; refine go_ ?_))); exact ih0 _ (by omega) _ _ _ _ _ _ _ h) | (cases h <;> (repeat (first | refine g6_ ?_ | (refine .inl ⟨_, (by first | exact r18Table_con ‹_› | exact r15Size_con ‹_› | exact r15Add_con ‹_› | exact r15Number_con ‹_› | exact r15Mul_con ‹_›), ?_⟩; refine go_ ?_))) <;> (first | done | rfl | trivial | (simp; done) | (exfalso; omega))) | (exfalso; omega))
    exact key _ _ _ _ _ _ _ _ h)
theorem r15Pow_con {k : Nat} {a0_0 : Int} {l0_1 : List Int} {l1 : List Int} {a2 : ByteArray} {r : List Int} (h : r15Pow.f k a0_0 l0_1 l1 a2 = some r) : Con Tryz.prog 70 [⟨.pr (.int .i64) (.pr (.sl 3 (.int .i64)) (.un)), (a0_0, (l0_1, ()))⟩, ⟨.sl 3 (.int .i64), l1⟩, ⟨.str, a2⟩] [(false, ⟨.sl 3 (.int .i64), r⟩)] := by
 refine con_ (ps := [0, 1, 2, 3, 6]) (res := [(6, none)]) ?_ Tryz.func70 Tryz.ntmps70
 refine go_ ?_
 unfold r15Pow.f at h
 replace h := hs_ h
 repeat' (first | split at h | (refine bnf h fun t e h => ?_; (repeat (first | refine g6_ ?_)); refine .inl ⟨_, (by first | exact r9PowMod_con e), ?_⟩; refine go_ ?_) | (refine bnf h fun t e h => ?_; (repeat (first | refine g6_ ?_ | (refine .inl ⟨_, (by first | exact r9PowMod_con ‹_›), ?_⟩; refine go_ ?_))); refine .inl ⟨_, (by first | exact r9PowMod_con e), ?_⟩; refine go_ ?_) | fail)
 all_goals (first | (cases h <;> (repeat (first | refine g6_ ?_ | (refine .inl ⟨_, (by first | exact r9PowMod_con ‹_›), ?_⟩; refine go_ ?_))) <;> (first | done | rfl | trivial | (simp; done) | (exfalso; omega))) | (exfalso; omega))
theorem r18Power_con {k : Nat} {a0_0 : Int} {l0_1 : List Int} {l1 : List Int} {a2 : Int} {r : List Int} (h : r18Power.f k a0_0 l0_1 l1 a2 = some r) : Con Tryz.prog 32 [⟨.pr (.int .i64) (.pr (.sl 3 (.int .i64)) (.un)), (a0_0, (l0_1, ()))⟩, ⟨.sl 3 (.int .i64), l1⟩, ⟨.int .i64, a2⟩] [(false, ⟨.sl 3 (.int .i64), r⟩)] := by
 refine con_ (ps := [0, 1, 2, 3, 6, 7]) (res := [(6, none)]) ?_ Tryz.func32 Tryz.ntmps32
 refine go_ ?_
 unfold r18Power.f at h
 replace h := hs_ h
 repeat' (first | split at h | (refine bnf h fun t e h => ?_; (repeat (first | refine g6_ ?_)); refine .inl ⟨_, (by first | exact r15Size_con e | exact r1FromInt_con e | exact r15Pow_con e), ?_⟩; refine go_ ?_) | (refine bnf h fun t e h => ?_; (repeat (first | refine g6_ ?_ | (refine .inl ⟨_, (by first | exact r15Size_con ‹_› | exact r1FromInt_con ‹_› | exact r15Pow_con ‹_›), ?_⟩; refine go_ ?_))); refine .inl ⟨_, (by first | exact r15Size_con e | exact r1FromInt_con e | exact r15Pow_con e), ?_⟩; refine go_ ?_) | fail)
 all_goals (first | (cases h <;> (repeat (first | refine g6_ ?_ | (refine .inl ⟨_, (by first | exact r15Size_con ‹_› | exact r1FromInt_con ‹_› | exact r15Pow_con ‹_›), ?_⟩; refine go_ ?_))) <;> (first | done | rfl | trivial | (simp; done) | (exfalso; omega))) | (exfalso; omega))
end Go.Proofs.YtillaipaanancaaGreat.Q
end

/- Machine side and arithmetic of the law, put together by a program of the session. No conditions. -/
import Derived.Test.YtillaipaanancaaGreatKdr17
import Derived.Test.YtillaipaanancaaGreatKdr18
import Derived.Test.YtillaipaanancaaGreatKdr24
section
set_option linter.unusedVariables false
set_option maxRecDepth 100000
set_option maxHeartbeats 8000000
namespace Go.Proofs.YtillaipaanancaaGreat.Q
open Go.RowKit Go.TT Go.Proofs.YtillaipaanancaaGreatW.PrintWords
theorem gFGenerates_con {k : Nat} {a0_0 : Int} {l0_1 : List Int} {l1 : List Int} {a2 : Int} {r : Bool} (h : gFGenerates.f k a0_0 l0_1 l1 a2 = some r) : Con Tryz.prog 56 [⟨.pr (.pr (.int .i64) (.pr (.sl 3 (.int .i64)) (.un))) (.un), ((a0_0, (l0_1, ())), ())⟩, ⟨.sl 3 (.int .i64), l1⟩, ⟨.int .i64, a2⟩] [(false, ⟨.bool, r⟩)] := by
 refine con_ (ps := [0, 1, 2, 3, 6, 7, 10, 17, 18, 19, 20, 31]) (res := [(6, none)]) ?_ Tryz.func56 Tryz.ntmps56
 refine go_ ?_
 unfold gFGenerates.f at h
 replace h := hs_ h
 repeat' (first | split at h | (refine bnf h fun t e h => ?_; (repeat (first | refine g6_ ?_)); refine .inl ⟨_, (by first | exact rs_Factor_con e | exact gFPow_con e | exact gf_IsOne_con e), ?_⟩; refine go_ ?_) | (refine bnf h fun t e h => ?_; (repeat (first | refine g6_ ?_ | (refine .inl ⟨_, (by first | exact rs_Factor_con ‹_› | exact gFPow_con ‹_› | exact gf_IsOne_con ‹_›), ?_⟩; refine go_ ?_))); refine .inl ⟨_, (by first | exact rs_Factor_con e | exact gFPow_con e | exact gf_IsOne_con e), ?_⟩; refine go_ ?_) | fail)
 all_goals first
  | (cases h <;> (repeat (first | refine g6_ ?_ | (refine .inl ⟨_, (by first | exact rs_Factor_con ‹_› | exact gFPow_con ‹_› | exact gf_IsOne_con ‹_›), ?_⟩; refine go_ ?_))) <;> (first | done | rfl | trivial | (simp; done) | (exfalso; omega)))
  | (exfalso; omega)
  | (
    (with_reducible have h : gFGenerates.l0 _ _ _ _ _ _ _ _ = some r := h)
    repeat (first | refine g6_ ?_ | (refine .inl ⟨_, (by first | exact rs_Factor_con ‹_› | exact gFPow_con ‹_› | exact gf_IsOne_con ‹_›), ?_⟩; refine go_ ?_))
    refine lp [(1, .row 3 (.int .i64)), (2, .keep), (17, .row 134 (.pr (.int .i64) (.pr (.int .i64) (.un)))), (18, .keep), (19, .keep), (3, .box)] fun X0 hX0 => ?_
    refine go_ ?_
    have key : ∀ k x1 x2 x17 x18 x19 x102000 x102001, gFGenerates.l0 k x1 x2 x17 x18 x19 x102000 x102001 = some r → X0 ⟨lkp .bot [(3, .ptr 6 0 []), (19, .ro (.int .i64) x19), (18, .ro (.int .i64) x18), (17, .ro (.sl 134 (.pr (.int .i64) (.pr (.int .i64) (.un)))) (List.map (fun s : S134 => (s.f0, (s.f1, ()))) x17)), (2, .ro (.int .i64) x2), (1, .ro (.sl 3 (.int .i64)) x1)], lkp none [(6, some ⟨87, .pr (.pr (.int .i64) (.pr (.sl 3 (.int .i64)) (.un))) (.un), [((x102000, (x102001, ())), ())], true⟩)], 0⟩ := by
     refine sind fun k ih0 x1 x2 x17 x18 x19 x102000 x102001 h => hX0 _ ?_
     clear hX0
     rcases k with _ | k
     ·cases h
     unfold gFGenerates.l0 at h
     replace h := hs_ h
     refine go_ ?_
     repeat' (first | split at h | (refine bnf h fun t e h => ?_; (repeat (first | refine g6_ ?_)); refine .inl ⟨_, (by first | exact rs_Factor_con e | exact gFPow_con e | exact gf_IsOne_con e), ?_⟩; refine go_ ?_) | (refine bnf h fun t e h => ?_; (repeat (first | refine g6_ ?_ | (refine .inl ⟨_, (by first | exact rs_Factor_con ‹_› | exact gFPow_con ‹_› | exact gf_IsOne_con ‹_›), ?_⟩; refine go_ ?_))); refine .inl ⟨_, (by first | exact rs_Factor_con e | exact gFPow_con e | exact gf_IsOne_con e), ?_⟩; refine go_ ?_) | fail)
     all_goals (first | ((repeat (first | refine g6_ ?_ | (refine .inl ⟨_, (by first | exact rs_Factor_con ‹_› | exact gFPow_con ‹_› | exact gf_IsOne_con ‹_›), ?_⟩; refine go_ ?_))); exact ih0 _ (by omega) _ _ _ _ _ _ _ h) | (cases h <;> (repeat (first | refine g6_ ?_ | (refine .inl ⟨_, (by first | exact rs_Factor_con ‹_› | exact gFPow_con ‹_› | exact gf_IsOne_con ‹_›), ?_⟩; refine go_ ?_))) <;> (first | done | rfl | trivial | (simp; done) | (exfalso; omega))) | (exfalso; omega))
    exact key _ _ _ _ _ _ _ _ h)
theorem gFNumber_con {k : Nat} {a0_0 : Int} {l0_1 : List Int} {l1 : List Int} {r : Int} (h : gFNumber.f k a0_0 l0_1 l1 = some r) : Con Tryz.prog 58 [⟨.pr (.pr (.int .i64) (.pr (.sl 3 (.int .i64)) (.un))) (.un), ((a0_0, (l0_1, ())), ())⟩, ⟨.sl 3 (.int .i64), l1⟩] [(false, ⟨.int .i64, r⟩)] := by
 refine con_ (ps := [0, 1, 2, 4, 5, 6, 11]) (res := [(4, none)]) ?_ Tryz.func58 Tryz.ntmps58
 refine go_ ?_
 unfold gFNumber.f at h
 replace h := hs_ h
 repeat' (first | split at h | fail)
 all_goals first
  | (cases h <;> (repeat (first | refine g6_ ?_)) <;> (first | done | rfl | trivial | (simp; done) | (exfalso; omega)))
  | (exfalso; omega)
  | (
    (with_reducible have h : gFNumber.l0 _ _ _ _ _ _ = some r := h)
    repeat (first | refine g6_ ?_)
    refine lp [(1, .row 3 (.int .i64)), (5, .keep), (6, .keep), (2, .box)] fun X0 hX0 => ?_
    refine go_ ?_
    have key : ∀ k x1 x5 x6 x102000 x102001, gFNumber.l0 k x1 x5 x6 x102000 x102001 = some r → X0 ⟨lkp .bot [(2, .ptr 4 0 []), (6, .ro (.int .i64) x6), (5, .ro (.int .i64) x5), (1, .ro (.sl 3 (.int .i64)) x1)], lkp none [(4, some ⟨87, .pr (.pr (.int .i64) (.pr (.sl 3 (.int .i64)) (.un))) (.un), [((x102000, (x102001, ())), ())], true⟩)], 0⟩ := by
     refine sind fun k ih0 x1 x5 x6 x102000 x102001 h => hX0 _ ?_
     clear hX0
     rcases k with _ | k
     ·cases h
     unfold gFNumber.l0 at h
     replace h := hs_ h
     refine go_ ?_
     repeat' (first | split at h | fail)
     all_goals (first | ((repeat (first | refine g6_ ?_)); exact ih0 _ (by omega) _ _ _ _ _ h) | (cases h <;> (repeat (first | refine g6_ ?_)) <;> (first | done | rfl | trivial | (simp; done) | (exfalso; omega))) | (exfalso; omega))
    exact key _ _ _ _ _ _ h)
theorem fp_Xgcd_con {k : Nat} {a0 : Int} {l1 : List Int} {l2 : List Int} {r1 : List Int} {r2 : List Int} {r3 : List Int} (h : fp_Xgcd.f k a0 l1 l2 = some (r1, r2, r3)) : Con Tryz.prog 108 [⟨.int .i64, a0⟩, ⟨.sl 3 (.int .i64), l1⟩, ⟨.sl 3 (.int .i64), l2⟩] [(false, ⟨.sl 3 (.int .i64), r1⟩), (false, ⟨.sl 3 (.int .i64), r2⟩), (false, ⟨.sl 3 (.int .i64), r3⟩)] := by
 refine con_ (ps := [0, 1, 2, 6, 7, 8, 9, 10, 11, 12, 13, 14, 15, 16, 17, 19, 23, 26, 44]) (res := [(6, none), (7, none), (8, none)]) ?_ Tryz.func108 Tryz.ntmps108
 refine go_ ?_
 unfold fp_Xgcd.f at h
 replace h := hs_ h
 repeat' (first | split at h | (refine bnf h fun t e h => ?_; (repeat (first | refine g6_ ?_)); refine .inl ⟨_, (by first | exact fp_Monic_con e | exact fp_Inv_con e | exact fp_DivMod_con e | exact fp_Mul_con e | exact fp_Sub_con e | exact fp_Scale_con e | exact fp_Rem_con e), ?_⟩; refine go_ ?_) | (refine bnf h fun t e h => ?_; (repeat (first | refine g6_ ?_ | (refine .inl ⟨_, (by first | exact fp_Monic_con ‹_› | exact fp_Inv_con ‹_› | exact fp_DivMod_con ‹_› | exact fp_Mul_con ‹_› | exact fp_Sub_con ‹_› | exact fp_Scale_con ‹_› | exact fp_Rem_con ‹_›), ?_⟩; refine go_ ?_))); refine .inl ⟨_, (by first | exact fp_Monic_con e | exact fp_Inv_con e | exact fp_DivMod_con e | exact fp_Mul_con e | exact fp_Sub_con e | exact fp_Scale_con e | exact fp_Rem_con e), ?_⟩; refine go_ ?_) | fail)
 all_goals first
  | (cases h <;> (repeat (first | refine g6_ ?_ | (refine .inl ⟨_, (by first | exact fp_Monic_con ‹_› | exact fp_Inv_con ‹_› | exact fp_DivMod_con ‹_› | exact fp_Mul_con ‹_› | exact fp_Sub_con ‹_› | exact fp_Scale_con ‹_› | exact fp_Rem_con ‹_›), ?_⟩; refine go_ ?_))) <;> (first | done | rfl | trivial | (simp; done) | (exfalso; omega)))
  | (exfalso; omega)
  | (
    (with_reducible have h : fp_Xgcd.l0 _ _ _ _ _ _ _ _ = some (r1, r2, r3) := h)
    repeat (first | refine g6_ ?_ | (refine .inl ⟨_, (by first | exact fp_Monic_con ‹_› | exact fp_Inv_con ‹_› | exact fp_DivMod_con ‹_› | exact fp_Mul_con ‹_› | exact fp_Sub_con ‹_› | exact fp_Scale_con ‹_› | exact fp_Rem_con ‹_›), ?_⟩; refine go_ ?_))
    refine lp [(0, .keep), (1, .row 3 (.int .i64)), (2, .row 3 (.int .i64)), (9, .row 3 (.int .i64)), (10, .row 3 (.int .i64)), (11, .row 3 (.int .i64)), (12, .row 3 (.int .i64))] fun X0 hX0 => ?_
    refine go_ ?_
    have key : ∀ k x0 x1 x2 x9 x10 x11 x12, fp_Xgcd.l0 k x0 x1 x2 x9 x10 x11 x12 = some (r1, r2, r3) → X0 ⟨lkp .bot [(12, .ro (.sl 3 (.int .i64)) x12), (11, .ro (.sl 3 (.int .i64)) x11), (10, .ro (.sl 3 (.int .i64)) x10), (9, .ro (.sl 3 (.int .i64)) x9), (2, .ro (.sl 3 (.int .i64)) x2), (1, .ro (.sl 3 (.int .i64)) x1), (0, .ro (.int .i64) x0)], lkp none [], 0⟩ := by
     refine sind fun k ih0 x0 x1 x2 x9 x10 x11 x12 h => hX0 _ ?_
     clear hX0
     rcases k with _ | k
     ·cases h
     unfold fp_Xgcd.l0 at h
     replace h := hs_ h
     refine go_ ?_
     repeat' (first | split at h | (refine bnf h fun t e h => ?_; (repeat (first | refine g6_ ?_)); refine .inl ⟨_, (by first | exact fp_Monic_con e | exact fp_Inv_con e | exact fp_DivMod_con e | exact fp_Mul_con e | exact fp_Sub_con e | exact fp_Scale_con e | exact fp_Rem_con e), ?_⟩; refine go_ ?_) | (refine bnf h fun t e h => ?_; (repeat (first | refine g6_ ?_ | (refine .inl ⟨_, (by first | exact fp_Monic_con ‹_› | exact fp_Inv_con ‹_› | exact fp_DivMod_con ‹_› | exact fp_Mul_con ‹_› | exact fp_Sub_con ‹_› | exact fp_Scale_con ‹_› | exact fp_Rem_con ‹_›), ?_⟩; refine go_ ?_))); refine .inl ⟨_, (by first | exact fp_Monic_con e | exact fp_Inv_con e | exact fp_DivMod_con e | exact fp_Mul_con e | exact fp_Sub_con e | exact fp_Scale_con e | exact fp_Rem_con e), ?_⟩; refine go_ ?_) | fail)
     all_goals (first | ((repeat (first | refine g6_ ?_ | (refine .inl ⟨_, (by first | exact fp_Monic_con ‹_› | exact fp_Inv_con ‹_› | exact fp_DivMod_con ‹_› | exact fp_Mul_con ‹_› | exact fp_Sub_con ‹_› | exact fp_Scale_con ‹_› | exact fp_Rem_con ‹_›), ?_⟩; refine go_ ?_))); exact ih0 _ (by omega) _ _ _ _ _ _ _ h) | (cases h <;> (repeat (first | refine g6_ ?_ | (refine .inl ⟨_, (by first | exact fp_Monic_con ‹_› | exact fp_Inv_con ‹_› | exact fp_DivMod_con ‹_› | exact fp_Mul_con ‹_› | exact fp_Sub_con ‹_› | exact fp_Scale_con ‹_› | exact fp_Rem_con ‹_›), ?_⟩; refine go_ ?_))) <;> (first | done | rfl | trivial | (simp; done) | (exfalso; omega))) | (exfalso; omega))
    exact key _ _ _ _ _ _ _ _ h)
theorem gFInverse_con {k : Nat} {a0_0 : Int} {l0_1 : List Int} {l1 : List Int} {r : List Int} (h : gFInverse.f k a0_0 l0_1 l1 = some r) : Con Tryz.prog 59 [⟨.pr (.pr (.int .i64) (.pr (.sl 3 (.int .i64)) (.un))) (.un), ((a0_0, (l0_1, ())), ())⟩, ⟨.sl 3 (.int .i64), l1⟩] [(false, ⟨.sl 3 (.int .i64), r⟩)] := by
 refine con_ (ps := [0, 1, 2, 4, 6]) (res := [(4, none)]) ?_ Tryz.func59 Tryz.ntmps59
 refine go_ ?_
 unfold gFInverse.f at h
 replace h := hs_ h
 repeat' (first | split at h | (refine bnf h fun t e h => ?_; (repeat (first | refine g6_ ?_)); refine .inl ⟨_, (by first | exact fp_Xgcd_con e | exact fp_Rem_con e), ?_⟩; refine go_ ?_) | (refine bnf h fun t e h => ?_; (repeat (first | refine g6_ ?_ | (refine .inl ⟨_, (by first | exact fp_Xgcd_con ‹_› | exact fp_Rem_con ‹_›), ?_⟩; refine go_ ?_))); refine .inl ⟨_, (by first | exact fp_Xgcd_con e | exact fp_Rem_con e), ?_⟩; refine go_ ?_) | fail)
 all_goals (first | (cases h <;> (repeat (first | refine g6_ ?_ | (refine .inl ⟨_, (by first | exact fp_Xgcd_con ‹_› | exact fp_Rem_con ‹_›), ?_⟩; refine go_ ?_))) <;> (first | done | rfl | trivial | (simp; done) | (exfalso; omega))) | (exfalso; omega))
theorem fp_Add_con {k : Nat} {a0 : Int} {l1 : List Int} {l2 : List Int} {r : List Int} (h : fp_Add.f k a0 l1 l2 = some r) : Con Tryz.prog 82 [⟨.int .i64, a0⟩, ⟨.sl 3 (.int .i64), l1⟩, ⟨.sl 3 (.int .i64), l2⟩] [(false, ⟨.sl 3 (.int .i64), r⟩)] := by
 refine con_ (ps := [0, 1, 2, 6, 7, 8, 16, 17, 18]) (res := [(6, none)]) ?_ Tryz.func82 Tryz.ntmps82
 refine go_ ?_
 unfold fp_Add.f at h
 replace h := hs_ h
 repeat' (first | split at h | (refine bnf h fun t e h => ?_; (repeat (first | refine g6_ ?_)); refine .inl ⟨_, (by first | exact fp_at_con e | exact fp_Trim_con e), ?_⟩; refine go_ ?_) | (refine bnf h fun t e h => ?_; (repeat (first | refine g6_ ?_ | (refine .inl ⟨_, (by first | exact fp_at_con ‹_› | exact fp_Trim_con ‹_›), ?_⟩; refine go_ ?_))); refine .inl ⟨_, (by first | exact fp_at_con e | exact fp_Trim_con e), ?_⟩; refine go_ ?_) | fail)
 all_goals first
  | (cases h <;> (repeat (first | refine g6_ ?_ | (refine .inl ⟨_, (by first | exact fp_at_con ‹_› | exact fp_Trim_con ‹_›), ?_⟩; refine go_ ?_))) <;> (first | done | rfl | trivial | (simp; done) | (exfalso; omega)))
  | (exfalso; omega)
  | (
    (with_reducible have h : fp_Add.l0 _ _ _ _ _ _ _ = some r := h)
    repeat (first | refine g6_ ?_ | (refine .inl ⟨_, (by first | exact fp_at_con ‹_› | exact fp_Trim_con ‹_›), ?_⟩; refine go_ ?_))
    refine lp [(0, .keep), (1, .row 3 (.int .i64)), (2, .row 3 (.int .i64)), (7, .own 3 (.int .i64)), (16, .keep), (17, .keep)] fun X0 hX0 => ?_
    refine go_ ?_
    have key : ∀ k x0 x1 x2 x7 x16 x17, fp_Add.l0 k x0 x1 x2 x7 x16 x17 = some r → X0 ⟨lkp .bot [(17, .ro (.int .i64) x17), (16, .ro (.int .i64) x16), (7, .own 14), (2, .ro (.sl 3 (.int .i64)) x2), (1, .ro (.sl 3 (.int .i64)) x1), (0, .ro (.int .i64) x0)], lkp none [(14, some ⟨3, .int .i64, x7, true⟩)], 0⟩ := by
     refine sind fun k ih0 x0 x1 x2 x7 x16 x17 h => hX0 _ ?_
     clear hX0
     rcases k with _ | k
     ·cases h
     unfold fp_Add.l0 at h
     replace h := hs_ h
     refine go_ ?_
     repeat' (first | split at h | (refine bnf h fun t e h => ?_; (repeat (first | refine g6_ ?_)); refine .inl ⟨_, (by first | exact fp_at_con e | exact fp_Trim_con e), ?_⟩; refine go_ ?_) | (refine bnf h fun t e h => ?_; (repeat (first | refine g6_ ?_ | (refine .inl ⟨_, (by first | exact fp_at_con ‹_› | exact fp_Trim_con ‹_›), ?_⟩; refine go_ ?_))); refine .inl ⟨_, (by first | exact fp_at_con e | exact fp_Trim_con e), ?_⟩; refine go_ ?_) | fail)
     all_goals (first | ((repeat (first | refine g6_ ?_ | (refine .inl ⟨_, (by first | exact fp_at_con ‹_› | exact fp_Trim_con ‹_›), ?_⟩; refine go_ ?_))); exact ih0 _ (by omega) _ _ _ _ _ _ h) | (cases h <;> (repeat (first | refine g6_ ?_ | (refine .inl ⟨_, (by first | exact fp_at_con ‹_› | exact fp_Trim_con ‹_›), ?_⟩; refine go_ ?_))) <;> (first | done | rfl | trivial | (simp; done) | (exfalso; omega))) | (exfalso; omega))
    exact key _ _ _ _ _ _ _ h)
theorem gFAdd_con {k : Nat} {a0_0 : Int} {l0_1 : List Int} {l1 : List Int} {l2 : List Int} {r : List Int} (h : gFAdd.f k a0_0 l0_1 l1 l2 = some r) : Con Tryz.prog 72 [⟨.pr (.pr (.int .i64) (.pr (.sl 3 (.int .i64)) (.un))) (.un), ((a0_0, (l0_1, ())), ())⟩, ⟨.sl 3 (.int .i64), l1⟩, ⟨.sl 3 (.int .i64), l2⟩] [(false, ⟨.sl 3 (.int .i64), r⟩)] := by
 refine con_ (ps := [0, 1, 2, 3, 6]) (res := [(6, none)]) ?_ Tryz.func72 Tryz.ntmps72
 refine go_ ?_
 unfold gFAdd.f at h
 replace h := hs_ h
 repeat' (first | split at h | (refine bnf h fun t e h => ?_; (repeat (first | refine g6_ ?_)); refine .inl ⟨_, (by first | exact fp_Add_con e), ?_⟩; refine go_ ?_) | (refine bnf h fun t e h => ?_; (repeat (first | refine g6_ ?_ | (refine .inl ⟨_, (by first | exact fp_Add_con ‹_›), ?_⟩; refine go_ ?_))); refine .inl ⟨_, (by first | exact fp_Add_con e), ?_⟩; refine go_ ?_) | fail)
 all_goals (first | (cases h <;> (repeat (first | refine g6_ ?_ | (refine .inl ⟨_, (by first | exact fp_Add_con ‹_›), ?_⟩; refine go_ ?_))) <;> (first | done | rfl | trivial | (simp; done) | (exfalso; omega))) | (exfalso; omega))
theorem dl_Cosets_con {k : Nat} {a0_0 : Int} {l0_1 : List Int} {r1 : List (List Int)} {r2 : Int} (h : dl_Cosets.f k a0_0 l0_1 = some (r1, r2)) : Con Tryz.prog 21 [⟨.pr (.int .i64) (.pr (.sl 3 (.int .i64)) (.un)), (a0_0, (l0_1, ()))⟩] [(false, ⟨.sl 22 (.sl 3 (.int .i64)), r1⟩), (false, ⟨.int .i64, r2⟩)] := by
 refine con_ (ps := [0, 1, 2, 3, 5, 6, 7, 8, 9, 10, 11, 19, 25, 26, 27, 34, 51]) (res := [(2, none), (3, none)]) ?_ Tryz.func21 Tryz.ntmps21
 refine go_ ?_
 unfold dl_Cosets.f at h
 replace h := hs_ h
 repeat' (first | split at h | (refine bnf h fun t e h => ?_; (repeat (first | refine g6_ ?_)); refine .inl ⟨_, (by first | exact dl_open_con e), ?_⟩; refine go_ ?_) | (refine bnf h fun t e h => ?_; (repeat (first | refine g6_ ?_ | (refine .inl ⟨_, (by first | exact dl_open_con ‹_›), ?_⟩; refine go_ ?_))); refine .inl ⟨_, (by first | exact dl_open_con e), ?_⟩; refine go_ ?_) | fail)
 all_goals first
  | (cases h <;> (repeat (first | refine g6_ ?_ | (refine .inl ⟨_, (by first | exact dl_open_con ‹_›), ?_⟩; refine go_ ?_))) <;> (first | done | rfl | trivial | (simp; done) | (exfalso; omega)))
  | (exfalso; omega)
  | (
    (with_reducible have h : dl_Cosets.l0 _ _ _ _ _ _ _ _ = some (r1, r2) := h)
    repeat (first | refine g6_ ?_ | (refine .inl ⟨_, (by first | exact dl_open_con ‹_›), ?_⟩; refine go_ ?_))
    refine lp [(5, .keep), (7, .own 4 (.bool)), (8, .own 22 (.sl 3 (.int .i64))), (25, .keep), (26, .keep), (1, .box)] fun X0 hX0 => ?_
    refine go_ ?_
    have key : ∀ k x5 x7 x8 x25 x26 x102000 x102001, dl_Cosets.l0 k x5 x7 x8 x25 x26 x102000 x102001 = some (r1, r2) → X0 ⟨lkp .bot [(1, .ptr 2 0 []), (26, .ro (.int .i64) x26), (25, .ro (.int .i64) x25), (8, .own 16), (7, .own 14), (5, .ro (.int .i64) x5)], lkp none [(2, some ⟨25, .pr (.int .i64) (.pr (.sl 3 (.int .i64)) (.un)), [(x102000, (x102001, ()))], true⟩), (16, some ⟨22, .sl 3 (.int .i64), x8, true⟩), (14, some ⟨4, .bool, x7, true⟩)], 0⟩ := by
     refine sind fun k ih0 x5 x7 x8 x25 x26 x102000 x102001 h => hX0 _ ?_
     clear hX0
     rcases k with _ | k
     ·cases h
     unfold dl_Cosets.l0 at h
     replace h := hs_ h
     refine go_ ?_
     repeat' (first | split at h | (refine bnf h fun t e h => ?_; (repeat (first | refine g6_ ?_)); refine .inl ⟨_, (by first | exact dl_open_con e), ?_⟩; refine go_ ?_) | (refine bnf h fun t e h => ?_; (repeat (first | refine g6_ ?_ | (refine .inl ⟨_, (by first | exact dl_open_con ‹_›), ?_⟩; refine go_ ?_))); refine .inl ⟨_, (by first | exact dl_open_con e), ?_⟩; refine go_ ?_) | fail)
     all_goals first
      | ((repeat (first | refine g6_ ?_ | (refine .inl ⟨_, (by first | exact dl_open_con ‹_›), ?_⟩; refine go_ ?_))); exact ih0 _ (by omega) _ _ _ _ _ _ _ h)
      | (cases h <;> (repeat (first | refine g6_ ?_ | (refine .inl ⟨_, (by first | exact dl_open_con ‹_›), ?_⟩; refine go_ ?_))) <;> (first | done | rfl | trivial | (simp; done) | (exfalso; omega)))
      | (exfalso; omega)
      | (
       (with_reducible have h : dl_Cosets.l1 _ _ _ _ _ _ _ _ _ _ = some (r1, r2) := h)
       repeat (first | refine g6_ ?_ | (refine .inl ⟨_, (by first | exact dl_open_con ‹_›), ?_⟩; refine go_ ?_))
       refine lp [(5, .keep), (7, .own 4 (.bool)), (8, .own 22 (.sl 3 (.int .i64))), (10, .own 3 (.int .i64)), (11, .keep), (25, .keep), (26, .keep), (1, .box)] fun X1 hX1 => ?_
       refine go_ ?_
       have key : ∀ j, j ≤ k → ∀ x5 x7 x8 x10 x11 x25 x26 x102000 x102001, dl_Cosets.l1 j x5 x7 x8 x10 x11 x25 x26 x102000 x102001 = some (r1, r2) → X1 ⟨lkp .bot [(1, .ptr 2 0 []), (26, .ro (.int .i64) x26), (25, .ro (.int .i64) x25), (11, .ro (.int .i64) x11), (10, .own 20), (8, .own 16), (7, .own 14), (5, .ro (.int .i64) x5)], lkp none [(2, some ⟨25, .pr (.int .i64) (.pr (.sl 3 (.int .i64)) (.un)), [(x102000, (x102001, ()))], true⟩), (20, some ⟨3, .int .i64, x10, true⟩), (16, some ⟨22, .sl 3 (.int .i64), x8, true⟩), (14, some ⟨4, .bool, x7, true⟩)], 0⟩ := by
        refine sinb fun k hk1 ih1 x5 x7 x8 x10 x11 x25 x26 x102000 x102001 h => hX1 _ ?_
        clear hX1
        rcases k with _ | k
        ·cases h
        unfold dl_Cosets.l1 at h
        replace h := hs_ h
        refine go_ ?_
        repeat' (first | split at h | (refine bnf h fun t e h => ?_; (repeat (first | refine g6_ ?_)); refine .inl ⟨_, (by first | exact dl_open_con e), ?_⟩; refine go_ ?_) | (refine bnf h fun t e h => ?_; (repeat (first | refine g6_ ?_ | (refine .inl ⟨_, (by first | exact dl_open_con ‹_›), ?_⟩; refine go_ ?_))); refine .inl ⟨_, (by first | exact dl_open_con e), ?_⟩; refine go_ ?_) | fail)
        all_goals (first | ((repeat (first | refine g6_ ?_ | (refine .inl ⟨_, (by first | exact dl_open_con ‹_›), ?_⟩; refine go_ ?_))); exact ih1 _ (by omega) _ _ _ _ _ _ _ _ _ h) | ((repeat (first | refine g6_ ?_ | (refine .inl ⟨_, (by first | exact dl_open_con ‹_›), ?_⟩; refine go_ ?_))); exact ih0 _ (by omega) _ _ _ _ _ _ _ h) | (cases h <;> (repeat (first | refine g6_ ?_ | (refine .inl ⟨_, (by first | exact dl_open_con ‹_›), ?_⟩; refine go_ ?_))) <;> (first | done | rfl | trivial | (simp; done) | (exfalso; omega))) | (exfalso; omega))
       exact key _ (by omega) _ _ _ _ _ _ _ _ _ h)
    exact key _ _ _ _ _ _ _ _ h)
theorem l18same_con {k : Nat} {l0 : List Int} {l1 : List Int} {r : Bool} (h : l18same.f k l0 l1 = some r) : Con Tryz.prog 23 [⟨.sl 3 (.int .i64), l0⟩, ⟨.sl 3 (.int .i64), l1⟩] [(false, ⟨.bool, r⟩)] := by
 refine con_ (ps := [0, 1, 4, 5, 10, 14, 25]) (res := [(4, none)]) ?_ Tryz.func23 Tryz.ntmps23
 refine go_ ?_
 unfold l18same.f at h
 replace h := hs_ h
 repeat' (first | split at h | fail)
 all_goals first
  | (cases h <;> (repeat (first | refine g6_ ?_)) <;> (first | done | rfl | trivial | (simp; done) | (exfalso; omega)))
  | (exfalso; omega)
  | (
    (with_reducible have h : l18same.l0 _ _ _ _ = some r := h)
    repeat (first | refine g6_ ?_)
    refine lp [(0, .row 3 (.int .i64)), (1, .row 3 (.int .i64)), (5, .keep)] fun X0 hX0 => ?_
    refine go_ ?_
    have key : ∀ k x0 x1 x5, l18same.l0 k x0 x1 x5 = some r → X0 ⟨lkp .bot [(5, .ro (.int .i64) x5), (1, .ro (.sl 3 (.int .i64)) x1), (0, .ro (.sl 3 (.int .i64)) x0)], lkp none [], 0⟩ := by
     refine sind fun k ih0 x0 x1 x5 h => hX0 _ ?_
     clear hX0
     rcases k with _ | k
     ·cases h
     unfold l18same.l0 at h
     replace h := hs_ h
     refine go_ ?_
     repeat' (first | split at h | fail)
     all_goals (first | ((repeat (first | refine g6_ ?_)); exact ih0 _ (by omega) _ _ _ h) | (cases h <;> (repeat (first | refine g6_ ?_)) <;> (first | done | rfl | trivial | (simp; done) | (exfalso; omega))) | (exfalso; omega))
    exact key _ _ _ _ h)
theorem r9Same_con {k : Nat} {l0 : List Int} {l1 : List Int} {r : Bool} (h : r9Same.f k l0 l1 = some r) : Con Tryz.prog 36 [⟨.sl 3 (.int .i64), l0⟩, ⟨.sl 3 (.int .i64), l1⟩] [(false, ⟨.bool, r⟩)] := by
 refine con_ (ps := [0, 1, 4, 5, 10, 14, 25]) (res := [(4, none)]) ?_ Tryz.func36 Tryz.ntmps36
 refine go_ ?_
 unfold r9Same.f at h
 replace h := hs_ h
 repeat' (first | split at h | fail)
 all_goals first
  | (cases h <;> (repeat (first | refine g6_ ?_)) <;> (first | done | rfl | trivial | (simp; done) | (exfalso; omega)))
  | (exfalso; omega)
  | (
    (with_reducible have h : r9Same.l0 _ _ _ _ = some r := h)
    repeat (first | refine g6_ ?_)
    refine lp [(0, .row 3 (.int .i64)), (1, .row 3 (.int .i64)), (5, .keep)] fun X0 hX0 => ?_
    refine go_ ?_
    have key : ∀ k x0 x1 x5, r9Same.l0 k x0 x1 x5 = some r → X0 ⟨lkp .bot [(5, .ro (.int .i64) x5), (1, .ro (.sl 3 (.int .i64)) x1), (0, .ro (.sl 3 (.int .i64)) x0)], lkp none [], 0⟩ := by
     refine sind fun k ih0 x0 x1 x5 h => hX0 _ ?_
     clear hX0
     rcases k with _ | k
     ·cases h
     unfold r9Same.l0 at h
     replace h := hs_ h
     refine go_ ?_
     repeat' (first | split at h | fail)
     all_goals (first | ((repeat (first | refine g6_ ?_)); exact ih0 _ (by omega) _ _ _ h) | (cases h <;> (repeat (first | refine g6_ ?_)) <;> (first | done | rfl | trivial | (simp; done) | (exfalso; omega))) | (exfalso; omega))
    exact key _ _ _ _ h)
theorem r9SameLists_con {k : Nat} {l0 : List (List Int)} {l1 : List (List Int)} {r : Bool} (h : r9SameLists.f k l0 l1 = some r) : Con Tryz.prog 25 [⟨.sl 23 (.sl 3 (.int .i64)), l0⟩, ⟨.sl 23 (.sl 3 (.int .i64)), l1⟩] [(false, ⟨.bool, r⟩)] := by
 refine con_ (ps := [0, 1, 4, 5, 10, 14, 26]) (res := [(4, none)]) ?_ Tryz.func25 Tryz.ntmps25
 refine go_ ?_
 unfold r9SameLists.f at h
 replace h := hs_ h
 repeat' (first | split at h | (refine bnf h fun t e h => ?_; (repeat (first | refine g6_ ?_)); refine .inl ⟨_, (by first | exact r9Same_con e), ?_⟩; refine go_ ?_) | (refine bnf h fun t e h => ?_; (repeat (first | refine g6_ ?_ | (refine .inl ⟨_, (by first | exact r9Same_con ‹_›), ?_⟩; refine go_ ?_))); refine .inl ⟨_, (by first | exact r9Same_con e), ?_⟩; refine go_ ?_) | fail)
 all_goals first
  | (cases h <;> (repeat (first | refine g6_ ?_ | (refine .inl ⟨_, (by first | exact r9Same_con ‹_›), ?_⟩; refine go_ ?_))) <;> (first | done | rfl | trivial | (simp; done) | (exfalso; omega)))
  | (exfalso; omega)
  | (
    (with_reducible have h : r9SameLists.l0 _ _ _ _ = some r := h)
    repeat (first | refine g6_ ?_ | (refine .inl ⟨_, (by first | exact r9Same_con ‹_›), ?_⟩; refine go_ ?_))
    refine lp [(0, .row 23 (.sl 3 (.int .i64))), (1, .row 23 (.sl 3 (.int .i64))), (5, .keep)] fun X0 hX0 => ?_
    refine go_ ?_
    have key : ∀ k x0 x1 x5, r9SameLists.l0 k x0 x1 x5 = some r → X0 ⟨lkp .bot [(5, .ro (.int .i64) x5), (1, .ro (.sl 23 (.sl 3 (.int .i64))) x1), (0, .ro (.sl 23 (.sl 3 (.int .i64))) x0)], lkp none [], 0⟩ := by
     refine sind fun k ih0 x0 x1 x5 h => hX0 _ ?_
     clear hX0
     rcases k with _ | k
     ·cases h
     unfold r9SameLists.l0 at h
     replace h := hs_ h
     refine go_ ?_
     repeat' (first | split at h | (refine bnf h fun t e h => ?_; (repeat (first | refine g6_ ?_)); refine .inl ⟨_, (by first | exact r9Same_con e), ?_⟩; refine go_ ?_) | (refine bnf h fun t e h => ?_; (repeat (first | refine g6_ ?_ | (refine .inl ⟨_, (by first | exact r9Same_con ‹_›), ?_⟩; refine go_ ?_))); refine .inl ⟨_, (by first | exact r9Same_con e), ?_⟩; refine go_ ?_) | fail)
     all_goals (first | ((repeat (first | refine g6_ ?_ | (refine .inl ⟨_, (by first | exact r9Same_con ‹_›), ?_⟩; refine go_ ?_))); exact ih0 _ (by omega) _ _ _ h) | (cases h <;> (repeat (first | refine g6_ ?_ | (refine .inl ⟨_, (by first | exact r9Same_con ‹_›), ?_⟩; refine go_ ?_))) <;> (first | done | rfl | trivial | (simp; done) | (exfalso; omega))) | (exfalso; omega))
    exact key _ _ _ _ h)
theorem l18seven_con  {r1 : Int} {r2 : List Int} (h : l18seven.f = some (r1, r2)) : Con Tryz.prog 48 [] [(false, ⟨.pr (.int .i64) (.pr (.sl 3 (.int .i64)) (.un)), (r1, (r2, ()))⟩)] := by
 refine con_ (ps := [0]) (res := [(0, some 25)]) ?_ Tryz.func48 Tryz.ntmps48
 refine go_ ?_
 unfold l18seven.f at h
 replace h := hs_ h
 repeat' (first | split at h | fail)
 all_goals (first | (cases h <;> (repeat (first | refine g6_ ?_)) <;> (first | done | rfl | trivial | (simp; done) | (exfalso; omega))) | (exfalso; omega))
theorem l18four_con  {r1 : Int} {r2 : List Int} (h : l18four.f = some (r1, r2)) : Con Tryz.prog 49 [] [(false, ⟨.pr (.int .i64) (.pr (.sl 3 (.int .i64)) (.un)), (r1, (r2, ()))⟩)] := by
 refine con_ (ps := [0]) (res := [(0, some 25)]) ?_ Tryz.func49 Tryz.ntmps49
 refine go_ ?_
 unfold l18four.f at h
 replace h := hs_ h
 repeat' (first | split at h | fail)
 all_goals (first | (cases h <;> (repeat (first | refine g6_ ?_)) <;> (first | done | rfl | trivial | (simp; done) | (exfalso; omega))) | (exfalso; omega))
theorem l18eight_con  {r1 : Int} {r2 : List Int} (h : l18eight.f = some (r1, r2)) : Con Tryz.prog 50 [] [(false, ⟨.pr (.int .i64) (.pr (.sl 3 (.int .i64)) (.un)), (r1, (r2, ()))⟩)] := by
 refine con_ (ps := [0]) (res := [(0, some 25)]) ?_ Tryz.func50 Tryz.ntmps50
 refine go_ ?_
 unfold l18eight.f at h
 replace h := hs_ h
 repeat' (first | split at h | fail)
 all_goals (first | (cases h <;> (repeat (first | refine g6_ ?_)) <;> (first | done | rfl | trivial | (simp; done) | (exfalso; omega))) | (exfalso; omega))
theorem r15Degree_con {a0_0 : Int} {l0_1 : List Int} {r : Int} (h : r15Degree.f a0_0 l0_1 = some r) : Con Tryz.prog 54 [⟨.pr (.int .i64) (.pr (.sl 3 (.int .i64)) (.un)), (a0_0, (l0_1, ()))⟩] [(false, ⟨.int .i64, r⟩)] := by
 refine con_ (ps := [0, 1, 2]) (res := [(2, none)]) ?_ Tryz.func54 Tryz.ntmps54
 refine go_ ?_
 unfold r15Degree.f at h
 replace h := hs_ h
 repeat' (first | split at h | fail)
 all_goals (first | (cases h <;> (repeat (first | refine g6_ ?_)) <;> (first | done | rfl | trivial | (simp; done) | (exfalso; omega))) | (exfalso; omega))
theorem r15Size_con {k : Nat} {a0_0 : Int} {l0_1 : List Int} {r : Int} (h : r15Size.f k a0_0 l0_1 = some r) : Con Tryz.prog 13 [⟨.pr (.int .i64) (.pr (.sl 3 (.int .i64)) (.un)), (a0_0, (l0_1, ()))⟩] [(false, ⟨.int .i64, r⟩)] := by
 refine con_ (ps := [0, 1, 2, 3, 4, 8, 15]) (res := [(2, none)]) ?_ Tryz.func13 Tryz.ntmps13
 refine go_ ?_
 unfold r15Size.f at h
 replace h := hs_ h
 repeat' (first | split at h | (refine bnf h fun t e h => ?_; (repeat (first | refine g6_ ?_)); refine .inl ⟨_, (by first | exact r15Degree_con e), ?_⟩; refine go_ ?_) | (refine bnf h fun t e h => ?_; (repeat (first | refine g6_ ?_ | (refine .inl ⟨_, (by first | exact r15Degree_con ‹_›), ?_⟩; refine go_ ?_))); refine .inl ⟨_, (by first | exact r15Degree_con e), ?_⟩; refine go_ ?_) | fail)
 all_goals first
  | (cases h <;> (repeat (first | refine g6_ ?_ | (refine .inl ⟨_, (by first | exact r15Degree_con ‹_›), ?_⟩; refine go_ ?_))) <;> (first | done | rfl | trivial | (simp; done) | (exfalso; omega)))
  | (exfalso; omega)
  | (
    (with_reducible have h : r15Size.l0 _ _ _ _ _ = some r := h)
    repeat (first | refine g6_ ?_ | (refine .inl ⟨_, (by first | exact r15Degree_con ‹_›), ?_⟩; refine go_ ?_))
    refine lp [(3, .keep), (4, .keep), (1, .box)] fun X0 hX0 => ?_
    refine go_ ?_
    have key : ∀ k x3 x4 x102000 x102001, r15Size.l0 k x3 x4 x102000 x102001 = some r → X0 ⟨lkp .bot [(1, .ptr 2 0 []), (4, .ro (.int .i64) x4), (3, .ro (.int .i64) x3)], lkp none [(2, some ⟨25, .pr (.int .i64) (.pr (.sl 3 (.int .i64)) (.un)), [(x102000, (x102001, ()))], true⟩)], 0⟩ := by
     refine sind fun k ih0 x3 x4 x102000 x102001 h => hX0 _ ?_
     clear hX0
     rcases k with _ | k
     ·cases h
     unfold r15Size.l0 at h
     replace h := hs_ h
     refine go_ ?_
     repeat' (first | split at h | (refine bnf h fun t e h => ?_; (repeat (first | refine g6_ ?_)); refine .inl ⟨_, (by first | exact r15Degree_con e), ?_⟩; refine go_ ?_) | (refine bnf h fun t e h => ?_; (repeat (first | refine g6_ ?_ | (refine .inl ⟨_, (by first | exact r15Degree_con ‹_›), ?_⟩; refine go_ ?_))); refine .inl ⟨_, (by first | exact r15Degree_con e), ?_⟩; refine go_ ?_) | fail)
     all_goals (first | ((repeat (first | refine g6_ ?_ | (refine .inl ⟨_, (by first | exact r15Degree_con ‹_›), ?_⟩; refine go_ ?_))); exact ih0 _ (by omega) _ _ _ _ h) | (cases h <;> (repeat (first | refine g6_ ?_ | (refine .inl ⟨_, (by first | exact r15Degree_con ‹_›), ?_⟩; refine go_ ?_))) <;> (first | done | rfl | trivial | (simp; done) | (exfalso; omega))) | (exfalso; omega))
    exact key _ _ _ _ _ h)
theorem r4IsPrime_con {k : Nat} {a0 : Int} {r : Bool} (h : r4IsPrime.f k a0 = some r) : Con Tryz.prog 134 [⟨.int .i64, a0⟩] [(false, ⟨.bool, r⟩)] := by
 refine con_ (ps := [0, 2, 3, 8, 14]) (res := [(2, none)]) ?_ Tryz.func134 Tryz.ntmps134
 refine go_ ?_
 unfold r4IsPrime.f at h
 replace h := hs_ h
 repeat' (first | split at h | fail)
 all_goals first
  | (cases h <;> (repeat (first | refine g6_ ?_)) <;> (first | done | rfl | trivial | (simp; done) | (exfalso; omega)))
  | (exfalso; omega)
  | (
    (with_reducible have h : r4IsPrime.l0 _ _ _ = some r := h)
    repeat (first | refine g6_ ?_)
    refine lp [(0, .keep), (3, .keep)] fun X0 hX0 => ?_
    refine go_ ?_
    have key : ∀ k x0 x3, r4IsPrime.l0 k x0 x3 = some r → X0 ⟨lkp .bot [(3, .ro (.int .i64) x3), (0, .ro (.int .i64) x0)], lkp none [], 0⟩ := by
     refine sind fun k ih0 x0 x3 h => hX0 _ ?_
     clear hX0
     rcases k with _ | k
     ·cases h
     unfold r4IsPrime.l0 at h
     replace h := hs_ h
     refine go_ ?_
     repeat' (first | split at h | fail)
     all_goals (first | ((repeat (first | refine g6_ ?_)); exact ih0 _ (by omega) _ _ h) | (cases h <;> (repeat (first | refine g6_ ?_)) <;> (first | done | rfl | trivial | (simp; done) | (exfalso; omega))) | (exfalso; omega))
    exact key _ _ _ h)
theorem r9IsPrime_con {k : Nat} {a0 : Int} {r : Bool} (h : r9IsPrime.f k a0 = some r) : Con Tryz.prog 97 [⟨.int .i64, a0⟩] [(false, ⟨.bool, r⟩)] := by
 refine con_ (ps := [0, 2]) (res := [(2, none)]) ?_ Tryz.func97 Tryz.ntmps97
 refine go_ ?_
 unfold r9IsPrime.f at h
 replace h := hs_ h
 repeat' (first | split at h | (refine bnf h fun t e h => ?_; (repeat (first | refine g6_ ?_)); refine .inl ⟨_, (by first | exact r4IsPrime_con e), ?_⟩; refine go_ ?_) | (refine bnf h fun t e h => ?_; (repeat (first | refine g6_ ?_ | (refine .inl ⟨_, (by first | exact r4IsPrime_con ‹_›), ?_⟩; refine go_ ?_))); refine .inl ⟨_, (by first | exact r4IsPrime_con e), ?_⟩; refine go_ ?_) | fail)
 all_goals (first | (cases h <;> (repeat (first | refine g6_ ?_ | (refine .inl ⟨_, (by first | exact r4IsPrime_con ‹_›), ?_⟩; refine go_ ?_))) <;> (first | done | rfl | trivial | (simp; done) | (exfalso; omega))) | (exfalso; omega))
theorem r9Check_con {k : Nat} {a0 : Int} {l1 : List Int} {r : Int} (h : r9Check.f k a0 l1 = some r) : Con Tryz.prog 51 [⟨.int .i64, a0⟩, ⟨.sl 3 (.int .i64), l1⟩] [(false, ⟨.int .i64, r⟩)] := by
 refine con_ (ps := [0, 1, 4, 5, 8, 11, 15, 30, 42]) (res := [(4, none)]) ?_ Tryz.func51 Tryz.ntmps51
 refine go_ ?_
 unfold r9Check.f at h
 replace h := hs_ h
 repeat' (first | split at h | (refine bnf h fun t e h => ?_; (repeat (first | refine g6_ ?_)); refine .inl ⟨_, (by first | exact r9IsPrime_con e), ?_⟩; refine go_ ?_) | (refine bnf h fun t e h => ?_; (repeat (first | refine g6_ ?_ | (refine .inl ⟨_, (by first | exact r9IsPrime_con ‹_›), ?_⟩; refine go_ ?_))); refine .inl ⟨_, (by first | exact r9IsPrime_con e), ?_⟩; refine go_ ?_) | fail)
 all_goals first
  | (cases h <;> (repeat (first | refine g6_ ?_ | (refine .inl ⟨_, (by first | exact r9IsPrime_con ‹_›), ?_⟩; refine go_ ?_))) <;> (first | done | rfl | trivial | (simp; done) | (exfalso; omega)))
  | (exfalso; omega)
  | (
    (with_reducible have h : r9Check.l0 _ _ _ _ = some r := h)
    repeat (first | refine g6_ ?_ | (refine .inl ⟨_, (by first | exact r9IsPrime_con ‹_›), ?_⟩; refine go_ ?_))
    refine lp [(0, .keep), (1, .row 3 (.int .i64)), (5, .keep)] fun X0 hX0 => ?_
    refine go_ ?_
    have key : ∀ k x0 x1 x5, r9Check.l0 k x0 x1 x5 = some r → X0 ⟨lkp .bot [(5, .ro (.int .i64) x5), (1, .ro (.sl 3 (.int .i64)) x1), (0, .ro (.int .i64) x0)], lkp none [], 0⟩ := by
     refine sind fun k ih0 x0 x1 x5 h => hX0 _ ?_
     clear hX0
     rcases k with _ | k
     ·cases h
     unfold r9Check.l0 at h
     replace h := hs_ h
     refine go_ ?_
     repeat' (first | split at h | (refine bnf h fun t e h => ?_; (repeat (first | refine g6_ ?_)); refine .inl ⟨_, (by first | exact r9IsPrime_con e), ?_⟩; refine go_ ?_) | (refine bnf h fun t e h => ?_; (repeat (first | refine g6_ ?_ | (refine .inl ⟨_, (by first | exact r9IsPrime_con ‹_›), ?_⟩; refine go_ ?_))); refine .inl ⟨_, (by first | exact r9IsPrime_con e), ?_⟩; refine go_ ?_) | fail)
     all_goals (first | ((repeat (first | refine g6_ ?_ | (refine .inl ⟨_, (by first | exact r9IsPrime_con ‹_›), ?_⟩; refine go_ ?_))); exact ih0 _ (by omega) _ _ _ h) | (cases h <;> (repeat (first | refine g6_ ?_ | (refine .inl ⟨_, (by first | exact r9IsPrime_con ‹_›), ?_⟩; refine go_ ?_))) <;> (first | done | rfl | trivial | (simp; done) | (exfalso; omega))) | (exfalso; omega))
    exact key _ _ _ _ h)
theorem r15Member_con {k : Nat} {a0_0 : Int} {l0_1 : List Int} {l1 : List Int} {r : Int} (h : r15Member.f k a0_0 l0_1 l1 = some r) : Con Tryz.prog 33 [⟨.pr (.int .i64) (.pr (.sl 3 (.int .i64)) (.un)), (a0_0, (l0_1, ()))⟩, ⟨.sl 3 (.int .i64), l1⟩] [(false, ⟨.int .i64, r⟩)] := by
 refine con_ (ps := [0, 1, 2, 4, 5, 19]) (res := [(4, none)]) ?_ Tryz.func33 Tryz.ntmps33
 refine go_ ?_
 unfold r15Member.f at h
 replace h := hs_ h
 repeat' (first | split at h | (refine bnf h fun t e h => ?_; (repeat (first | refine g6_ ?_)); refine .inl ⟨_, (by first | exact r9Check_con e), ?_⟩; refine go_ ?_) | (refine bnf h fun t e h => ?_; (repeat (first | refine g6_ ?_ | (refine .inl ⟨_, (by first | exact r9Check_con ‹_›), ?_⟩; refine go_ ?_))); refine .inl ⟨_, (by first | exact r9Check_con e), ?_⟩; refine go_ ?_) | fail)
 all_goals (first | (cases h <;> (repeat (first | refine g6_ ?_ | (refine .inl ⟨_, (by first | exact r9Check_con ‹_›), ?_⟩; refine go_ ?_))) <;> (first | done | rfl | trivial | (simp; done) | (exfalso; omega))) | (exfalso; omega))
theorem r9Lead_con {l0 : List Int} {r : Int} (h : r9Lead.f l0 = some r) : Con Tryz.prog 52 [⟨.sl 3 (.int .i64), l0⟩] [(false, ⟨.int .i64, r⟩)] := by
 refine con_ (ps := [0, 2, 5]) (res := [(2, none)]) ?_ Tryz.func52 Tryz.ntmps52
 refine go_ ?_
 unfold r9Lead.f at h
 replace h := hs_ h
 repeat' (first | split at h | fail)
 all_goals (first | (cases h <;> (repeat (first | refine g6_ ?_)) <;> (first | done | rfl | trivial | (simp; done) | (exfalso; omega))) | (exfalso; omega))
theorem r9Trim_con {k : Nat} {l0 : List Int} {r : List Int} (h : r9Trim.f k l0 = some r) : Con Tryz.prog 117 [⟨.sl 3 (.int .i64), l0⟩] [(false, ⟨.sl 3 (.int .i64), r⟩)] := by
 refine con_ (ps := [0, 2, 14]) (res := [(2, none)]) ?_ Tryz.func117 Tryz.ntmps117
 refine go_ ?_
 unfold r9Trim.f at h
 replace h := hs_ h
 repeat' (first | split at h | fail)
 all_goals first
  | (cases h <;> (repeat (first | refine g6_ ?_)) <;> (first | done | rfl | trivial | (simp; done) | (exfalso; omega)))
  | (exfalso; omega)
  | (
    (with_reducible have h : r9Trim.l0 _ _ = some r := h)
    repeat (first | refine g6_ ?_)
    refine lp [(0, .row 3 (.int .i64))] fun X0 hX0 => ?_
    refine go_ ?_
    have key : ∀ k x0, r9Trim.l0 k x0 = some r → X0 ⟨lkp .bot [(0, .ro (.sl 3 (.int .i64)) x0)], lkp none [], 0⟩ := by
     refine sind fun k ih0 x0 h => hX0 _ ?_
     clear hX0
     rcases k with _ | k
     ·cases h
     unfold r9Trim.l0 at h
     replace h := hs_ h
     refine go_ ?_
     repeat' (first | split at h | fail)
     all_goals (first | ((repeat (first | refine g6_ ?_)); exact ih0 _ (by omega) _ h) | (cases h <;> (repeat (first | refine g6_ ?_)) <;> (first | done | rfl | trivial | (simp; done) | (exfalso; omega))) | (exfalso; omega))
    exact key _ _ h)
theorem r9Mul_con {k : Nat} {a0 : Int} {l1 : List Int} {l2 : List Int} {r : List Int} (h : r9Mul.f k a0 l1 l2 = some r) : Con Tryz.prog 150 [⟨.int .i64, a0⟩, ⟨.sl 3 (.int .i64), l1⟩, ⟨.sl 3 (.int .i64), l2⟩] [(false, ⟨.sl 3 (.int .i64), r⟩)] := by
 refine con_ (ps := [0, 1, 2, 6, 7, 8, 9, 17, 28, 34]) (res := [(6, none)]) ?_ Tryz.func150 Tryz.ntmps150
 refine go_ ?_
 unfold r9Mul.f at h
 replace h := hs_ h
 repeat' (first | split at h | (refine bnf h fun t e h => ?_; (repeat (first | refine g6_ ?_)); refine .inl ⟨_, (by first | exact r9Trim_con e), ?_⟩; refine go_ ?_) | (refine bnf h fun t e h => ?_; (repeat (first | refine g6_ ?_ | (refine .inl ⟨_, (by first | exact r9Trim_con ‹_›), ?_⟩; refine go_ ?_))); refine .inl ⟨_, (by first | exact r9Trim_con e), ?_⟩; refine go_ ?_) | (rcases k with _ | k; (· cases h); unfold r9Mul.j0 at h; replace h := hs_ h) | fail)
 all_goals first
  | (cases h <;> (repeat (first | refine g6_ ?_ | (refine .inl ⟨_, (by first | exact r9Trim_con ‹_›), ?_⟩; refine go_ ?_))) <;> (first | done | rfl | trivial | (simp; done) | (exfalso; omega)))
  | (exfalso; omega)
  | (
    (with_reducible have h : r9Mul.l0 _ _ _ _ _ _ = some r := h)
    repeat (first | refine g6_ ?_ | (refine .inl ⟨_, (by first | exact r9Trim_con ‹_›), ?_⟩; refine go_ ?_))
    refine lp [(0, .keep), (1, .row 3 (.int .i64)), (2, .row 3 (.int .i64)), (7, .own 3 (.int .i64)), (8, .keep)] fun X0 hX0 => ?_
    refine go_ ?_
    have key : ∀ k x0 x1 x2 x7 x8, r9Mul.l0 k x0 x1 x2 x7 x8 = some r → X0 ⟨lkp .bot [(8, .ro (.int .i64) x8), (7, .own 14), (2, .ro (.sl 3 (.int .i64)) x2), (1, .ro (.sl 3 (.int .i64)) x1), (0, .ro (.int .i64) x0)], lkp none [(14, some ⟨3, .int .i64, x7, true⟩)], 0⟩ := by
     refine sind fun k ih0 x0 x1 x2 x7 x8 h => hX0 _ ?_
     clear hX0
     rcases k with _ | k
     ·cases h
     unfold r9Mul.l0 at h
     replace h := hs_ h
     refine go_ ?_
     repeat' (first | split at h | (refine bnf h fun t e h => ?_; (repeat (first | refine g6_ ?_)); refine .inl ⟨_, (by first | exact r9Trim_con e), ?_⟩; refine go_ ?_) | (refine bnf h fun t e h => ?_; (repeat (first | refine g6_ ?_ | (refine .inl ⟨_, (by first | exact r9Trim_con ‹_›), ?_⟩; refine go_ ?_))); refine .inl ⟨_, (by first | exact r9Trim_con e), ?_⟩; refine go_ ?_) | (rcases k with _ | k; (· cases h); unfold r9Mul.j0 at h; replace h := hs_ h) | fail)
     all_goals first
      | ((repeat (first | refine g6_ ?_ | (refine .inl ⟨_, (by first | exact r9Trim_con ‹_›), ?_⟩; refine go_ ?_))); exact ih0 _ (by omega) _ _ _ _ _ h)
      | (cases h <;> (repeat (first | refine g6_ ?_ | (refine .inl ⟨_, (by first | exact r9Trim_con ‹_›), ?_⟩; refine go_ ?_))) <;> (first | done | rfl | trivial | (simp; done) | (exfalso; omega)))
      | (exfalso; omega)
      | (
       (with_reducible have h : r9Mul.l1 _ _ _ _ _ _ _ = some r := h)
       repeat (first | refine g6_ ?_ | (refine .inl ⟨_, (by first | exact r9Trim_con ‹_›), ?_⟩; refine go_ ?_))
       refine lp [(0, .keep), (1, .row 3 (.int .i64)), (2, .row 3 (.int .i64)), (7, .own 3 (.int .i64)), (8, .keep), (9, .keep)] fun X1 hX1 => ?_
       refine go_ ?_
       have key : ∀ j, j ≤ k → ∀ x0 x1 x2 x7 x8 x9, r9Mul.l1 j x0 x1 x2 x7 x8 x9 = some r → X1 ⟨lkp .bot [(9, .ro (.int .i64) x9), (8, .ro (.int .i64) x8), (7, .own 14), (2, .ro (.sl 3 (.int .i64)) x2), (1, .ro (.sl 3 (.int .i64)) x1), (0, .ro (.int .i64) x0)], lkp none [(14, some ⟨3, .int .i64, x7, true⟩)], 0⟩ := by
        refine sinb fun k hk1 ih1 x0 x1 x2 x7 x8 x9 h => hX1 _ ?_
        clear hX1
        rcases k with _ | k
        ·cases h
        unfold r9Mul.l1 at h
        replace h := hs_ h
        refine go_ ?_
        repeat' (first | split at h | (refine bnf h fun t e h => ?_; (repeat (first | refine g6_ ?_)); refine .inl ⟨_, (by first | exact r9Trim_con e), ?_⟩; refine go_ ?_) | (refine bnf h fun t e h => ?_; (repeat (first | refine g6_ ?_ | (refine .inl ⟨_, (by first | exact r9Trim_con ‹_›), ?_⟩; refine go_ ?_))); refine .inl ⟨_, (by first | exact r9Trim_con e), ?_⟩; refine go_ ?_) | (rcases k with _ | k; (· cases h); unfold r9Mul.j0 at h; replace h := hs_ h) | fail)
        all_goals (first | ((repeat (first | refine g6_ ?_ | (refine .inl ⟨_, (by first | exact r9Trim_con ‹_›), ?_⟩; refine go_ ?_))); exact ih1 _ (by omega) _ _ _ _ _ _ h) | ((repeat (first | refine g6_ ?_ | (refine .inl ⟨_, (by first | exact r9Trim_con ‹_›), ?_⟩; refine go_ ?_))); exact ih0 _ (by omega) _ _ _ _ _ h) | (cases h <;> (repeat (first | refine g6_ ?_ | (refine .inl ⟨_, (by first | exact r9Trim_con ‹_›), ?_⟩; refine go_ ?_))) <;> (first | done | rfl | trivial | (simp; done) | (exfalso; omega))) | (exfalso; omega))
       exact key _ (by omega) _ _ _ _ _ _ h)
    exact key _ _ _ _ _ _ h)
theorem r9Copy_con {l0 : List Int} {r : List Int} (h : r9Copy.f l0 = some r) : Con Tryz.prog 169 [⟨.sl 3 (.int .i64), l0⟩] [(true, ⟨.sl 3 (.int .i64), r⟩)] := by
 refine con_ (ps := [0, 2]) (res := [(2, none)]) ?_ Tryz.func169 Tryz.ntmps169
 refine go_ ?_
 unfold r9Copy.f at h
 replace h := hs_ h
 repeat' (first | split at h | fail)
 all_goals (first | (cases h <;> (repeat (first | refine g6_ ?_)) <;> (first | done | rfl | trivial | (simp; done) | (exfalso; omega))) | (exfalso; omega))
theorem r4Mod_con {a0 : Int} {a1 : Int} {r : Int} (h : r4Mod.f a0 a1 = some r) : Con Tryz.prog 171 [⟨.int .i64, a0⟩, ⟨.int .i64, a1⟩] [(false, ⟨.int .i64, r⟩)] := by
 refine con_ (ps := [0, 1, 4]) (res := [(4, none)]) ?_ Tryz.func171 Tryz.ntmps171
 refine go_ ?_
 unfold r4Mod.f at h
 replace h := hs_ h
 repeat' (first | split at h | fail)
 all_goals (first | (cases h <;> (repeat (first | refine g6_ ?_)) <;> (first | done | rfl | trivial | (simp; done) | (exfalso; omega))) | (exfalso; omega))
theorem r4Inverse_con {k : Nat} {a0 : Int} {a1 : Int} {r : Int} (h : r4Inverse.f k a0 a1 = some r) : Con Tryz.prog 170 [⟨.int .i64, a0⟩, ⟨.int .i64, a1⟩] [(false, ⟨.int .i64, r⟩)] := by
 refine con_ (ps := [0, 1, 4, 5, 6, 7, 8, 9, 15]) (res := [(4, none)]) ?_ Tryz.func170 Tryz.ntmps170
 refine go_ ?_
 unfold r4Inverse.f at h
 replace h := hs_ h
 repeat' (first | split at h | (refine bnf h fun t e h => ?_; (repeat (first | refine g6_ ?_)); refine .inl ⟨_, (by first | exact r4Mod_con e), ?_⟩; refine go_ ?_) | (refine bnf h fun t e h => ?_; (repeat (first | refine g6_ ?_ | (refine .inl ⟨_, (by first | exact r4Mod_con ‹_›), ?_⟩; refine go_ ?_))); refine .inl ⟨_, (by first | exact r4Mod_con e), ?_⟩; refine go_ ?_) | fail)
 all_goals first
  | (cases h <;> (repeat (first | refine g6_ ?_ | (refine .inl ⟨_, (by first | exact r4Mod_con ‹_›), ?_⟩; refine go_ ?_))) <;> (first | done | rfl | trivial | (simp; done) | (exfalso; omega)))
  | (exfalso; omega)
  | (
    (with_reducible have h : r4Inverse.l0 _ _ _ _ _ _ = some r := h)
    repeat (first | refine g6_ ?_ | (refine .inl ⟨_, (by first | exact r4Mod_con ‹_›), ?_⟩; refine go_ ?_))
    refine lp [(1, .keep), (5, .keep), (6, .keep), (7, .keep), (8, .keep)] fun X0 hX0 => ?_
    refine go_ ?_
    have key : ∀ k x1 x5 x6 x7 x8, r4Inverse.l0 k x1 x5 x6 x7 x8 = some r → X0 ⟨lkp .bot [(8, .ro (.int .i64) x8), (7, .ro (.int .i64) x7), (6, .ro (.int .i64) x6), (5, .ro (.int .i64) x5), (1, .ro (.int .i64) x1)], lkp none [], 0⟩ := by
     refine sind fun k ih0 x1 x5 x6 x7 x8 h => hX0 _ ?_
     clear hX0
     rcases k with _ | k
     ·cases h
     unfold r4Inverse.l0 at h
     replace h := hs_ h
     refine go_ ?_
     repeat' (first | split at h | (refine bnf h fun t e h => ?_; (repeat (first | refine g6_ ?_)); refine .inl ⟨_, (by first | exact r4Mod_con e), ?_⟩; refine go_ ?_) | (refine bnf h fun t e h => ?_; (repeat (first | refine g6_ ?_ | (refine .inl ⟨_, (by first | exact r4Mod_con ‹_›), ?_⟩; refine go_ ?_))); refine .inl ⟨_, (by first | exact r4Mod_con e), ?_⟩; refine go_ ?_) | fail)
     all_goals (first | ((repeat (first | refine g6_ ?_ | (refine .inl ⟨_, (by first | exact r4Mod_con ‹_›), ?_⟩; refine go_ ?_))); exact ih0 _ (by omega) _ _ _ _ _ h) | (cases h <;> (repeat (first | refine g6_ ?_ | (refine .inl ⟨_, (by first | exact r4Mod_con ‹_›), ?_⟩; refine go_ ?_))) <;> (first | done | rfl | trivial | (simp; done) | (exfalso; omega))) | (exfalso; omega))
    exact key _ _ _ _ _ _ h)
theorem r9DivMod_con {k : Nat} {a0 : Int} {l1 : List Int} {l2 : List Int} {r1 : List Int} {r2 : List Int} (h : r9DivMod.f k a0 l1 l2 = some (r1, r2)) : Con Tryz.prog 135 [⟨.int .i64, a0⟩, ⟨.sl 3 (.int .i64), l1⟩, ⟨.sl 3 (.int .i64), l2⟩] [(false, ⟨.sl 3 (.int .i64), r1⟩), (false, ⟨.sl 3 (.int .i64), r2⟩)] := by
 refine con_ (ps := [0, 1, 2, 6, 7, 8, 9, 10, 11, 12, 13, 14, 36, 55]) (res := [(6, none), (7, none)]) ?_ Tryz.func135 Tryz.ntmps135
 refine go_ ?_
 unfold r9DivMod.f at h
 replace h := hs_ h
 repeat' (first | split at h | (refine bnf h fun t e h => ?_; (repeat (first | refine g6_ ?_)); refine .inl ⟨_, (by first | exact r9Copy_con e | exact r4Inverse_con e | exact r9Trim_con e), ?_⟩; refine go_ ?_) | (refine bnf h fun t e h => ?_; (repeat (first | refine g6_ ?_ | (refine .inl ⟨_, (by first | exact r9Copy_con ‹_› | exact r4Inverse_con ‹_› | exact r9Trim_con ‹_›), ?_⟩; refine go_ ?_))); refine .inl ⟨_, (by first | exact r9Copy_con e | exact r4Inverse_con e | exact r9Trim_con e), ?_⟩; refine go_ ?_) | fail)
 all_goals first
  | (cases h <;> (repeat (first | refine g6_ ?_ | (refine .inl ⟨_, (by first | exact r9Copy_con ‹_› | exact r4Inverse_con ‹_› | exact r9Trim_con ‹_›), ?_⟩; refine go_ ?_))) <;> (first | done | rfl | trivial | (simp; done) | (exfalso; omega)))
  | (exfalso; omega)
  | (
    (with_reducible have h : r9DivMod.l0 _ _ _ _ _ _ _ _ = some (r1, r2) := h)
    repeat (first | refine g6_ ?_ | (refine .inl ⟨_, (by first | exact r9Copy_con ‹_› | exact r4Inverse_con ‹_› | exact r9Trim_con ‹_›), ?_⟩; refine go_ ?_))
    refine lp [(0, .keep), (2, .row 3 (.int .i64)), (8, .own 3 (.int .i64)), (9, .keep), (10, .own 3 (.int .i64)), (11, .keep), (12, .keep)] fun X0 hX0 => ?_
    refine go_ ?_
    have key : ∀ k x0 x2 x8 x9 x10 x11 x12, r9DivMod.l0 k x0 x2 x8 x9 x10 x11 x12 = some (r1, r2) → X0 ⟨lkp .bot [(12, .ro (.int .i64) x12), (11, .ro (.int .i64) x11), (10, .own 20), (9, .ro (.int .i64) x9), (8, .own 16), (2, .ro (.sl 3 (.int .i64)) x2), (0, .ro (.int .i64) x0)], lkp none [(20, some ⟨3, .int .i64, x10, true⟩), (16, some ⟨3, .int .i64, x8, true⟩)], 0⟩ := by
     refine sind fun k ih0 x0 x2 x8 x9 x10 x11 x12 h => hX0 _ ?_
     clear hX0
     rcases k with _ | k
     ·cases h
     unfold r9DivMod.l0 at h
     replace h := hs_ h
     refine go_ ?_
     repeat' (first | split at h | (refine bnf h fun t e h => ?_; (repeat (first | refine g6_ ?_)); refine .inl ⟨_, (by first | exact r9Copy_con e | exact r4Inverse_con e | exact r9Trim_con e), ?_⟩; refine go_ ?_) | (refine bnf h fun t e h => ?_; (repeat (first | refine g6_ ?_ | (refine .inl ⟨_, (by first | exact r9Copy_con ‹_› | exact r4Inverse_con ‹_› | exact r9Trim_con ‹_›), ?_⟩; refine go_ ?_))); refine .inl ⟨_, (by first | exact r9Copy_con e | exact r4Inverse_con e | exact r9Trim_con e), ?_⟩; refine go_ ?_) | fail)
     all_goals first
      | ((repeat (first | refine g6_ ?_ | (refine .inl ⟨_, (by first | exact r9Copy_con ‹_› | exact r4Inverse_con ‹_› | exact r9Trim_con ‹_›), ?_⟩; refine go_ ?_))); exact ih0 _ (by omega) _ _ _ _ _ _ _ h)
      | (cases h <;> (repeat (first | refine g6_ ?_ | (refine .inl ⟨_, (by first | exact r9Copy_con ‹_› | exact r4Inverse_con ‹_› | exact r9Trim_con ‹_›), ?_⟩; refine go_ ?_))) <;> (first | done | rfl | trivial | (simp; done) | (exfalso; omega)))
      | (exfalso; omega)
      | (
       (with_reducible have h : r9DivMod.l1 _ _ _ _ _ _ _ _ _ _ = some (r1, r2) := h)
       repeat (first | refine g6_ ?_ | (refine .inl ⟨_, (by first | exact r9Copy_con ‹_› | exact r4Inverse_con ‹_› | exact r9Trim_con ‹_›), ?_⟩; refine go_ ?_))
       refine lp [(0, .keep), (2, .row 3 (.int .i64)), (8, .own 3 (.int .i64)), (9, .keep), (10, .own 3 (.int .i64)), (11, .keep), (12, .keep), (13, .keep), (14, .keep)] fun X1 hX1 => ?_
       refine go_ ?_
       have key : ∀ j, j ≤ k → ∀ x0 x2 x8 x9 x10 x11 x12 x13 x14, r9DivMod.l1 j x0 x2 x8 x9 x10 x11 x12 x13 x14 = some (r1, r2) → X1 ⟨lkp .bot [(14, .ro (.int .i64) x14), (13, .ro (.int .i64) x13), (12, .ro (.int .i64) x12), (11, .ro (.int .i64) x11), (10, .own 20), (9, .ro (.int .i64) x9), (8, .own 16), (2, .ro (.sl 3 (.int .i64)) x2), (0, .ro (.int .i64) x0)], lkp none [(20, some ⟨3, .int .i64, x10, true⟩), (16, some ⟨3, .int .i64, x8, true⟩)], 0⟩ := by
        refine sinb fun k hk1 ih1 x0 x2 x8 x9 x10 x11 x12 x13 x14 h => hX1 _ ?_
        clear hX1
        rcases k with _ | k
        ·cases h
        unfold r9DivMod.l1 at h
        replace h := hs_ h
        refine go_ ?_
        repeat' (first | split at h | (refine bnf h fun t e h => ?_; (repeat (first | refine g6_ ?_)); refine .inl ⟨_, (by first | exact r9Copy_con e | exact r4Inverse_con e | exact r9Trim_con e), ?_⟩; refine go_ ?_) | (refine bnf h fun t e h => ?_; (repeat (first | refine g6_ ?_ | (refine .inl ⟨_, (by first | exact r9Copy_con ‹_› | exact r4Inverse_con ‹_› | exact r9Trim_con ‹_›), ?_⟩; refine go_ ?_))); refine .inl ⟨_, (by first | exact r9Copy_con e | exact r4Inverse_con e | exact r9Trim_con e), ?_⟩; refine go_ ?_) | fail)
        all_goals (first | ((repeat (first | refine g6_ ?_ | (refine .inl ⟨_, (by first | exact r9Copy_con ‹_› | exact r4Inverse_con ‹_› | exact r9Trim_con ‹_›), ?_⟩; refine go_ ?_))); exact ih1 _ (by omega) _ _ _ _ _ _ _ _ _ h) | ((repeat (first | refine g6_ ?_ | (refine .inl ⟨_, (by first | exact r9Copy_con ‹_› | exact r4Inverse_con ‹_› | exact r9Trim_con ‹_›), ?_⟩; refine go_ ?_))); exact ih0 _ (by omega) _ _ _ _ _ _ _ h) | (cases h <;> (repeat (first | refine g6_ ?_ | (refine .inl ⟨_, (by first | exact r9Copy_con ‹_› | exact r4Inverse_con ‹_› | exact r9Trim_con ‹_›), ?_⟩; refine go_ ?_))) <;> (first | done | rfl | trivial | (simp; done) | (exfalso; omega))) | (exfalso; omega))
       exact key _ (by omega) _ _ _ _ _ _ _ _ _ h)
    exact key _ _ _ _ _ _ _ _ h)
theorem r9Mod_con {k : Nat} {a0 : Int} {l1 : List Int} {l2 : List Int} {r : List Int} (h : r9Mod.f k a0 l1 l2 = some r) : Con Tryz.prog 98 [⟨.int .i64, a0⟩, ⟨.sl 3 (.int .i64), l1⟩, ⟨.sl 3 (.int .i64), l2⟩] [(false, ⟨.sl 3 (.int .i64), r⟩)] := by
 refine con_ (ps := [0, 1, 2, 6, 8]) (res := [(6, none)]) ?_ Tryz.func98 Tryz.ntmps98
 refine go_ ?_
 unfold r9Mod.f at h
 replace h := hs_ h
 repeat' (first | split at h | (refine bnf h fun t e h => ?_; (repeat (first | refine g6_ ?_)); refine .inl ⟨_, (by first | exact r9DivMod_con e), ?_⟩; refine go_ ?_) | (refine bnf h fun t e h => ?_; (repeat (first | refine g6_ ?_ | (refine .inl ⟨_, (by first | exact r9DivMod_con ‹_›), ?_⟩; refine go_ ?_))); refine .inl ⟨_, (by first | exact r9DivMod_con e), ?_⟩; refine go_ ?_) | fail)
 all_goals (first | (cases h <;> (repeat (first | refine g6_ ?_ | (refine .inl ⟨_, (by first | exact r9DivMod_con ‹_›), ?_⟩; refine go_ ?_))) <;> (first | done | rfl | trivial | (simp; done) | (exfalso; omega))) | (exfalso; omega))
theorem r9MulMod_con {k : Nat} {a0 : Int} {l1 : List Int} {l2 : List Int} {l3 : List Int} {r : List Int} (h : r9MulMod.f k a0 l1 l2 l3 = some r) : Con Tryz.prog 111 [⟨.int .i64, a0⟩, ⟨.sl 3 (.int .i64), l1⟩, ⟨.sl 3 (.int .i64), l2⟩, ⟨.sl 3 (.int .i64), l3⟩] [(false, ⟨.sl 3 (.int .i64), r⟩)] := by
 refine con_ (ps := [0, 1, 2, 3, 8]) (res := [(8, none)]) ?_ Tryz.func111 Tryz.ntmps111
 refine go_ ?_
 unfold r9MulMod.f at h
 replace h := hs_ h
 repeat' (first | split at h | (refine bnf h fun t e h => ?_; (repeat (first | refine g6_ ?_)); refine .inl ⟨_, (by first | exact r9Mul_con e | exact r9Mod_con e), ?_⟩; refine go_ ?_) | (refine bnf h fun t e h => ?_; (repeat (first | refine g6_ ?_ | (refine .inl ⟨_, (by first | exact r9Mul_con ‹_› | exact r9Mod_con ‹_›), ?_⟩; refine go_ ?_))); refine .inl ⟨_, (by first | exact r9Mul_con e | exact r9Mod_con e), ?_⟩; refine go_ ?_) | fail)
 all_goals (first | (cases h <;> (repeat (first | refine g6_ ?_ | (refine .inl ⟨_, (by first | exact r9Mul_con ‹_› | exact r9Mod_con ‹_›), ?_⟩; refine go_ ?_))) <;> (first | done | rfl | trivial | (simp; done) | (exfalso; omega))) | (exfalso; omega))
theorem r9PowMod_con {k : Nat} {a0 : Int} {l1 : List Int} {a2 : ByteArray} {l3 : List Int} {r : List Int} (h : r9PowMod.f k a0 l1 a2 l3 = some r) : Con Tryz.prog 100 [⟨.int .i64, a0⟩, ⟨.sl 3 (.int .i64), l1⟩, ⟨.str, a2⟩, ⟨.sl 3 (.int .i64), l3⟩] [(false, ⟨.sl 3 (.int .i64), r⟩)] := by
 refine con_ (ps := [0, 1, 2, 3, 8, 9, 10, 11, 23, 27, 41]) (res := [(8, none)]) ?_ Tryz.func100 Tryz.ntmps100
 refine go_ ?_
 unfold r9PowMod.f at h
 replace h := hs_ h
 repeat' (first | split at h | (refine bnf h fun t e h => ?_; (repeat (first | refine g6_ ?_)); refine .inl ⟨_, (by first | exact r9Mod_con e | exact r9MulMod_con e), ?_⟩; refine go_ ?_) | (refine bnf h fun t e h => ?_; (repeat (first | refine g6_ ?_ | (refine .inl ⟨_, (by first | exact r9Mod_con ‹_› | exact r9MulMod_con ‹_›), ?_⟩; refine go_ ?_))); refine .inl ⟨_, (by first | exact r9Mod_con e | exact r9MulMod_con e), ?_⟩; refine go_ ?_) | fail)
 all_goals first
  | (cases h <;> (repeat (first | refine g6_ ?_ | (refine .inl ⟨_, (by first | exact r9Mod_con ‹_› | exact r9MulMod_con ‹_›), ?_⟩; refine go_ ?_))) <;> (first | done | rfl | trivial | (simp; done) | (exfalso; omega)))
  | (exfalso; omega)
  | (
    (with_reducible have h : r9PowMod.l0 _ _ _ _ _ _ _ = some r := h)
    repeat (first | refine g6_ ?_ | (refine .inl ⟨_, (by first | exact r9Mod_con ‹_› | exact r9MulMod_con ‹_›), ?_⟩; refine go_ ?_))
    refine lp [(0, .keep), (1, .row 3 (.int .i64)), (2, .keep), (3, .row 3 (.int .i64)), (9, .row 3 (.int .i64)), (10, .keep)] fun X0 hX0 => ?_
    refine go_ ?_
    have key : ∀ k x0 x1 x2 x3 x9 x10, r9PowMod.l0 k x0 x1 x2 x3 x9 x10 = some r → X0 ⟨lkp .bot [(10, .ro (.int .i64) x10), (9, .ro (.sl 3 (.int .i64)) x9), (3, .ro (.sl 3 (.int .i64)) x3), (2, .ro (.str) x2), (1, .ro (.sl 3 (.int .i64)) x1), (0, .ro (.int .i64) x0)], lkp none [], 0⟩ := by
     refine sind fun k ih0 x0 x1 x2 x3 x9 x10 h => hX0 _ ?_
     clear hX0
     rcases k with _ | k
     ·cases h
     unfold r9PowMod.l0 at h
     replace h := hs_ h
     refine go_ ?_
     repeat' (first | split at h | (refine bnf h fun t e h => ?_; (repeat (first | refine g6_ ?_)); refine .inl ⟨_, (by first | exact r9Mod_con e | exact r9MulMod_con e), ?_⟩; refine go_ ?_) | (refine bnf h fun t e h => ?_; (repeat (first | refine g6_ ?_ | (refine .inl ⟨_, (by first | exact r9Mod_con ‹_› | exact r9MulMod_con ‹_›), ?_⟩; refine go_ ?_))); refine .inl ⟨_, (by first | exact r9Mod_con e | exact r9MulMod_con e), ?_⟩; refine go_ ?_) | fail)
     all_goals first
      | ((repeat (first | refine g6_ ?_ | (refine .inl ⟨_, (by first | exact r9Mod_con ‹_› | exact r9MulMod_con ‹_›), ?_⟩; refine go_ ?_))); exact ih0 _ (by omega) _ _ _ _ _ _ h)
      | (cases h <;> (repeat (first | refine g6_ ?_ | (refine .inl ⟨_, (by first | exact r9Mod_con ‹_› | exact r9MulMod_con ‹_›), ?_⟩; refine go_ ?_))) <;> (first | done | rfl | trivial | (simp; done) | (exfalso; omega)))
      | (exfalso; omega)
      | (
       (with_reducible have h : r9PowMod.l1 _ _ _ _ _ _ _ _ = some r := h)
       repeat (first | refine g6_ ?_ | (refine .inl ⟨_, (by first | exact r9Mod_con ‹_› | exact r9MulMod_con ‹_›), ?_⟩; refine go_ ?_))
       refine lp [(0, .keep), (1, .row 3 (.int .i64)), (2, .keep), (3, .row 3 (.int .i64)), (9, .row 3 (.int .i64)), (10, .keep), (11, .keep)] fun X1 hX1 => ?_
       refine go_ ?_
       have key : ∀ j, j ≤ k → ∀ x0 x1 x2 x3 x9 x10 x11, r9PowMod.l1 j x0 x1 x2 x3 x9 x10 x11 = some r → X1 ⟨lkp .bot [(11, .ro (.int .i64) x11), (10, .ro (.int .i64) x10), (9, .ro (.sl 3 (.int .i64)) x9), (3, .ro (.sl 3 (.int .i64)) x3), (2, .ro (.str) x2), (1, .ro (.sl 3 (.int .i64)) x1), (0, .ro (.int .i64) x0)], lkp none [], 0⟩ := by
        refine sinb fun k hk1 ih1 x0 x1 x2 x3 x9 x10 x11 h => hX1 _ ?_
        clear hX1
        rcases k with _ | k
        ·cases h
        unfold r9PowMod.l1 at h
        replace h := hs_ h
        refine go_ ?_
        repeat' (first | split at h | (refine bnf h fun t e h => ?_; (repeat (first | refine g6_ ?_)); refine .inl ⟨_, (by first | exact r9Mod_con e | exact r9MulMod_con e), ?_⟩; refine go_ ?_) | (refine bnf h fun t e h => ?_; (repeat (first | refine g6_ ?_ | (refine .inl ⟨_, (by first | exact r9Mod_con ‹_› | exact r9MulMod_con ‹_›), ?_⟩; refine go_ ?_))); refine .inl ⟨_, (by first | exact r9Mod_con e | exact r9MulMod_con e), ?_⟩; refine go_ ?_) | fail)
        all_goals (first | ((repeat (first | refine g6_ ?_ | (refine .inl ⟨_, (by first | exact r9Mod_con ‹_› | exact r9MulMod_con ‹_›), ?_⟩; refine go_ ?_))); exact ih1 _ (by omega) _ _ _ _ _ _ _ h) | ((repeat (first | refine g6_ ?_ | (refine .inl ⟨_, (by first | exact r9Mod_con ‹_› | exact r9MulMod_con ‹_›), ?_⟩; refine go_ ?_))); exact ih0 _ (by omega) _ _ _ _ _ _ h) | (cases h <;> (repeat (first | refine g6_ ?_ | (refine .inl ⟨_, (by first | exact r9Mod_con ‹_› | exact r9MulMod_con ‹_›), ?_⟩; refine go_ ?_))) <;> (first | done | rfl | trivial | (simp; done) | (exfalso; omega))) | (exfalso; omega))
       exact key _ (by omega) _ _ _ _ _ _ _ h)
    exact key _ _ _ _ _ _ _ h)
theorem r9Scale_con {k : Nat} {a0 : Int} {l1 : List Int} {a2 : Int} {r : List Int} (h : r9Scale.f k a0 l1 a2 = some r) : Con Tryz.prog 137 [⟨.int .i64, a0⟩, ⟨.sl 3 (.int .i64), l1⟩, ⟨.int .i64, a2⟩] [(false, ⟨.sl 3 (.int .i64), r⟩)] := by
 refine con_ (ps := [0, 1, 2, 6, 7, 8, 17]) (res := [(6, none)]) ?_ Tryz.func137 Tryz.ntmps137
 refine go_ ?_
 unfold r9Scale.f at h
 replace h := hs_ h
 repeat' (first | split at h | (refine bnf h fun t e h => ?_; (repeat (first | refine g6_ ?_)); refine .inl ⟨_, (by first | exact r4Mod_con e | exact r9Copy_con e | exact r9Trim_con e), ?_⟩; refine go_ ?_) | (refine bnf h fun t e h => ?_; (repeat (first | refine g6_ ?_ | (refine .inl ⟨_, (by first | exact r4Mod_con ‹_› | exact r9Copy_con ‹_› | exact r9Trim_con ‹_›), ?_⟩; refine go_ ?_))); refine .inl ⟨_, (by first | exact r4Mod_con e | exact r9Copy_con e | exact r9Trim_con e), ?_⟩; refine go_ ?_) | fail)
 all_goals first
  | (cases h <;> (repeat (first | refine g6_ ?_ | (refine .inl ⟨_, (by first | exact r4Mod_con ‹_› | exact r9Copy_con ‹_› | exact r9Trim_con ‹_›), ?_⟩; refine go_ ?_))) <;> (first | done | rfl | trivial | (simp; done) | (exfalso; omega)))
  | (exfalso; omega)
  | (
    (with_reducible have h : r9Scale.l0 _ _ _ _ _ = some r := h)
    repeat (first | refine g6_ ?_ | (refine .inl ⟨_, (by first | exact r4Mod_con ‹_› | exact r9Copy_con ‹_› | exact r9Trim_con ‹_›), ?_⟩; refine go_ ?_))
    refine lp [(0, .keep), (2, .keep), (7, .own 3 (.int .i64)), (8, .keep)] fun X0 hX0 => ?_
    refine go_ ?_
    have key : ∀ k x0 x2 x7 x8, r9Scale.l0 k x0 x2 x7 x8 = some r → X0 ⟨lkp .bot [(8, .ro (.int .i64) x8), (7, .own 14), (2, .ro (.int .i64) x2), (0, .ro (.int .i64) x0)], lkp none [(14, some ⟨3, .int .i64, x7, true⟩)], 0⟩ := by
     refine sind fun k ih0 x0 x2 x7 x8 h => hX0 _ ?_
     clear hX0
     rcases k with _ | k
     ·cases h
     unfold r9Scale.l0 at h
     replace h := hs_ h
     refine go_ ?_
     repeat' (first | split at h | (refine bnf h fun t e h => ?_; (repeat (first | refine g6_ ?_)); refine .inl ⟨_, (by first | exact r4Mod_con e | exact r9Copy_con e | exact r9Trim_con e), ?_⟩; refine go_ ?_) | (refine bnf h fun t e h => ?_; (repeat (first | refine g6_ ?_ | (refine .inl ⟨_, (by first | exact r4Mod_con ‹_› | exact r9Copy_con ‹_› | exact r9Trim_con ‹_›), ?_⟩; refine go_ ?_))); refine .inl ⟨_, (by first | exact r4Mod_con e | exact r9Copy_con e | exact r9Trim_con e), ?_⟩; refine go_ ?_) | fail)
     all_goals (first | ((repeat (first | refine g6_ ?_ | (refine .inl ⟨_, (by first | exact r4Mod_con ‹_› | exact r9Copy_con ‹_› | exact r9Trim_con ‹_›), ?_⟩; refine go_ ?_))); exact ih0 _ (by omega) _ _ _ _ h) | (cases h <;> (repeat (first | refine g6_ ?_ | (refine .inl ⟨_, (by first | exact r4Mod_con ‹_› | exact r9Copy_con ‹_› | exact r9Trim_con ‹_›), ?_⟩; refine go_ ?_))) <;> (first | done | rfl | trivial | (simp; done) | (exfalso; omega))) | (exfalso; omega))
    exact key _ _ _ _ _ h)
theorem r9Monic_con {k : Nat} {a0 : Int} {l1 : List Int} {r : List Int} (h : r9Monic.f k a0 l1 = some r) : Con Tryz.prog 136 [⟨.int .i64, a0⟩, ⟨.sl 3 (.int .i64), l1⟩] [(false, ⟨.sl 3 (.int .i64), r⟩)] := by
 refine con_ (ps := [0, 1, 4, 7]) (res := [(4, none)]) ?_ Tryz.func136 Tryz.ntmps136
 refine go_ ?_
 unfold r9Monic.f at h
 replace h := hs_ h
 repeat' (first | split at h | (refine bnf h fun t e h => ?_; (repeat (first | refine g6_ ?_)); refine .inl ⟨_, (by first | exact r9Lead_con e | exact r4Inverse_con e | exact r9Scale_con e), ?_⟩; refine go_ ?_) | (refine bnf h fun t e h => ?_; (repeat (first | refine g6_ ?_ | (refine .inl ⟨_, (by first | exact r9Lead_con ‹_› | exact r4Inverse_con ‹_› | exact r9Scale_con ‹_›), ?_⟩; refine go_ ?_))); refine .inl ⟨_, (by first | exact r9Lead_con e | exact r4Inverse_con e | exact r9Scale_con e), ?_⟩; refine go_ ?_) | fail)
 all_goals (first | (cases h <;> (repeat (first | refine g6_ ?_ | (refine .inl ⟨_, (by first | exact r9Lead_con ‹_› | exact r4Inverse_con ‹_› | exact r9Scale_con ‹_›), ?_⟩; refine go_ ?_))) <;> (first | done | rfl | trivial | (simp; done) | (exfalso; omega))) | (exfalso; omega))
theorem r9Gcd_con {k : Nat} {a0 : Int} {l1 : List Int} {l2 : List Int} {r : List Int} (h : r9Gcd.f k a0 l1 l2 = some r) : Con Tryz.prog 101 [⟨.int .i64, a0⟩, ⟨.sl 3 (.int .i64), l1⟩, ⟨.sl 3 (.int .i64), l2⟩] [(false, ⟨.sl 3 (.int .i64), r⟩)] := by
 refine con_ (ps := [0, 1, 2, 6, 9]) (res := [(6, none)]) ?_ Tryz.func101 Tryz.ntmps101
 refine go_ ?_
 unfold r9Gcd.f at h
 replace h := hs_ h
 repeat' (first | split at h | (refine bnf h fun t e h => ?_; (repeat (first | refine g6_ ?_)); refine .inl ⟨_, (by first | exact r9Mod_con e | exact r9Monic_con e), ?_⟩; refine go_ ?_) | (refine bnf h fun t e h => ?_; (repeat (first | refine g6_ ?_ | (refine .inl ⟨_, (by first | exact r9Mod_con ‹_› | exact r9Monic_con ‹_›), ?_⟩; refine go_ ?_))); refine .inl ⟨_, (by first | exact r9Mod_con e | exact r9Monic_con e), ?_⟩; refine go_ ?_) | fail)
 all_goals first
  | (cases h <;> (repeat (first | refine g6_ ?_ | (refine .inl ⟨_, (by first | exact r9Mod_con ‹_› | exact r9Monic_con ‹_›), ?_⟩; refine go_ ?_))) <;> (first | done | rfl | trivial | (simp; done) | (exfalso; omega)))
  | (exfalso; omega)
  | (
    (with_reducible have h : r9Gcd.l0 _ _ _ _ = some r := h)
    repeat (first | refine g6_ ?_ | (refine .inl ⟨_, (by first | exact r9Mod_con ‹_› | exact r9Monic_con ‹_›), ?_⟩; refine go_ ?_))
    refine lp [(0, .keep), (1, .row 3 (.int .i64)), (2, .row 3 (.int .i64))] fun X0 hX0 => ?_
    refine go_ ?_
    have key : ∀ k x0 x1 x2, r9Gcd.l0 k x0 x1 x2 = some r → X0 ⟨lkp .bot [(2, .ro (.sl 3 (.int .i64)) x2), (1, .ro (.sl 3 (.int .i64)) x1), (0, .ro (.int .i64) x0)], lkp none [], 0⟩ := by
     refine sind fun k ih0 x0 x1 x2 h => hX0 _ ?_
     clear hX0
     rcases k with _ | k
     ·cases h
     unfold r9Gcd.l0 at h
     replace h := hs_ h
     refine go_ ?_
     repeat' (first | split at h | (refine bnf h fun t e h => ?_; (repeat (first | refine g6_ ?_)); refine .inl ⟨_, (by first | exact r9Mod_con e | exact r9Monic_con e), ?_⟩; refine go_ ?_) | (refine bnf h fun t e h => ?_; (repeat (first | refine g6_ ?_ | (refine .inl ⟨_, (by first | exact r9Mod_con ‹_› | exact r9Monic_con ‹_›), ?_⟩; refine go_ ?_))); refine .inl ⟨_, (by first | exact r9Mod_con e | exact r9Monic_con e), ?_⟩; refine go_ ?_) | fail)
     all_goals (first | ((repeat (first | refine g6_ ?_ | (refine .inl ⟨_, (by first | exact r9Mod_con ‹_› | exact r9Monic_con ‹_›), ?_⟩; refine go_ ?_))); exact ih0 _ (by omega) _ _ _ h) | (cases h <;> (repeat (first | refine g6_ ?_ | (refine .inl ⟨_, (by first | exact r9Mod_con ‹_› | exact r9Monic_con ‹_›), ?_⟩; refine go_ ?_))) <;> (first | done | rfl | trivial | (simp; done) | (exfalso; omega))) | (exfalso; omega))
    exact key _ _ _ _ h)
theorem r9Add_con {k : Nat} {a0 : Int} {l1 : List Int} {l2 : List Int} {r : List Int} (h : r9Add.f k a0 l1 l2 = some r) : Con Tryz.prog 75 [⟨.int .i64, a0⟩, ⟨.sl 3 (.int .i64), l1⟩, ⟨.sl 3 (.int .i64), l2⟩] [(false, ⟨.sl 3 (.int .i64), r⟩)] := by
 refine con_ (ps := [0, 1, 2, 6, 7, 8, 18, 24, 40]) (res := [(6, none)]) ?_ Tryz.func75 Tryz.ntmps75
 refine go_ ?_
 unfold r9Add.f at h
 replace h := hs_ h
 repeat' (first | split at h | (refine bnf h fun t e h => ?_; (repeat (first | refine g6_ ?_)); refine .inl ⟨_, (by first | exact r9Trim_con e), ?_⟩; refine go_ ?_) | (refine bnf h fun t e h => ?_; (repeat (first | refine g6_ ?_ | (refine .inl ⟨_, (by first | exact r9Trim_con ‹_›), ?_⟩; refine go_ ?_))); refine .inl ⟨_, (by first | exact r9Trim_con e), ?_⟩; refine go_ ?_) | fail)
 all_goals first
  | (cases h <;> (repeat (first | refine g6_ ?_ | (refine .inl ⟨_, (by first | exact r9Trim_con ‹_›), ?_⟩; refine go_ ?_))) <;> (first | done | rfl | trivial | (simp; done) | (exfalso; omega)))
  | (exfalso; omega)
  | (
    (with_reducible have h : r9Add.l0 _ _ _ _ _ _ = some r := h)
    repeat (first | refine g6_ ?_ | (refine .inl ⟨_, (by first | exact r9Trim_con ‹_›), ?_⟩; refine go_ ?_))
    refine lp [(0, .keep), (1, .row 3 (.int .i64)), (2, .row 3 (.int .i64)), (7, .own 3 (.int .i64)), (8, .keep)] fun X0 hX0 => ?_
    refine go_ ?_
    have key : ∀ k x0 x1 x2 x7 x8, r9Add.l0 k x0 x1 x2 x7 x8 = some r → X0 ⟨lkp .bot [(8, .ro (.int .i64) x8), (7, .own 14), (2, .ro (.sl 3 (.int .i64)) x2), (1, .ro (.sl 3 (.int .i64)) x1), (0, .ro (.int .i64) x0)], lkp none [(14, some ⟨3, .int .i64, x7, true⟩)], 0⟩ := by
     refine sind fun k ih0 x0 x1 x2 x7 x8 h => hX0 _ ?_
     clear hX0
     rcases k with _ | k
     ·cases h
     unfold r9Add.l0 at h
     replace h := hs_ h
     refine go_ ?_
     repeat' (first | split at h | (refine bnf h fun t e h => ?_; (repeat (first | refine g6_ ?_)); refine .inl ⟨_, (by first | exact r9Trim_con e), ?_⟩; refine go_ ?_) | (refine bnf h fun t e h => ?_; (repeat (first | refine g6_ ?_ | (refine .inl ⟨_, (by first | exact r9Trim_con ‹_›), ?_⟩; refine go_ ?_))); refine .inl ⟨_, (by first | exact r9Trim_con e), ?_⟩; refine go_ ?_) | fail)
     all_goals (first | ((repeat (first | refine g6_ ?_ | (refine .inl ⟨_, (by first | exact r9Trim_con ‹_›), ?_⟩; refine go_ ?_))); exact ih0 _ (by omega) _ _ _ _ _ h) | (cases h <;> (repeat (first | refine g6_ ?_ | (refine .inl ⟨_, (by first | exact r9Trim_con ‹_›), ?_⟩; refine go_ ?_))) <;> (first | done | rfl | trivial | (simp; done) | (exfalso; omega))) | (exfalso; omega))
    exact key _ _ _ _ _ _ h)
theorem r9Sub_con {k : Nat} {a0 : Int} {l1 : List Int} {l2 : List Int} {r : List Int} (h : r9Sub.f k a0 l1 l2 = some r) : Con Tryz.prog 102 [⟨.int .i64, a0⟩, ⟨.sl 3 (.int .i64), l1⟩, ⟨.sl 3 (.int .i64), l2⟩] [(false, ⟨.sl 3 (.int .i64), r⟩)] := by
 refine con_ (ps := [0, 1, 2, 6]) (res := [(6, none)]) ?_ Tryz.func102 Tryz.ntmps102
 refine go_ ?_
 unfold r9Sub.f at h
 replace h := hs_ h
 repeat' (first | split at h | (refine bnf h fun t e h => ?_; (repeat (first | refine g6_ ?_)); refine .inl ⟨_, (by first | exact r9Scale_con e | exact r9Add_con e), ?_⟩; refine go_ ?_) | (refine bnf h fun t e h => ?_; (repeat (first | refine g6_ ?_ | (refine .inl ⟨_, (by first | exact r9Scale_con ‹_› | exact r9Add_con ‹_›), ?_⟩; refine go_ ?_))); refine .inl ⟨_, (by first | exact r9Scale_con e | exact r9Add_con e), ?_⟩; refine go_ ?_) | fail)
 all_goals (first | (cases h <;> (repeat (first | refine g6_ ?_ | (refine .inl ⟨_, (by first | exact r9Scale_con ‹_› | exact r9Add_con ‹_›), ?_⟩; refine go_ ?_))) <;> (first | done | rfl | trivial | (simp; done) | (exfalso; omega))) | (exfalso; omega))
theorem r1pack_con {k : Nat} {l0 : List Int} {r : ByteArray} (h : r1pack.f k l0 = some r) : Con Tryz.prog 120 [⟨.sl 79 (.int .u64), l0⟩] [(false, ⟨.str, r⟩)] := by
 refine con_ (ps := [0, 2, 3, 4, 5, 6, 11, 15, 31]) (res := [(2, none)]) ?_ Tryz.func120 Tryz.ntmps120
 refine go_ ?_
 unfold r1pack.f at h
 replace h := hs_ h
 repeat' (first | split at h | fail)
 all_goals first
  | (cases h <;> (repeat (first | refine g6_ ?_)) <;> (first | done | rfl | trivial | (simp; done) | (exfalso; omega)))
  | (exfalso; omega)
  | (
    (with_reducible have h : r1pack.l0 _ _ _ _ = some r := h)
    repeat (first | refine g6_ ?_)
    refine lp [(0, .row 79 (.int .u64)), (3, .own 5 (.int .u8)), (4, .keep)] fun X0 hX0 => ?_
    refine go_ ?_
    have key : ∀ k x0 x3 x4, r1pack.l0 k x0 x3 x4 = some r → X0 ⟨lkp .bot [(4, .ro (.int .i64) x4), (3, .own 6), (0, .ro (.sl 79 (.int .u64)) x0)], lkp none [(6, some ⟨5, .int .u8, x3, true⟩)], 0⟩ := by
     refine sind fun k ih0 x0 x3 x4 h => hX0 _ ?_
     clear hX0
     rcases k with _ | k
     ·cases h
     unfold r1pack.l0 at h
     replace h := hs_ h
     refine go_ ?_
     repeat' (first | split at h | fail)
     all_goals first
      | ((repeat (first | refine g6_ ?_)); exact ih0 _ (by omega) _ _ _ h)
      | (cases h <;> (repeat (first | refine g6_ ?_)) <;> (first | done | rfl | trivial | (simp; done) | (exfalso; omega)))
      | (exfalso; omega)
      | (
       (with_reducible have h : r1pack.l1 _ _ _ _ _ = some r := h)
       repeat (first | refine g6_ ?_)
       refine lp [(0, .row 79 (.int .u64)), (3, .own 5 (.int .u8)), (4, .keep), (5, .keep)] fun X1 hX1 => ?_
       refine go_ ?_
       have key : ∀ j, j ≤ k → ∀ x0 x3 x4 x5, r1pack.l1 j x0 x3 x4 x5 = some r → X1 ⟨lkp .bot [(5, .ro (.int .i64) x5), (4, .ro (.int .i64) x4), (3, .own 6), (0, .ro (.sl 79 (.int .u64)) x0)], lkp none [(6, some ⟨5, .int .u8, x3, true⟩)], 0⟩ := by
        refine sinb fun k hk1 ih1 x0 x3 x4 x5 h => hX1 _ ?_
        clear hX1
        rcases k with _ | k
        ·cases h
        unfold r1pack.l1 at h
        replace h := hs_ h
        refine go_ ?_
        repeat' (first | split at h | fail)
        all_goals (first | ((repeat (first | refine g6_ ?_)); exact ih1 _ (by omega) _ _ _ _ h) | ((repeat (first | refine g6_ ?_)); exact ih0 _ (by omega) _ _ _ h) | (cases h <;> (repeat (first | refine g6_ ?_)) <;> (first | done | rfl | trivial | (simp; done) | (exfalso; omega))) | (exfalso; omega))
       exact key _ (by omega) _ _ _ _ h)
    exact key _ _ _ _ h)
theorem r1Of_con {k : Nat} {a0 : Int} {r : ByteArray} (h : r1Of.f k a0 = some r) : Con Tryz.prog 79 [⟨.int .u64, a0⟩] [(false, ⟨.str, r⟩)] := by
 refine con_ (ps := [0, 2]) (res := [(2, none)]) ?_ Tryz.func79 Tryz.ntmps79
 refine go_ ?_
 unfold r1Of.f at h
 replace h := hs_ h
 repeat' (first | split at h | (refine bnf h fun t e h => ?_; (repeat (first | refine g6_ ?_)); refine .inl ⟨_, (by first | exact r1pack_con e), ?_⟩; refine go_ ?_) | (refine bnf h fun t e h => ?_; (repeat (first | refine g6_ ?_ | (refine .inl ⟨_, (by first | exact r1pack_con ‹_›), ?_⟩; refine go_ ?_))); refine .inl ⟨_, (by first | exact r1pack_con e), ?_⟩; refine go_ ?_) | fail)
 all_goals (first | (cases h <;> (repeat (first | refine g6_ ?_ | (refine .inl ⟨_, (by first | exact r1pack_con ‹_›), ?_⟩; refine go_ ?_))) <;> (first | done | rfl | trivial | (simp; done) | (exfalso; omega))) | (exfalso; omega))
theorem r1FromInt_con {k : Nat} {a0 : Int} {r : ByteArray} (h : r1FromInt.f k a0 = some r) : Con Tryz.prog 35 [⟨.int .i64, a0⟩] [(false, ⟨.str, r⟩)] := by
 refine con_ (ps := [0, 2]) (res := [(2, none)]) ?_ Tryz.func35 Tryz.ntmps35
 refine go_ ?_
 unfold r1FromInt.f at h
 replace h := hs_ h
 repeat' (first | split at h | (refine bnf h fun t e h => ?_; (repeat (first | refine g6_ ?_)); refine .inl ⟨_, (by first | exact r1Of_con e), ?_⟩; refine go_ ?_) | (refine bnf h fun t e h => ?_; (repeat (first | refine g6_ ?_ | (refine .inl ⟨_, (by first | exact r1Of_con ‹_›), ?_⟩; refine go_ ?_))); refine .inl ⟨_, (by first | exact r1Of_con e), ?_⟩; refine go_ ?_) | fail)
 all_goals (first | (cases h <;> (repeat (first | refine g6_ ?_ | (refine .inl ⟨_, (by first | exact r1Of_con ‹_›), ?_⟩; refine go_ ?_))) <;> (first | done | rfl | trivial | (simp; done) | (exfalso; omega))) | (exfalso; omega))
theorem r9X_con  {r : List Int} (h : r9X.f = some r) : Con Tryz.prog 99 [] [(false, ⟨.sl 3 (.int .i64), r⟩)] := by
 refine con_ (ps := [0]) (res := [(0, none)]) ?_ Tryz.func99 Tryz.ntmps99
 refine go_ ?_
 unfold r9X.f at h
 replace h := hs_ h
 repeat' (first | split at h | fail)
 all_goals (first | (cases h <;> (repeat (first | refine g6_ ?_)) <;> (first | done | rfl | trivial | (simp; done) | (exfalso; omega))) | (exfalso; omega))
theorem r9IsIrreducible_con {k : Nat} {a0 : Int} {l1 : List Int} {r : Bool} (h : r9IsIrreducible.f k a0 l1 = some r) : Con Tryz.prog 53 [⟨.int .i64, a0⟩, ⟨.sl 3 (.int .i64), l1⟩] [(false, ⟨.bool, r⟩)] := by
 refine con_ (ps := [0, 1, 4, 5, 6, 9, 19, 36]) (res := [(4, none)]) ?_ Tryz.func53 Tryz.ntmps53
 refine go_ ?_
 unfold r9IsIrreducible.f at h
 replace h := hs_ h
 repeat' (first | split at h | (refine bnf h fun t e h => ?_; (repeat (first | refine g6_ ?_)); refine .inl ⟨_, (by first | exact r9X_con e | exact r9Mod_con e | exact r1FromInt_con e | exact r9PowMod_con e | exact r9Sub_con e | exact r9Gcd_con e), ?_⟩; refine go_ ?_) | (refine bnf h fun t e h => ?_; (repeat (first | refine g6_ ?_ | (refine .inl ⟨_, (by first | exact r9X_con ‹_› | exact r9Mod_con ‹_› | exact r1FromInt_con ‹_› | exact r9PowMod_con ‹_› | exact r9Sub_con ‹_› | exact r9Gcd_con ‹_›), ?_⟩; refine go_ ?_))); refine .inl ⟨_, (by first | exact r9X_con e | exact r9Mod_con e | exact r1FromInt_con e | exact r9PowMod_con e | exact r9Sub_con e | exact r9Gcd_con e), ?_⟩; refine go_ ?_) | fail)
 all_goals first
  | (cases h <;> (repeat (first | refine g6_ ?_ | (refine .inl ⟨_, (by first | exact r9X_con ‹_› | exact r9Mod_con ‹_› | exact r1FromInt_con ‹_› | exact r9PowMod_con ‹_› | exact r9Sub_con ‹_› | exact r9Gcd_con ‹_›), ?_⟩; refine go_ ?_))) <;> (first | done | rfl | trivial | (simp; done) | (exfalso; omega)))
  | (exfalso; omega)
  | (
    (with_reducible have h : r9IsIrreducible.l0 _ _ _ _ _ = some r := h)
    repeat (first | refine g6_ ?_ | (refine .inl ⟨_, (by first | exact r9X_con ‹_› | exact r9Mod_con ‹_› | exact r1FromInt_con ‹_› | exact r9PowMod_con ‹_› | exact r9Sub_con ‹_› | exact r9Gcd_con ‹_›), ?_⟩; refine go_ ?_))
    refine lp [(0, .keep), (1, .row 3 (.int .i64)), (5, .row 3 (.int .i64)), (6, .keep)] fun X0 hX0 => ?_
    refine go_ ?_
    have key : ∀ k x0 x1 x5 x6, r9IsIrreducible.l0 k x0 x1 x5 x6 = some r → X0 ⟨lkp .bot [(6, .ro (.int .i64) x6), (5, .ro (.sl 3 (.int .i64)) x5), (1, .ro (.sl 3 (.int .i64)) x1), (0, .ro (.int .i64) x0)], lkp none [], 0⟩ := by
     refine sind fun k ih0 x0 x1 x5 x6 h => hX0 _ ?_
     clear hX0
     rcases k with _ | k
     ·cases h
     unfold r9IsIrreducible.l0 at h
     replace h := hs_ h
     refine go_ ?_
     repeat' (first | split at h | (refine bnf h fun t e h => ?_; (repeat (first | refine g6_ ?_)); refine .inl ⟨_, (by first | exact r9X_con e | exact r9Mod_con e | exact r1FromInt_con e | exact r9PowMod_con e | exact r9Sub_con e | exact r9Gcd_con e), ?_⟩; refine go_ ?_) | (refine bnf h fun t e h => ?_; (repeat (first | refine g6_ ?_ | (refine .inl ⟨_, (by first | exact r9X_con ‹_› | exact r9Mod_con ‹_› | exact r1FromInt_con ‹_› | exact r9PowMod_con ‹_› | exact r9Sub_con ‹_› | exact r9Gcd_con ‹_›), ?_⟩; refine go_ ?_))); refine .inl ⟨_, (by first | exact r9X_con e | exact r9Mod_con e | exact r1FromInt_con e | exact r9PowMod_con e | exact r9Sub_con e | exact r9Gcd_con e), ?_⟩; refine go_ ?_) | fail)
     all_goals (first | ((repeat (first | refine g6_ ?_ | (refine .inl ⟨_, (by first | exact r9X_con ‹_› | exact r9Mod_con ‹_› | exact r1FromInt_con ‹_› | exact r9PowMod_con ‹_› | exact r9Sub_con ‹_› | exact r9Gcd_con ‹_›), ?_⟩; refine go_ ?_))); exact ih0 _ (by omega) _ _ _ _ h) | (cases h <;> (repeat (first | refine g6_ ?_ | (refine .inl ⟨_, (by first | exact r9X_con ‹_› | exact r9Mod_con ‹_› | exact r1FromInt_con ‹_› | exact r9PowMod_con ‹_› | exact r9Sub_con ‹_› | exact r9Gcd_con ‹_›), ?_⟩; refine go_ ?_))) <;> (first | done | rfl | trivial | (simp; done) | (exfalso; omega))) | (exfalso; omega))
    exact key _ _ _ _ _ h)
theorem r15Check_con {k : Nat} {a0_0 : Int} {l0_1 : List Int} {r : Int} (h : r15Check.f k a0_0 l0_1 = some r) : Con Tryz.prog 11 [⟨.pr (.int .i64) (.pr (.sl 3 (.int .i64)) (.un)), (a0_0, (l0_1, ()))⟩] [(false, ⟨.int .i64, r⟩)] := by
 refine con_ (ps := [0, 1, 2, 3, 9, 13, 18, 29]) (res := [(2, none)]) ?_ Tryz.func11 Tryz.ntmps11
 refine go_ ?_
 unfold r15Check.f at h
 replace h := hs_ h
 repeat' (first | split at h | (refine bnf h fun t e h => ?_; (repeat (first | refine g6_ ?_)); refine .inl ⟨_, (by first | exact r9Check_con e | exact r9Lead_con e | exact r9IsIrreducible_con e), ?_⟩; refine go_ ?_) | (refine bnf h fun t e h => ?_; (repeat (first | refine g6_ ?_ | (refine .inl ⟨_, (by first | exact r9Check_con ‹_› | exact r9Lead_con ‹_› | exact r9IsIrreducible_con ‹_›), ?_⟩; refine go_ ?_))); refine .inl ⟨_, (by first | exact r9Check_con e | exact r9Lead_con e | exact r9IsIrreducible_con e), ?_⟩; refine go_ ?_) | (rcases k with _ | k; (· cases h); unfold r15Check.j0 at h; replace h := hs_ h) | fail)
 all_goals (first | (cases h <;> (repeat (first | refine g6_ ?_ | (refine .inl ⟨_, (by first | exact r9Check_con ‹_› | exact r9Lead_con ‹_› | exact r9IsIrreducible_con ‹_›), ?_⟩; refine go_ ?_))) <;> (first | done | rfl | trivial | (simp; done) | (exfalso; omega))) | (exfalso; omega))
theorem r15CheckElement_con {k : Nat} {a0_0 : Int} {l0_1 : List Int} {l1 : List Int} {r : Int} (h : r15CheckElement.f k a0_0 l0_1 l1 = some r) : Con Tryz.prog 62 [⟨.pr (.int .i64) (.pr (.sl 3 (.int .i64)) (.un)), (a0_0, (l0_1, ()))⟩, ⟨.sl 3 (.int .i64), l1⟩] [(false, ⟨.int .i64, r⟩)] := by
 refine con_ (ps := [0, 1, 2, 4, 7]) (res := [(4, none)]) ?_ Tryz.func62 Tryz.ntmps62
 refine go_ ?_
 unfold r15CheckElement.f at h
 replace h := hs_ h
 repeat' (first | split at h | (refine bnf h fun t e h => ?_; (repeat (first | refine g6_ ?_)); refine .inl ⟨_, (by first | exact r15Check_con e | exact r15Member_con e), ?_⟩; refine go_ ?_) | (refine bnf h fun t e h => ?_; (repeat (first | refine g6_ ?_ | (refine .inl ⟨_, (by first | exact r15Check_con ‹_› | exact r15Member_con ‹_›), ?_⟩; refine go_ ?_))); refine .inl ⟨_, (by first | exact r15Check_con e | exact r15Member_con e), ?_⟩; refine go_ ?_) | fail)
 all_goals (first | (cases h <;> (repeat (first | refine g6_ ?_ | (refine .inl ⟨_, (by first | exact r15Check_con ‹_› | exact r15Member_con ‹_›), ?_⟩; refine go_ ?_))) <;> (first | done | rfl | trivial | (simp; done) | (exfalso; omega))) | (exfalso; omega))
end Go.Proofs.YtillaipaanancaaGreat.Q
end

/- Machine side and arithmetic of the law, put together by a program of the session. No conditions. -/
import Derived.Test.YtillaipaanancaaGreatKdj18
import Derived.Test.YtillaipaanancaaGreatKdj19
import Derived.Test.YtillaipaanancaaGreatKdj25
import Derived.Test.YtillaipaanancaaGreatKdj26
section
set_option linter.unusedVariables false
set_option maxRecDepth 100000
set_option maxHeartbeats 8000000
namespace Go.Proofs.YtillaipaanancaaGreat.Q
open Go.RowKit Go.TT Go.Proofs.YtillaipaanancaaGreatW.PrintWords
theorem fi_check_con {k : Nat} {a0_0 : Int} {l0_1 : List Int} {l1 : List (List Int)} {r : Int} (h : fi_check.f k a0_0 l0_1 l1 = some r) : Con Tryz.prog 76 [⟨.pr (.int .i64) (.pr (.sl 3 (.int .i64)) (.un)), (a0_0, (l0_1, ()))⟩, ⟨.sl 23 (.sl 3 (.int .i64)), l1⟩] [(false, ⟨.int .i64, r⟩)] := by
 refine con_ (ps := [0, 1, 2, 4, 5, 7, 8, 12, 14, 15, 16, 17, 24]) (res := [(4, none)]) ?_ Tryz.func76 Tryz.ntmps76
 refine go_ ?_
 unfold fi_check.f at h
 replace h := hs_ h
 repeat' (first | split at h | (refine bnf h fun t e h => ?_; (repeat (first | refine g6_ ?_)); refine .inl ⟨_, (by first | exact fi_Check_con e | exact fi_element_con e), ?_⟩; refine go_ ?_) | (refine bnf h fun t e h => ?_; (repeat (first | refine g6_ ?_ | (refine .inl ⟨_, (by first | exact fi_Check_con ‹_› | exact fi_element_con ‹_›), ?_⟩; refine go_ ?_))); refine .inl ⟨_, (by first | exact fi_Check_con e | exact fi_element_con e), ?_⟩; refine go_ ?_) | fail)
 all_goals first
  | (cases h <;> (repeat (first | refine g6_ ?_ | (refine .inl ⟨_, (by first | exact fi_Check_con ‹_› | exact fi_element_con ‹_›), ?_⟩; refine go_ ?_))) <;> (first | done | rfl | trivial | (simp; done) | (exfalso; omega)))
  | (exfalso; omega)
  | (
    (with_reducible have h : fi_check.l0 _ _ _ _ _ _ = some r := h)
    repeat (first | refine g6_ ?_ | (refine .inl ⟨_, (by first | exact fi_Check_con ‹_› | exact fi_element_con ‹_›), ?_⟩; refine go_ ?_))
    refine lp [(14, .row 23 (.sl 3 (.int .i64))), (15, .keep), (16, .keep), (2, .box)] fun X0 hX0 => ?_
    refine go_ ?_
    have key : ∀ k x14 x15 x16 x102000 x102001, fi_check.l0 k x14 x15 x16 x102000 x102001 = some r → X0 ⟨lkp .bot [(2, .ptr 4 0 []), (16, .ro (.int .i64) x16), (15, .ro (.int .i64) x15), (14, .ro (.sl 23 (.sl 3 (.int .i64))) x14)], lkp none [(4, some ⟨25, .pr (.int .i64) (.pr (.sl 3 (.int .i64)) (.un)), [(x102000, (x102001, ()))], true⟩)], 0⟩ := by
     refine sind fun k ih0 x14 x15 x16 x102000 x102001 h => hX0 _ ?_
     clear hX0
     rcases k with _ | k
     ·cases h
     unfold fi_check.l0 at h
     replace h := hs_ h
     refine go_ ?_
     repeat' (first | split at h | (refine bnf h fun t e h => ?_; (repeat (first | refine g6_ ?_)); refine .inl ⟨_, (by first | exact fi_Check_con e | exact fi_element_con e), ?_⟩; refine go_ ?_) | (refine bnf h fun t e h => ?_; (repeat (first | refine g6_ ?_ | (refine .inl ⟨_, (by first | exact fi_Check_con ‹_› | exact fi_element_con ‹_›), ?_⟩; refine go_ ?_))); refine .inl ⟨_, (by first | exact fi_Check_con e | exact fi_element_con e), ?_⟩; refine go_ ?_) | fail)
     all_goals (first | ((repeat (first | refine g6_ ?_ | (refine .inl ⟨_, (by first | exact fi_Check_con ‹_› | exact fi_element_con ‹_›), ?_⟩; refine go_ ?_))); exact ih0 _ (by omega) _ _ _ _ _ h) | (cases h <;> (repeat (first | refine g6_ ?_ | (refine .inl ⟨_, (by first | exact fi_Check_con ‹_› | exact fi_element_con ‹_›), ?_⟩; refine go_ ?_))) <;> (first | done | rfl | trivial | (simp; done) | (exfalso; omega))) | (exfalso; omega))
    exact key _ _ _ _ _ _ h)
theorem natural_Check_con {k : Nat} {a0 : ByteArray} {r : Int} (h : natural_Check.f k a0 = some r) : Con Tryz.prog 77 [⟨.str, a0⟩] [(false, ⟨.int .i64, r⟩)] := by
 refine con_ (ps := [0, 2, 10, 13]) (res := [(2, none)]) ?_ Tryz.func77 Tryz.ntmps77
 refine go_ ?_
 unfold natural_Check.f at h
 replace h := hs_ h
 repeat' (first | split at h | (rcases k with _ | k; (· cases h); unfold natural_Check.j0 at h; replace h := hs_ h) | fail)
 all_goals (first | (cases h <;> (repeat (first | refine g6_ ?_)) <;> (first | done | rfl | trivial | (simp; done) | (exfalso; omega))) | (exfalso; omega))
theorem gFPowNat_con {k : Nat} {a0_0 : Int} {l0_1 : List Int} {l1 : List Int} {a2 : ByteArray} {r : List Int} (h : gFPowNat.f k a0_0 l0_1 l1 a2 = some r) : Con Tryz.prog 78 [⟨.pr (.pr (.int .i64) (.pr (.sl 3 (.int .i64)) (.un))) (.un), ((a0_0, (l0_1, ())), ())⟩, ⟨.sl 3 (.int .i64), l1⟩, ⟨.str, a2⟩] [(false, ⟨.sl 3 (.int .i64), r⟩)] := by
 refine con_ (ps := [0, 1, 2, 3, 6]) (res := [(6, none)]) ?_ Tryz.func78 Tryz.ntmps78
 refine go_ ?_
 unfold gFPowNat.f at h
 replace h := hs_ h
 repeat' (first | split at h | (refine bnf h fun t e h => ?_; (repeat (first | refine g6_ ?_)); refine .inl ⟨_, (by first | exact fp_PowMod_con e), ?_⟩; refine go_ ?_) | (refine bnf h fun t e h => ?_; (repeat (first | refine g6_ ?_ | (refine .inl ⟨_, (by first | exact fp_PowMod_con ‹_›), ?_⟩; refine go_ ?_))); refine .inl ⟨_, (by first | exact fp_PowMod_con e), ?_⟩; refine go_ ?_) | fail)
 all_goals (first | (cases h <;> (repeat (first | refine g6_ ?_ | (refine .inl ⟨_, (by first | exact fp_PowMod_con ‹_›), ?_⟩; refine go_ ?_))) <;> (first | done | rfl | trivial | (simp; done) | (exfalso; omega))) | (exfalso; omega))
theorem fi_Pow_con {k : Nat} {a0_0 : Int} {l0_1 : List Int} {l1 : List Int} {a2 : ByteArray} {r1 : List Int} {r2 : Int} (h : fi_Pow.f k a0_0 l0_1 l1 a2 = some (r1, r2)) : Con Tryz.prog 34 [⟨.pr (.int .i64) (.pr (.sl 3 (.int .i64)) (.un)), (a0_0, (l0_1, ()))⟩, ⟨.sl 3 (.int .i64), l1⟩, ⟨.str, a2⟩] [(false, ⟨.sl 3 (.int .i64), r1⟩), (false, ⟨.int .i64, r2⟩)] := by
 refine con_ (ps := [0, 1, 2, 3, 6, 7, 8, 9, 15, 20]) (res := [(6, none), (7, none)]) ?_ Tryz.func34 Tryz.ntmps34
 refine go_ ?_
 unfold fi_Pow.f at h
 replace h := hs_ h
 repeat' (first | split at h | (refine bnf h fun t e h => ?_; (repeat (first | refine g6_ ?_)); refine .inl ⟨_, (by first | exact fi_check_con e | exact natural_Check_con e | exact gFPowNat_con e), ?_⟩; refine go_ ?_) | (refine bnf h fun t e h => ?_; (repeat (first | refine g6_ ?_ | (refine .inl ⟨_, (by first | exact fi_check_con ‹_› | exact natural_Check_con ‹_› | exact gFPowNat_con ‹_›), ?_⟩; refine go_ ?_))); refine .inl ⟨_, (by first | exact fi_check_con e | exact natural_Check_con e | exact gFPowNat_con e), ?_⟩; refine go_ ?_) | fail)
 all_goals (first | (cases h <;> (repeat (first | refine g6_ ?_ | (refine .inl ⟨_, (by first | exact fi_check_con ‹_› | exact natural_Check_con ‹_› | exact gFPowNat_con ‹_›), ?_⟩; refine go_ ?_))) <;> (first | done | rfl | trivial | (simp; done) | (exfalso; omega))) | (exfalso; omega))
theorem fi_Add_con {k : Nat} {a0_0 : Int} {l0_1 : List Int} {l1 : List Int} {l2 : List Int} {r1 : List Int} {r2 : Int} (h : fi_Add.f k a0_0 l0_1 l1 l2 = some (r1, r2)) : Con Tryz.prog 43 [⟨.pr (.int .i64) (.pr (.sl 3 (.int .i64)) (.un)), (a0_0, (l0_1, ()))⟩, ⟨.sl 3 (.int .i64), l1⟩, ⟨.sl 3 (.int .i64), l2⟩] [(false, ⟨.sl 3 (.int .i64), r1⟩), (false, ⟨.int .i64, r2⟩)] := by
 refine con_ (ps := [0, 1, 2, 3, 6, 7, 8, 15]) (res := [(6, none), (7, none)]) ?_ Tryz.func43 Tryz.ntmps43
 refine go_ ?_
 unfold fi_Add.f at h
 replace h := hs_ h
 repeat' (first | split at h | (refine bnf h fun t e h => ?_; (repeat (first | refine g6_ ?_)); refine .inl ⟨_, (by first | exact fi_check_con e | exact fp_Add_con e), ?_⟩; refine go_ ?_) | (refine bnf h fun t e h => ?_; (repeat (first | refine g6_ ?_ | (refine .inl ⟨_, (by first | exact fi_check_con ‹_› | exact fp_Add_con ‹_›), ?_⟩; refine go_ ?_))); refine .inl ⟨_, (by first | exact fi_check_con e | exact fp_Add_con e), ?_⟩; refine go_ ?_) | fail)
 all_goals (first | (cases h <;> (repeat (first | refine g6_ ?_ | (refine .inl ⟨_, (by first | exact fi_check_con ‹_› | exact fp_Add_con ‹_›), ?_⟩; refine go_ ?_))) <;> (first | done | rfl | trivial | (simp; done) | (exfalso; omega))) | (exfalso; omega))
end Go.Proofs.YtillaipaanancaaGreat.Q
end

/- Machine side and arithmetic of the law, put together by a program of the session. No conditions. -/
import Derived.Test.YtillaipaanancaaGreatKdr17
import Derived.Test.YtillaipaanancaaGreatKdr18
import Derived.Test.YtillaipaanancaaGreatKdr24
import Derived.Test.YtillaipaanancaaGreatKdr25
section
set_option linter.unusedVariables false
set_option maxRecDepth 100000
set_option maxHeartbeats 8000000
namespace Go.Proofs.YtillaipaanancaaGreat.Q
open Go.RowKit Go.TT Go.Proofs.YtillaipaanancaaGreatW.PrintWords
theorem r18CheckSmall_con {k : Nat} {a0_0 : Int} {l0_1 : List Int} {l1 : List Int} {l2 : List Int} {a3 : Int} {r : Int} (h : r18CheckSmall.f k a0_0 l0_1 l1 l2 a3 = some r) : Con Tryz.prog 15 [⟨.pr (.int .i64) (.pr (.sl 3 (.int .i64)) (.un)), (a0_0, (l0_1, ()))⟩, ⟨.sl 3 (.int .i64), l1⟩, ⟨.sl 3 (.int .i64), l2⟩, ⟨.int .i64, a3⟩] [(false, ⟨.int .i64, r⟩)] := by
 refine con_ (ps := [0, 1, 2, 3, 4, 8, 9, 14, 30]) (res := [(8, none)]) ?_ Tryz.func15 Tryz.ntmps15
 refine go_ ?_
 unfold r18CheckSmall.f at h
 replace h := hs_ h
 repeat' (first | split at h | (refine bnf h fun t e h => ?_; (repeat (first | refine g6_ ?_)); refine .inl ⟨_, (by first | exact r15CheckElement_con e | exact r15Member_con e | exact r15Size_con e), ?_⟩; refine go_ ?_) | (refine bnf h fun t e h => ?_; (repeat (first | refine g6_ ?_ | (refine .inl ⟨_, (by first | exact r15CheckElement_con ‹_› | exact r15Member_con ‹_› | exact r15Size_con ‹_›), ?_⟩; refine go_ ?_))); refine .inl ⟨_, (by first | exact r15CheckElement_con e | exact r15Member_con e | exact r15Size_con e), ?_⟩; refine go_ ?_) | (rcases k with _ | k; (· cases h); unfold r18CheckSmall.j0 at h; replace h := hs_ h) | fail)
 all_goals (first | (cases h <;> (repeat (first | refine g6_ ?_ | (refine .inl ⟨_, (by first | exact r15CheckElement_con ‹_› | exact r15Member_con ‹_› | exact r15Size_con ‹_›), ?_⟩; refine go_ ?_))) <;> (first | done | rfl | trivial | (simp; done) | (exfalso; omega))) | (exfalso; omega))
theorem r15Few_con {k : Nat} {a0_0 : Int} {l0_1 : List Int} {a1 : Int} {r : Bool} (h : r15Few.f k a0_0 l0_1 a1 = some r) : Con Tryz.prog 12 [⟨.pr (.int .i64) (.pr (.sl 3 (.int .i64)) (.un)), (a0_0, (l0_1, ()))⟩, ⟨.int .i64, a1⟩] [(false, ⟨.bool, r⟩)] := by
 refine con_ (ps := [0, 1, 2, 4]) (res := [(4, none)]) ?_ Tryz.func12 Tryz.ntmps12
 refine go_ ?_
 unfold r15Few.f at h
 replace h := hs_ h
 repeat' (first | split at h | (refine bnf h fun t e h => ?_; (repeat (first | refine g6_ ?_)); refine .inl ⟨_, (by first | exact r15Check_con e | exact r15Size_con e), ?_⟩; refine go_ ?_) | (refine bnf h fun t e h => ?_; (repeat (first | refine g6_ ?_ | (refine .inl ⟨_, (by first | exact r15Check_con ‹_› | exact r15Size_con ‹_›), ?_⟩; refine go_ ?_))); refine .inl ⟨_, (by first | exact r15Check_con e | exact r15Size_con e), ?_⟩; refine go_ ?_) | fail)
 all_goals (first | (cases h <;> (repeat (first | refine g6_ ?_ | (refine .inl ⟨_, (by first | exact r15Check_con ‹_› | exact r15Size_con ‹_›), ?_⟩; refine go_ ?_))) <;> (first | done | rfl | trivial | (simp; done) | (exfalso; omega))) | (exfalso; omega))
theorem l18light_con {k : Nat} {a0_0 : Int} {l0_1 : List Int} {r : Bool} (h : l18light.f k a0_0 l0_1 = some r) : Con Tryz.prog 19 [⟨.pr (.int .i64) (.pr (.sl 3 (.int .i64)) (.un)), (a0_0, (l0_1, ()))⟩] [(false, ⟨.bool, r⟩)] := by
 refine con_ (ps := [0, 1, 2, 6]) (res := [(2, none)]) ?_ Tryz.func19 Tryz.ntmps19
 refine go_ ?_
 unfold l18light.f at h
 replace h := hs_ h
 repeat' (first | split at h | (refine bnf h fun t e h => ?_; (repeat (first | refine g6_ ?_)); refine .inl ⟨_, (by first | exact r15Check_con e | exact r15Few_con e), ?_⟩; refine go_ ?_) | (refine bnf h fun t e h => ?_; (repeat (first | refine g6_ ?_ | (refine .inl ⟨_, (by first | exact r15Check_con ‹_› | exact r15Few_con ‹_›), ?_⟩; refine go_ ?_))); refine .inl ⟨_, (by first | exact r15Check_con e | exact r15Few_con e), ?_⟩; refine go_ ?_) | fail)
 all_goals (first | (cases h <;> (repeat (first | refine g6_ ?_ | (refine .inl ⟨_, (by first | exact r15Check_con ‹_› | exact r15Few_con ‹_›), ?_⟩; refine go_ ?_))) <;> (first | done | rfl | trivial | (simp; done) | (exfalso; omega))) | (exfalso; omega))
theorem r18Cosets_con {k : Nat} {a0_0 : Int} {l0_1 : List Int} {r : List (List Int)} (h : r18Cosets.f k a0_0 l0_1 = some r) : Con Tryz.prog 22 [⟨.pr (.int .i64) (.pr (.sl 3 (.int .i64)) (.un)), (a0_0, (l0_1, ()))⟩] [(false, ⟨.sl 22 (.sl 3 (.int .i64)), r⟩)] := by
 refine con_ (ps := [0, 1, 2, 3, 4, 5, 6, 7, 8, 16, 22, 28]) (res := [(2, none)]) ?_ Tryz.func22 Tryz.ntmps22
 refine go_ ?_
 unfold r18Cosets.f at h
 replace h := hs_ h
 repeat' (first | split at h | (refine bnf h fun t e h => ?_; (repeat (first | refine g6_ ?_)); refine .inl ⟨_, (by first | exact r15Size_con e), ?_⟩; refine go_ ?_) | (refine bnf h fun t e h => ?_; (repeat (first | refine g6_ ?_ | (refine .inl ⟨_, (by first | exact r15Size_con ‹_›), ?_⟩; refine go_ ?_))); refine .inl ⟨_, (by first | exact r15Size_con e), ?_⟩; refine go_ ?_) | fail)
 all_goals first
  | (cases h <;> (repeat (first | refine g6_ ?_ | (refine .inl ⟨_, (by first | exact r15Size_con ‹_›), ?_⟩; refine go_ ?_))) <;> (first | done | rfl | trivial | (simp; done) | (exfalso; omega)))
  | (exfalso; omega)
  | (
    (with_reducible have h : r18Cosets.l0 _ _ _ _ _ _ _ = some r := h)
    repeat (first | refine g6_ ?_ | (refine .inl ⟨_, (by first | exact r15Size_con ‹_›), ?_⟩; refine go_ ?_))
    refine lp [(3, .own 22 (.sl 3 (.int .i64))), (4, .keep), (5, .own 4 (.bool)), (6, .keep), (1, .box)] fun X0 hX0 => ?_
    refine go_ ?_
    have key : ∀ k x3 x4 x5 x6 x102000 x102001, r18Cosets.l0 k x3 x4 x5 x6 x102000 x102001 = some r → X0 ⟨lkp .bot [(1, .ptr 2 0 []), (6, .ro (.int .i64) x6), (5, .own 10), (4, .ro (.int .i64) x4), (3, .own 6)], lkp none [(2, some ⟨25, .pr (.int .i64) (.pr (.sl 3 (.int .i64)) (.un)), [(x102000, (x102001, ()))], true⟩), (10, some ⟨4, .bool, x5, true⟩), (6, some ⟨22, .sl 3 (.int .i64), x3, true⟩)], 0⟩ := by
     refine sind fun k ih0 x3 x4 x5 x6 x102000 x102001 h => hX0 _ ?_
     clear hX0
     rcases k with _ | k
     ·cases h
     unfold r18Cosets.l0 at h
     replace h := hs_ h
     refine go_ ?_
     repeat' (first | split at h | (refine bnf h fun t e h => ?_; (repeat (first | refine g6_ ?_)); refine .inl ⟨_, (by first | exact r15Size_con e), ?_⟩; refine go_ ?_) | (refine bnf h fun t e h => ?_; (repeat (first | refine g6_ ?_ | (refine .inl ⟨_, (by first | exact r15Size_con ‹_›), ?_⟩; refine go_ ?_))); refine .inl ⟨_, (by first | exact r15Size_con e), ?_⟩; refine go_ ?_) | fail)
     all_goals first
      | ((repeat (first | refine g6_ ?_ | (refine .inl ⟨_, (by first | exact r15Size_con ‹_›), ?_⟩; refine go_ ?_))); exact ih0 _ (by omega) _ _ _ _ _ _ h)
      | (cases h <;> (repeat (first | refine g6_ ?_ | (refine .inl ⟨_, (by first | exact r15Size_con ‹_›), ?_⟩; refine go_ ?_))) <;> (first | done | rfl | trivial | (simp; done) | (exfalso; omega)))
      | (exfalso; omega)
      | (
       (with_reducible have h : r18Cosets.l1 _ _ _ _ _ _ _ _ _ = some r := h)
       repeat (first | refine g6_ ?_ | (refine .inl ⟨_, (by first | exact r15Size_con ‹_›), ?_⟩; refine go_ ?_))
       refine lp [(3, .own 22 (.sl 3 (.int .i64))), (4, .keep), (5, .own 4 (.bool)), (6, .keep), (7, .own 3 (.int .i64)), (8, .keep), (1, .box)] fun X1 hX1 => ?_
       refine go_ ?_
       have key : ∀ j, j ≤ k → ∀ x3 x4 x5 x6 x7 x8 x102000 x102001, r18Cosets.l1 j x3 x4 x5 x6 x7 x8 x102000 x102001 = some r → X1 ⟨lkp .bot [(1, .ptr 2 0 []), (8, .ro (.int .i64) x8), (7, .own 14), (6, .ro (.int .i64) x6), (5, .own 10), (4, .ro (.int .i64) x4), (3, .own 6)], lkp none [(2, some ⟨25, .pr (.int .i64) (.pr (.sl 3 (.int .i64)) (.un)), [(x102000, (x102001, ()))], true⟩), (14, some ⟨3, .int .i64, x7, true⟩), (10, some ⟨4, .bool, x5, true⟩), (6, some ⟨22, .sl 3 (.int .i64), x3, true⟩)], 0⟩ := by
        refine sinb fun k hk1 ih1 x3 x4 x5 x6 x7 x8 x102000 x102001 h => hX1 _ ?_
        clear hX1
        rcases k with _ | k
        ·cases h
        unfold r18Cosets.l1 at h
        replace h := hs_ h
        refine go_ ?_
        repeat' (first | split at h | (refine bnf h fun t e h => ?_; (repeat (first | refine g6_ ?_)); refine .inl ⟨_, (by first | exact r15Size_con e), ?_⟩; refine go_ ?_) | (refine bnf h fun t e h => ?_; (repeat (first | refine g6_ ?_ | (refine .inl ⟨_, (by first | exact r15Size_con ‹_›), ?_⟩; refine go_ ?_))); refine .inl ⟨_, (by first | exact r15Size_con e), ?_⟩; refine go_ ?_) | fail)
        all_goals (first | ((repeat (first | refine g6_ ?_ | (refine .inl ⟨_, (by first | exact r15Size_con ‹_›), ?_⟩; refine go_ ?_))); exact ih1 _ (by omega) _ _ _ _ _ _ _ _ h) | ((repeat (first | refine g6_ ?_ | (refine .inl ⟨_, (by first | exact r15Size_con ‹_›), ?_⟩; refine go_ ?_))); exact ih0 _ (by omega) _ _ _ _ _ _ h) | (cases h <;> (repeat (first | refine g6_ ?_ | (refine .inl ⟨_, (by first | exact r15Size_con ‹_›), ?_⟩; refine go_ ?_))) <;> (first | done | rfl | trivial | (simp; done) | (exfalso; omega))) | (exfalso; omega))
       exact key _ (by omega) _ _ _ _ _ _ _ _ h)
    exact key _ _ _ _ _ _ _ h)
theorem r4IsModulus_con {a0 : Int} {r : Bool} (h : r4IsModulus.f a0 = some r) : Con Tryz.prog 24 [⟨.int .i64, a0⟩] [(false, ⟨.bool, r⟩)] := by
 refine con_ (ps := [0, 2]) (res := [(2, none)]) ?_ Tryz.func24 Tryz.ntmps24
 refine go_ ?_
 unfold r4IsModulus.f at h
 replace h := hs_ h
 repeat' (first | split at h | fail)
 all_goals (first | (cases h <;> (repeat (first | refine g6_ ?_)) <;> (first | done | rfl | trivial | (simp; done) | (exfalso; omega))) | (exfalso; omega))
theorem r9Compare_con {k : Nat} {l0 : List Int} {l1 : List Int} {r : Int} (h : r9Compare.f k l0 l1 = some r) : Con Tryz.prog 37 [⟨.sl 3 (.int .i64), l0⟩, ⟨.sl 3 (.int .i64), l1⟩] [(false, ⟨.int .i64, r⟩)] := by
 refine con_ (ps := [0, 1, 4, 5, 10, 15, 19, 30, 39]) (res := [(4, none)]) ?_ Tryz.func37 Tryz.ntmps37
 refine go_ ?_
 unfold r9Compare.f at h
 replace h := hs_ h
 repeat' (first | split at h | fail)
 all_goals first
  | (cases h <;> (repeat (first | refine g6_ ?_)) <;> (first | done | rfl | trivial | (simp; done) | (exfalso; omega)))
  | (exfalso; omega)
  | (
    (with_reducible have h : r9Compare.l0 _ _ _ _ = some r := h)
    repeat (first | refine g6_ ?_)
    refine lp [(0, .row 3 (.int .i64)), (1, .row 3 (.int .i64)), (5, .keep)] fun X0 hX0 => ?_
    refine go_ ?_
    have key : ∀ k x0 x1 x5, r9Compare.l0 k x0 x1 x5 = some r → X0 ⟨lkp .bot [(5, .ro (.int .i64) x5), (1, .ro (.sl 3 (.int .i64)) x1), (0, .ro (.sl 3 (.int .i64)) x0)], lkp none [], 0⟩ := by
     refine sind fun k ih0 x0 x1 x5 h => hX0 _ ?_
     clear hX0
     rcases k with _ | k
     ·cases h
     unfold r9Compare.l0 at h
     replace h := hs_ h
     refine go_ ?_
     repeat' (first | split at h | fail)
     all_goals (first | ((repeat (first | refine g6_ ?_)); exact ih0 _ (by omega) _ _ _ h) | (cases h <;> (repeat (first | refine g6_ ?_)) <;> (first | done | rfl | trivial | (simp; done) | (exfalso; omega))) | (exfalso; omega))
    exact key _ _ _ _ h)
theorem r15Element_con {k : Nat} {a0_0 : Int} {l0_1 : List Int} {a1 : Int} {r : List Int} (h : r15Element.f k a0_0 l0_1 a1 = some r) : Con Tryz.prog 69 [⟨.pr (.int .i64) (.pr (.sl 3 (.int .i64)) (.un)), (a0_0, (l0_1, ()))⟩, ⟨.int .i64, a1⟩] [(false, ⟨.sl 3 (.int .i64), r⟩)] := by
 refine con_ (ps := [0, 1, 2, 4, 5, 7]) (res := [(4, none)]) ?_ Tryz.func69 Tryz.ntmps69
 refine go_ ?_
 unfold r15Element.f at h
 replace h := hs_ h
 repeat' (first | split at h | fail)
 all_goals first
  | (cases h <;> (repeat (first | refine g6_ ?_)) <;> (first | done | rfl | trivial | (simp; done) | (exfalso; omega)))
  | (exfalso; omega)
  | (
    (with_reducible have h : r15Element.l0 _ _ _ _ _ = some r := h)
    repeat (first | refine g6_ ?_)
    refine lp [(1, .keep), (5, .own 3 (.int .i64)), (2, .box)] fun X0 hX0 => ?_
    refine go_ ?_
    have key : ∀ k x1 x5 x102000 x102001, r15Element.l0 k x1 x5 x102000 x102001 = some r → X0 ⟨lkp .bot [(2, .ptr 4 0 []), (5, .own 10), (1, .ro (.int .i64) x1)], lkp none [(4, some ⟨25, .pr (.int .i64) (.pr (.sl 3 (.int .i64)) (.un)), [(x102000, (x102001, ()))], true⟩), (10, some ⟨3, .int .i64, x5, true⟩)], 0⟩ := by
     refine sind fun k ih0 x1 x5 x102000 x102001 h => hX0 _ ?_
     clear hX0
     rcases k with _ | k
     ·cases h
     unfold r15Element.l0 at h
     replace h := hs_ h
     refine go_ ?_
     repeat' (first | split at h | fail)
     all_goals (first | ((repeat (first | refine g6_ ?_)); exact ih0 _ (by omega) _ _ _ _ h) | (cases h <;> (repeat (first | refine g6_ ?_)) <;> (first | done | rfl | trivial | (simp; done) | (exfalso; omega))) | (exfalso; omega))
    exact key _ _ _ _ _ h)
theorem r15Pow_con {k : Nat} {a0_0 : Int} {l0_1 : List Int} {l1 : List Int} {a2 : ByteArray} {r : List Int} (h : r15Pow.f k a0_0 l0_1 l1 a2 = some r) : Con Tryz.prog 70 [⟨.pr (.int .i64) (.pr (.sl 3 (.int .i64)) (.un)), (a0_0, (l0_1, ()))⟩, ⟨.sl 3 (.int .i64), l1⟩, ⟨.str, a2⟩] [(false, ⟨.sl 3 (.int .i64), r⟩)] := by
 refine con_ (ps := [0, 1, 2, 3, 6]) (res := [(6, none)]) ?_ Tryz.func70 Tryz.ntmps70
 refine go_ ?_
 unfold r15Pow.f at h
 replace h := hs_ h
 repeat' (first | split at h | (refine bnf h fun t e h => ?_; (repeat (first | refine g6_ ?_)); refine .inl ⟨_, (by first | exact r9PowMod_con e), ?_⟩; refine go_ ?_) | (refine bnf h fun t e h => ?_; (repeat (first | refine g6_ ?_ | (refine .inl ⟨_, (by first | exact r9PowMod_con ‹_›), ?_⟩; refine go_ ?_))); refine .inl ⟨_, (by first | exact r9PowMod_con e), ?_⟩; refine go_ ?_) | fail)
 all_goals (first | (cases h <;> (repeat (first | refine g6_ ?_ | (refine .inl ⟨_, (by first | exact r9PowMod_con ‹_›), ?_⟩; refine go_ ?_))) <;> (first | done | rfl | trivial | (simp; done) | (exfalso; omega))) | (exfalso; omega))
theorem r18Roots_con {k : Nat} {a0_0 : Int} {l0_1 : List Int} {l1 : List Int} {a2 : Int} {r : List (List Int)} (h : r18Roots.f k a0_0 l0_1 l1 a2 = some r) : Con Tryz.prog 26 [⟨.pr (.int .i64) (.pr (.sl 3 (.int .i64)) (.un)), (a0_0, (l0_1, ()))⟩, ⟨.sl 3 (.int .i64), l1⟩, ⟨.int .i64, a2⟩] [(false, ⟨.sl 23 (.sl 3 (.int .i64)), r⟩)] := by
 refine con_ (ps := [0, 1, 2, 3, 6, 7, 8, 9, 10, 11, 16, 29, 51]) (res := [(6, none)]) ?_ Tryz.func26 Tryz.ntmps26
 refine go_ ?_
 unfold r18Roots.f at h
 replace h := hs_ h
 repeat' (first | split at h | (refine bnf h fun t e h => ?_; (repeat (first | refine g6_ ?_)); refine .inl ⟨_, (by first | exact r15Size_con e | exact r15Element_con e | exact r1FromInt_con e | exact r15Pow_con e | exact r9Same_con e | exact r9Compare_con e), ?_⟩; refine go_ ?_) | (refine bnf h fun t e h => ?_; (repeat (first | refine g6_ ?_ | (refine .inl ⟨_, (by first | exact r15Size_con ‹_› | exact r15Element_con ‹_› | exact r1FromInt_con ‹_› | exact r15Pow_con ‹_› | exact r9Same_con ‹_› | exact r9Compare_con ‹_›), ?_⟩; refine go_ ?_))); refine .inl ⟨_, (by first | exact r15Size_con e | exact r15Element_con e | exact r1FromInt_con e | exact r15Pow_con e | exact r9Same_con e | exact r9Compare_con e), ?_⟩; refine go_ ?_) | fail)
 all_goals first
  | (cases h <;> (repeat (first | refine g6_ ?_ | (refine .inl ⟨_, (by first | exact r15Size_con ‹_› | exact r15Element_con ‹_› | exact r1FromInt_con ‹_› | exact r15Pow_con ‹_› | exact r9Same_con ‹_› | exact r9Compare_con ‹_›), ?_⟩; refine go_ ?_))) <;> (first | done | rfl | trivial | (simp; done) | (exfalso; omega)))
  | (exfalso; omega)
  | (
    (with_reducible have h : r18Roots.l0 _ _ _ _ _ _ _ _ = some r := h)
    repeat (first | refine g6_ ?_ | (refine .inl ⟨_, (by first | exact r15Size_con ‹_› | exact r15Element_con ‹_› | exact r1FromInt_con ‹_› | exact r15Pow_con ‹_› | exact r9Same_con ‹_› | exact r9Compare_con ‹_›), ?_⟩; refine go_ ?_))
    refine lp [(1, .row 3 (.int .i64)), (2, .keep), (7, .own 23 (.sl 3 (.int .i64))), (8, .keep), (9, .keep), (3, .box)] fun X0 hX0 => ?_
    refine go_ ?_
    have key : ∀ k x1 x2 x7 x8 x9 x102000 x102001, r18Roots.l0 k x1 x2 x7 x8 x9 x102000 x102001 = some r → X0 ⟨lkp .bot [(3, .ptr 6 0 []), (9, .ro (.int .i64) x9), (8, .ro (.int .i64) x8), (7, .own 14), (2, .ro (.int .i64) x2), (1, .ro (.sl 3 (.int .i64)) x1)], lkp none [(6, some ⟨25, .pr (.int .i64) (.pr (.sl 3 (.int .i64)) (.un)), [(x102000, (x102001, ()))], true⟩), (14, some ⟨23, .sl 3 (.int .i64), x7, true⟩)], 0⟩ := by
     refine sind fun k ih0 x1 x2 x7 x8 x9 x102000 x102001 h => hX0 _ ?_
     clear hX0
     rcases k with _ | k
     ·cases h
     unfold r18Roots.l0 at h
     replace h := hs_ h
     refine go_ ?_
     repeat' (first | split at h | (refine bnf h fun t e h => ?_; (repeat (first | refine g6_ ?_)); refine .inl ⟨_, (by first | exact r15Size_con e | exact r15Element_con e | exact r1FromInt_con e | exact r15Pow_con e | exact r9Same_con e | exact r9Compare_con e), ?_⟩; refine go_ ?_) | (refine bnf h fun t e h => ?_; (repeat (first | refine g6_ ?_ | (refine .inl ⟨_, (by first | exact r15Size_con ‹_› | exact r15Element_con ‹_› | exact r1FromInt_con ‹_› | exact r15Pow_con ‹_› | exact r9Same_con ‹_› | exact r9Compare_con ‹_›), ?_⟩; refine go_ ?_))); refine .inl ⟨_, (by first | exact r15Size_con e | exact r15Element_con e | exact r1FromInt_con e | exact r15Pow_con e | exact r9Same_con e | exact r9Compare_con e), ?_⟩; refine go_ ?_) | fail)
     all_goals first
      | ((repeat (first | refine g6_ ?_ | (refine .inl ⟨_, (by first | exact r15Size_con ‹_› | exact r15Element_con ‹_› | exact r1FromInt_con ‹_› | exact r15Pow_con ‹_› | exact r9Same_con ‹_› | exact r9Compare_con ‹_›), ?_⟩; refine go_ ?_))); exact ih0 _ (by omega) _ _ _ _ _ _ _ h)
      | (cases h <;> (repeat (first | refine g6_ ?_ | (refine .inl ⟨_, (by first | exact r15Size_con ‹_› | exact r15Element_con ‹_› | exact r1FromInt_con ‹_› | exact r15Pow_con ‹_› | exact r9Same_con ‹_› | exact r9Compare_con ‹_›), ?_⟩; refine go_ ?_))) <;> (first | done | rfl | trivial | (simp; done) | (exfalso; omega)))
      | (exfalso; omega)
      | (
       (with_reducible have h : r18Roots.l1 _ _ _ _ _ _ _ _ _ = some r := h)
       repeat (first | refine g6_ ?_ | (refine .inl ⟨_, (by first | exact r15Size_con ‹_› | exact r15Element_con ‹_› | exact r1FromInt_con ‹_› | exact r15Pow_con ‹_› | exact r9Same_con ‹_› | exact r9Compare_con ‹_›), ?_⟩; refine go_ ?_))
       refine lp [(1, .row 3 (.int .i64)), (2, .keep), (7, .own 23 (.sl 3 (.int .i64))), (8, .keep), (9, .keep), (11, .keep), (3, .box)] fun X1 hX1 => ?_
       refine go_ ?_
       have key : ∀ j, j ≤ k → ∀ x1 x2 x7 x8 x9 x11 x102000 x102001, r18Roots.l1 j x1 x2 x7 x8 x9 x11 x102000 x102001 = some r → X1 ⟨lkp .bot [(3, .ptr 6 0 []), (11, .ro (.int .i64) x11), (9, .ro (.int .i64) x9), (8, .ro (.int .i64) x8), (7, .own 14), (2, .ro (.int .i64) x2), (1, .ro (.sl 3 (.int .i64)) x1)], lkp none [(6, some ⟨25, .pr (.int .i64) (.pr (.sl 3 (.int .i64)) (.un)), [(x102000, (x102001, ()))], true⟩), (14, some ⟨23, .sl 3 (.int .i64), x7, true⟩)], 0⟩ := by
        refine sinb fun k hk1 ih1 x1 x2 x7 x8 x9 x11 x102000 x102001 h => hX1 _ ?_
        clear hX1
        rcases k with _ | k
        ·cases h
        unfold r18Roots.l1 at h
        replace h := hs_ h
        refine go_ ?_
        repeat' (first | split at h | (refine bnf h fun t e h => ?_; (repeat (first | refine g6_ ?_)); refine .inl ⟨_, (by first | exact r15Size_con e | exact r15Element_con e | exact r1FromInt_con e | exact r15Pow_con e | exact r9Same_con e | exact r9Compare_con e), ?_⟩; refine go_ ?_) | (refine bnf h fun t e h => ?_; (repeat (first | refine g6_ ?_ | (refine .inl ⟨_, (by first | exact r15Size_con ‹_› | exact r15Element_con ‹_› | exact r1FromInt_con ‹_› | exact r15Pow_con ‹_› | exact r9Same_con ‹_› | exact r9Compare_con ‹_›), ?_⟩; refine go_ ?_))); refine .inl ⟨_, (by first | exact r15Size_con e | exact r15Element_con e | exact r1FromInt_con e | exact r15Pow_con e | exact r9Same_con e | exact r9Compare_con e), ?_⟩; refine go_ ?_) | fail)
        all_goals (first | ((repeat (first | refine g6_ ?_ | (refine .inl ⟨_, (by first | exact r15Size_con ‹_› | exact r15Element_con ‹_› | exact r1FromInt_con ‹_› | exact r15Pow_con ‹_› | exact r9Same_con ‹_› | exact r9Compare_con ‹_›), ?_⟩; refine go_ ?_))); exact ih1 _ (by omega) _ _ _ _ _ _ _ _ h) | ((repeat (first | refine g6_ ?_ | (refine .inl ⟨_, (by first | exact r15Size_con ‹_› | exact r15Element_con ‹_› | exact r1FromInt_con ‹_› | exact r15Pow_con ‹_› | exact r9Same_con ‹_› | exact r9Compare_con ‹_›), ?_⟩; refine go_ ?_))); exact ih0 _ (by omega) _ _ _ _ _ _ _ h) | (cases h <;> (repeat (first | refine g6_ ?_ | (refine .inl ⟨_, (by first | exact r15Size_con ‹_› | exact r15Element_con ‹_› | exact r1FromInt_con ‹_› | exact r15Pow_con ‹_› | exact r9Same_con ‹_› | exact r9Compare_con ‹_›), ?_⟩; refine go_ ?_))) <;> (first | done | rfl | trivial | (simp; done) | (exfalso; omega))) | (exfalso; omega))
       exact key _ (by omega) _ _ _ _ _ _ _ _ h)
    exact key _ _ _ _ _ _ _ _ h)
end Go.Proofs.YtillaipaanancaaGreat.Q
end

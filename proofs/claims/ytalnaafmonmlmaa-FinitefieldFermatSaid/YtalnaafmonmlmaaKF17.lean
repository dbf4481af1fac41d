/- Machine side and arithmetic of the law, put together by a program of the session. No conditions. -/
import Derived.Test.YtalnaafmonmlmaaKF9
import Derived.Test.YtalnaafmonmlmaaKF12
import Derived.Test.YtalnaafmonmlmaaKF14
import Derived.Test.YtalnaafmonmlmaaKF15
import Derived.Test.YtalnaafmonmlmaaKF16
section
set_option linter.unusedVariables false
set_option maxRecDepth 100000
set_option maxHeartbeats 8000000
namespace Go.Proofs.Ytalnaafmonmlmaa.Q
open Go.RowKit Go.TT Go.Proofs.YtalnaafmonmlmaaW.PrintWords
theorem gFElements_con {p : Int} {l : List Int} {q : Int} : Con Try.prog 71 [⟨.pr (.pr (.int .i64) (.pr (.sl 3 (.int .i64)) (.un))) (.un), ((p, (l, ())), ())⟩, ⟨.int .i64, q⟩] [(false, ⟨.fn (.func 101) .un (.pr (.rf (.int .i64)) (.pr (.rf (.pr (.pr (.int .i64) (.pr (.sl 3 (.int .i64)) (.un))) (.un))) .un)), ((), (q, (((p, (l, ())), ()), ())))⟩)] := by
 refine con_ (ps := [0, 1, 2, 3, 4, 5]) (res := [(4, none)]) ?_ Try.func71 Try.ntmps71
 refine go_ ?_
 exact ⟨rfl, rfl⟩
theorem Elements1_vis {K : Nat} {p : Int} {l : List Int} {N : Nat} (hN : N ≤ 4294967296) {el : Nat → List Int} : Vis Try.prog 101 [⟨.rf (.int .i64), (N : Int)⟩, ⟨.rf (.pr (.pr (.int .i64) (.pr (.sl 3 (.int .i64)) (.un))) (.un)), ((p, (l, ())), ())⟩] N
  (fun i => [⟨.int .i64, (i : Int)⟩, ⟨.sl 3 (.int .i64), el i⟩]) (fun i => gFElement.f K p l (i : Int) = some (el i)) :=
 Elements1_vis0 (E := fun i r => gFElement.f K p l i = some r) hN fun i r h => gFElement_con h
theorem fi_Generator_con {k : Nat} {a0_0 : Int} {l0_1 : List Int} {r1 : List Int} {r2 : Int} (h : fi_Generator.f k a0_0 l0_1 = some (r1, r2)) : Con Try.prog 36 [⟨.pr (.int .i64) (.pr (.sl 3 (.int .i64)) (.un)), (a0_0, (l0_1, ()))⟩] [(false, ⟨.sl 3 (.int .i64), r1⟩), (false, ⟨.int .i64, r2⟩)] := by
 refine con_ (ps := [0, 1, 2, 3, 4, 5, 6, 7, 9, 13, 21, 27, 29, 33]) (res := [(2, some 25), (3, some 26)]) ?_ Try.func36 Try.ntmps36
 refine go_ ?_
 unfold fi_Generator.f at h
 replace h := hs_ h
 refine bnf h ?_; clear h; intro e he h
 refine ⟨_, fi_Check_con he, ?_⟩; refine go_ ?_
 split at h
 ·repeat (first | refine fg_ ?_ | refine pg_ ?_ | refine qg_ ?_ | refine an_ ?_ | refine ip_ ?_ | refine in_ ?_)
  refine bnf h ?_; clear h; rintro ⟨q, e2⟩ hr h
  refine ⟨_, fi_size_con hr, ?_⟩; refine go_ ?_
  simp only at h
  split at h
  ·repeat (first | refine fg_ ?_ | refine pg_ ?_ | refine qg_ ?_ | refine an_ ?_ | refine ip_ ?_ | refine in_ ?_)
   split at h
   ·rename_i hq
    obtain ⟨M, rfl⟩ : ∃ M : Nat, q = (M : Int) := ⟨q.toNat, by omega⟩
    refine ⟨_, gFElements_con, ?_⟩; refine go_ ?_
    refine rfG [(2, .box), (3, .box), (5, .box), (7, .box)] ⟨lkp .bot [(7, .ptr 14 0 []), (5, .ptr 10 0 []), (3, .ptr 6 0 []), (2, .ptr 4 0 [])], lkp none [(14, some ⟨68, .pr (.pr (.int .i64) (.pr (.sl 3 (.int .i64)) (.un))) (.un), [((a0_0, (l0_1, ())), ())], true⟩), (10, some ⟨3, .int .i64, [(M : Int)], true⟩), (6, some ⟨26, .int .i64, [(0 : Int)], true⟩), (4, some ⟨25, .sl 3 (.int .i64), [([] : List Int)], true⟩)], 0⟩ (by rfl) (by rfl) ?_
    refine go_ ?_
    refine ⟨M, _, _, Elements1_vis (K := k) (by omega) (el := fun i => (gFElement.f k a0_0 l0_1 (i : Int)).getD []), fun i => rfl, ?_⟩
    refine rf_ind (fun i => ∃ j, fi_Generator.l0 k j a0_0 l0_1 (M : Int) i = some (r1, r2)) ⟨_, h⟩ ?_ ?_
    ·clear h
     rintro i X hi ⟨j, h⟩ hX
     rcases j with _ | j
     ·cases h
     unfold fi_Generator.l0 at h
     rw [if_pos (by omega)] at h
     replace h := hs_ h
     refine bnf h ?_; clear h; intro el hel h
     refine bnf h ?_; clear h; intro b hb h
     simp only [hel, Option.getD_some]
     refine ⟨trivial, ?_⟩
     refine go_ ?_
     refine ⟨_, gFGenerates_con hb, ?_⟩; refine go_ ?_
     split at h
     ·cases h
      repeat (first | refine fg_ ?_ | refine pg_ ?_ | refine qg_ ?_ | refine an_ ?_ | refine ip_ ?_ | refine in_ ?_)
      first | done | exact ⟨rfl, rfl⟩ | (simp; done)
     ·repeat (first | refine fg_ ?_ | refine pg_ ?_ | refine qg_ ?_ | refine an_ ?_ | refine ip_ ?_ | refine in_ ?_)
      exact hX ⟨_, h⟩
    ·rintro ⟨j, h⟩
     rcases j with _ | j
     ·cases h
     unfold fi_Generator.l0 at h
     rw [if_neg (by omega)] at h
     cases h
     refine go_ ?_
     first | done | exact ⟨rfl, rfl⟩ | (simp; done)
   ·cases h
  ·cases h
   repeat (first | refine fg_ ?_ | refine pg_ ?_ | refine qg_ ?_ | refine an_ ?_ | refine ip_ ?_ | refine in_ ?_)
   first | done | exact ⟨rfl, rfl⟩ | (simp; done)
 ·cases h
  repeat (first | refine fg_ ?_ | refine pg_ ?_ | refine qg_ ?_ | refine an_ ?_ | refine ip_ ?_ | refine in_ ?_)
  first | done | exact ⟨rfl, rfl⟩ | (simp; done)
theorem fi_root_con {k : Nat} {a0_0 : Int} {l0_1 : List Int} {l1 : List Int} {a2 : Int} {r : List Int} (h : fi_root.f k a0_0 l0_1 l1 a2 = some r) : Con Try.prog 56 [⟨.pr (.pr (.int .i64) (.pr (.sl 3 (.int .i64)) (.un))) (.un), ((a0_0, (l0_1, ())), ())⟩, ⟨.sl 3 (.int .i64), l1⟩, ⟨.int .i64, a2⟩] [(false, ⟨.sl 3 (.int .i64), r⟩)] := by
 refine con_ (ps := [0, 1, 2, 3, 5, 6, 7, 8, 9, 10, 11, 12, 13, 14, 15, 20, 27, 29, 42, 59, 63]) (res := [(6, none)]) ?_ Try.func56 Try.ntmps56
 refine go_ ?_
 unfold fi_root.f at h
 split at h
 case isFalse => cases h
 rename_i hq
 obtain ⟨M, rfl⟩ : ∃ M : Nat, a2 = (M : Int) := ⟨a2.toNat, by omega⟩
 replace h := hs_ h
 refine bnf h ?_; clear h; rintro ⟨o, s⟩ hodd h
 refine bnf h ?_; clear h; intro z hz h
 simp only at h
 repeat (first | refine fg_ ?_ | refine pg_ ?_ | refine qg_ ?_ | refine an_ ?_ | refine ip_ ?_ | refine in_ ?_)
 refine lp [(1, .row 3 (.int .i64)), (7, .keep), (8, .keep), (3, .box), (5, .box)] fun X hX => ?_
 refine go_ ?_
 have key : ∀ kk o' s', fi_root.odd kk o' s' = some (o, s) → X ⟨lkp .bot [(5, .ptr 10 0 []), (3, .ptr 6 0 []), (8, .ro (.int .i64) s'), (7, .ro (.int .i64) o'), (1, .ro (.sl 3 (.int .i64)) l1)], lkp none [(10, some ⟨3, .int .i64, [(M : Int)], true⟩), (6, some ⟨68, .pr (.pr (.int .i64) (.pr (.sl 3 (.int .i64)) (.un))) (.un), [((a0_0, (l0_1, ())), ())], true⟩)], 0⟩ := by
  refine sind fun kk ih o' s' h' => hX _ ?_
  clear hX
  rcases kk with _ | kk
  ·cases h'
  unfold fi_root.odd at h'
  replace h' := hs_ h'
  refine go_ ?_
  repeat (first | refine fg_ ?_ | refine pg_ ?_ | refine qg_ ?_ | refine an_ ?_ | refine ip_ ?_ | refine in_ ?_)
  split at h'
  ·repeat (first | refine fg_ ?_ | refine pg_ ?_ | refine qg_ ?_ | refine an_ ?_ | refine ip_ ?_ | refine in_ ?_)
   exact ih _ (by omega) _ _ h'
  ·cases h'
   repeat (first | refine fg_ ?_ | refine pg_ ?_ | refine qg_ ?_ | refine an_ ?_ | refine ip_ ?_ | refine in_ ?_)
   refine ⟨_, gFElements_con, ?_⟩; refine go_ ?_
   clear ih hodd
   refine rfG [(1, .row 3 (.int .i64)), (7, .keep), (8, .keep), (3, .box), (5, .box), (9, .box)] ((fun z' : List Int => (⟨lkp .bot [(9, .ptr 18 0 []), (5, .ptr 10 0 []), (3, .ptr 6 0 []), (8, .ro (.int .i64) s), (7, .ro (.int .i64) o), (1, .ro (.sl 3 (.int .i64)) l1)], lkp none [(18, some ⟨25, .sl 3 (.int .i64), [z'], true⟩), (10, some ⟨3, .int .i64, [(M : Int)], true⟩), (6, some ⟨68, .pr (.pr (.int .i64) (.pr (.sl 3 (.int .i64)) (.un))) (.un), [((a0_0, (l0_1, ())), ())], true⟩)], 0⟩ : FS)) []) (by rfl) (by rfl) ?_
   refine go_ ?_
   refine ⟨M, _, _, Elements1_vis (K := k) (by omega) (el := fun i => (gFElement.f k a0_0 l0_1 (i : Int)).getD []), fun i => rfl, ?_⟩
   refine rf_indb (id := 2) (fun z' : List Int => (⟨lkp .bot [(9, .ptr 18 0 []), (5, .ptr 10 0 []), (3, .ptr 6 0 []), (8, .ro (.int .i64) s), (7, .ro (.int .i64) o), (1, .ro (.sl 3 (.int .i64)) l1)], lkp none [(18, some ⟨25, .sl 3 (.int .i64), [z'], true⟩), (10, some ⟨3, .int .i64, [(M : Int)], true⟩), (6, some ⟨68, .pr (.pr (.int .i64) (.pr (.sl 3 (.int .i64)) (.un))) (.un), [((a0_0, (l0_1, ())), ())], true⟩)], 0⟩ : FS)) (fun i z' => ∃ j, fi_root.l0 k j a0_0 l0_1 (M : Int) i z' = some z) (fun z' => z' = z) ?_ ⟨_, hz⟩ ?_ ?_
   ·clear hz
    rintro z' rfl
    unfold fi_rootTail.f at h
    replace h := hs_ h
    refine go_ ?_
    repeat' (first | split at h | (refine bnf h fun t e h => ?_; (repeat (first | refine fg_ ?_ | refine pg_ ?_ | refine qg_ ?_ | refine an_ ?_ | refine ip_ ?_ | refine in_ ?_)); refine ⟨_, (by first | exact gf_IsOne_con e | exact gFPow_con e | exact gFMul_con e), ?_⟩; refine go_ ?_) | fail)
    repeat (first | refine fg_ ?_ | refine pg_ ?_ | refine qg_ ?_ | refine an_ ?_ | refine ip_ ?_ | refine in_ ?_)
    refine lp [(8, .keep), (10, .row 3 (.int .i64)), (11, .row 3 (.int .i64)), (12, .row 3 (.int .i64)), (3, .box)] fun X0 hX0 => ?_
    refine go_ ?_
    (with_reducible have h : fi_rootTail.l0 _ _ _ _ _ _ _ = some r := h)
    have key : ∀ kk x8 x10 x11 x12, fi_rootTail.l0 kk x8 x10 x11 x12 a0_0 l0_1 = some r → X0 ⟨lkp .bot [(3, .ptr 6 0 []), (12, .ro (.sl 3 (.int .i64)) x12), (11, .ro (.sl 3 (.int .i64)) x11), (10, .ro (.sl 3 (.int .i64)) x10), (8, .ro (.int .i64) x8)], lkp none [(6, some ⟨68, .pr (.pr (.int .i64) (.pr (.sl 3 (.int .i64)) (.un))) (.un), [((a0_0, (l0_1, ())), ())], true⟩)], 0⟩ := by
     clear h
     refine sind fun kk ih0 x8 x10 x11 x12 h => hX0 _ ?_
     clear hX0
     rcases kk with _ | kk
     ·cases h
     unfold fi_rootTail.l0 at h
     replace h := hs_ h
     refine go_ ?_
     repeat' (first | split at h | (refine bnf h fun t e h => ?_; (repeat (first | refine fg_ ?_ | refine pg_ ?_ | refine qg_ ?_ | refine an_ ?_ | refine ip_ ?_ | refine in_ ?_)); refine ⟨_, (by first | exact gf_IsOne_con e | exact gFPow_con e | exact gFMul_con e), ?_⟩; refine go_ ?_) | fail)
     ·(cases h <;> (repeat (first | refine fg_ ?_ | refine pg_ ?_ | refine qg_ ?_ | refine an_ ?_ | refine ip_ ?_ | refine in_ ?_)) <;> (first | done | rfl | trivial | (simp; done)))
     repeat (first | refine fg_ ?_ | refine pg_ ?_ | refine qg_ ?_ | refine an_ ?_ | refine ip_ ?_ | refine in_ ?_)
     refine lp [(8, .keep), (10, .row 3 (.int .i64)), (11, .row 3 (.int .i64)), (12, .row 3 (.int .i64)), (13, .keep), (14, .row 3 (.int .i64)), (3, .box)] fun X1 hX1 => ?_
     refine go_ ?_
     (with_reducible have h : fi_rootTail.l1 _ _ _ _ _ _ _ _ _ = some r := h)
     have key : ∀ j, j ≤ kk → ∀ x13 x14, fi_rootTail.l1 j x8 x10 x11 x12 x13 x14 a0_0 l0_1 = some r → X1 ⟨lkp .bot [(3, .ptr 6 0 []), (14, .ro (.sl 3 (.int .i64)) x14), (13, .ro (.int .i64) x13), (12, .ro (.sl 3 (.int .i64)) x12), (11, .ro (.sl 3 (.int .i64)) x11), (10, .ro (.sl 3 (.int .i64)) x10), (8, .ro (.int .i64) x8)], lkp none [(6, some ⟨68, .pr (.pr (.int .i64) (.pr (.sl 3 (.int .i64)) (.un))) (.un), [((a0_0, (l0_1, ())), ())], true⟩)], 0⟩ := by
      clear h
      refine sinb fun j hj ih1 x13 x14 h => hX1 _ ?_
      clear hX1
      rcases j with _ | j
      ·cases h
      unfold fi_rootTail.l1 at h
      replace h := hs_ h
      refine go_ ?_
      repeat' (first | split at h | (refine bnf h fun t e h => ?_; (repeat (first | refine fg_ ?_ | refine pg_ ?_ | refine qg_ ?_ | refine an_ ?_ | refine ip_ ?_ | refine in_ ?_)); refine ⟨_, (by first | exact gf_IsOne_con e | exact gFPow_con e | exact gFMul_con e), ?_⟩; refine go_ ?_) | fail)
      all_goals first
       | ((repeat (first | refine fg_ ?_ | refine pg_ ?_ | refine qg_ ?_ | refine an_ ?_ | refine ip_ ?_ | refine in_ ?_)); exact ih1 _ (by omega) _ _ h)
       | ((repeat (first | refine fg_ ?_ | refine pg_ ?_ | refine qg_ ?_ | refine an_ ?_ | refine ip_ ?_ | refine in_ ?_)); exact ih0 _ (by omega) _ _ _ _ h)
       | (cases h <;> (repeat (first | refine fg_ ?_ | refine pg_ ?_ | refine qg_ ?_ | refine an_ ?_ | refine ip_ ?_ | refine in_ ?_)) <;> (first | done | rfl | trivial | (simp; done)))
     exact key _ (by omega) _ _ h
    exact key _ _ _ _ _ h
   ·clear h hz
    rintro Q1 hQ i z' Y hi ⟨j, h⟩ hY
    rcases j with _ | j
    ·cases h
    unfold fi_root.l0 at h
    rw [if_pos (by omega)] at h
    replace h := hs_ h
    refine bnf h ?_; clear h; intro el hel h
    simp only [hel, Option.getD_some]
    refine ⟨trivial, ?_⟩
    refine go_ ?_
    repeat (first | refine fg_ ?_ | refine pg_ ?_ | refine qg_ ?_ | refine an_ ?_ | refine ip_ ?_ | refine in_ ?_)
    repeat' (first | split at h | (refine bnf h fun t e h => ?_; (repeat (first | refine fg_ ?_ | refine pg_ ?_ | refine qg_ ?_ | refine an_ ?_ | refine ip_ ?_ | refine in_ ?_)); refine ⟨_, (by first | exact gf_IsOne_con e | exact gFPow_con e | exact gFMul_con e), ?_⟩; refine go_ ?_) | fail)
    all_goals (repeat (first | refine fg_ ?_ | refine pg_ ?_ | refine qg_ ?_ | refine an_ ?_ | refine ip_ ?_ | refine in_ ?_))
    all_goals first
     | exact hY _ ⟨_, h⟩
     | (cases h; exact hQ _ rfl)
   ·rintro z' ⟨j, h⟩
    rcases j with _ | j
    ·cases h
    unfold fi_root.l0 at h
    rw [if_neg (by omega)] at h
    cases h; rfl
 exact key _ _ _ hodd
theorem fi_SquareRoot_con {k : Nat} {a0_0 : Int} {l0_1 : List Int} {l1 : List Int} {r1 : List Int} {r2 : Int} (h : fi_SquareRoot.f k a0_0 l0_1 l1 = some (r1, r2)) : Con Try.prog 17 [⟨.pr (.int .i64) (.pr (.sl 3 (.int .i64)) (.un)), (a0_0, (l0_1, ()))⟩, ⟨.sl 3 (.int .i64), l1⟩] [(false, ⟨.sl 3 (.int .i64), r1⟩), (false, ⟨.int .i64, r2⟩)] := by
 refine con_ (ps := [0, 1, 2, 4, 5, 6, 7, 8, 9, 10, 11, 17, 25, 31, 39, 47, 62]) (res := [(4, none), (5, none)]) ?_ Try.func17 Try.ntmps17
 refine go_ ?_
 unfold fi_SquareRoot.f at h
 replace h := hs_ h
 repeat' (first | split at h | (refine bnf h fun t e h => ?_; (repeat (first | refine fg_ ?_ | refine pg_ ?_ | refine qg_ ?_ | refine an_ ?_ | refine ip_ ?_ | refine in_ ?_)); refine ⟨_, (by first | exact fi_check_con e | exact fi_size_con e | exact gFPow_con e | exact gf_IsOne_con e | exact fi_root_con e | exact fp_Scale_con e | exact pm_Compare_con e), ?_⟩; refine go_ ?_) | (refine bnf h fun t e h => ?_; (repeat (first | refine fg_ ?_ | refine pg_ ?_ | refine qg_ ?_ | refine an_ ?_ | refine ip_ ?_ | refine in_ ?_ | (refine ⟨_, (by first | exact fi_check_con ‹_› | exact fi_size_con ‹_› | exact gFPow_con ‹_› | exact gf_IsOne_con ‹_› | exact fi_root_con ‹_› | exact fp_Scale_con ‹_› | exact pm_Compare_con ‹_›), ?_⟩; refine go_ ?_))); refine ⟨_, (by first | exact fi_check_con e | exact fi_size_con e | exact gFPow_con e | exact gf_IsOne_con e | exact fi_root_con e | exact fp_Scale_con e | exact pm_Compare_con e), ?_⟩; refine go_ ?_) | fail)
 all_goals (first | (cases h <;> (repeat (first | refine fg_ ?_ | refine pg_ ?_ | refine qg_ ?_ | refine an_ ?_ | refine ip_ ?_ | refine in_ ?_ | (refine ⟨_, (by first | exact fi_check_con ‹_› | exact fi_size_con ‹_› | exact gFPow_con ‹_› | exact gf_IsOne_con ‹_› | exact fi_root_con ‹_› | exact fp_Scale_con ‹_› | exact pm_Compare_con ‹_›), ?_⟩; refine go_ ?_))) <;> (first | done | rfl | trivial | (simp; done))))
theorem l15awake_con {k : Nat}  {r : Bool} (h : l15awake.f k = some r) : Con Try.prog 9 [] [(false, ⟨.bool, r⟩)] := by
 refine con_ (ps := [0, 1, 2, 3, 4, 5, 6, 7, 8, 9, 10, 11, 12, 72]) (res := [(0, none)]) ?_ Try.func9 Try.ntmps9
 refine go_ ?_
 unfold l15awake.f at h
 replace h := hs_ h
 repeat' (first | split at h | (refine bnf h fun t e h => ?_; (repeat (first | refine fg_ ?_ | refine pg_ ?_ | refine qg_ ?_ | refine an_ ?_ | refine ip_ ?_ | refine in_ ?_)); refine ⟨_, (by first | exact l15four_con e | exact fi_Mul_con e | exact fi_Inverse_con e | exact fi_Order_con e | exact fi_Modulus_con e | exact l15nine_con e | exact fi_Generator_con e | exact fi_SquareRoot_con e | exact r9Same_con e), ?_⟩; refine go_ ?_) | (refine bnf h fun t e h => ?_; (repeat (first | refine fg_ ?_ | refine pg_ ?_ | refine qg_ ?_ | refine an_ ?_ | refine ip_ ?_ | refine in_ ?_ | (refine ⟨_, (by first | exact l15four_con ‹_› | exact fi_Mul_con ‹_› | exact fi_Inverse_con ‹_› | exact fi_Order_con ‹_› | exact fi_Modulus_con ‹_› | exact l15nine_con ‹_› | exact fi_Generator_con ‹_› | exact fi_SquareRoot_con ‹_› | exact r9Same_con ‹_›), ?_⟩; refine go_ ?_))); refine ⟨_, (by first | exact l15four_con e | exact fi_Mul_con e | exact fi_Inverse_con e | exact fi_Order_con e | exact fi_Modulus_con e | exact l15nine_con e | exact fi_Generator_con e | exact fi_SquareRoot_con e | exact r9Same_con e), ?_⟩; refine go_ ?_) | (rcases k with _ | k; (· cases h); unfold l15awake.j0 at h; replace h := hs_ h) | fail)
 all_goals (first | (cases h <;> (repeat (first | refine fg_ ?_ | refine pg_ ?_ | refine qg_ ?_ | refine an_ ?_ | refine ip_ ?_ | refine in_ ?_ | (refine ⟨_, (by first | exact l15four_con ‹_› | exact fi_Mul_con ‹_› | exact fi_Inverse_con ‹_› | exact fi_Order_con ‹_› | exact fi_Modulus_con ‹_› | exact l15nine_con ‹_› | exact fi_Generator_con ‹_› | exact fi_SquareRoot_con ‹_› | exact r9Same_con ‹_›), ?_⟩; refine go_ ?_))) <;> (first | done | rfl | trivial | (simp; done))))
theorem lw_con {k : Nat} {a0_0 : Int} {l0_1 : List Int} {l1 : List Int} {r : Bool} (h : lw.f k a0_0 l0_1 l1 = some r) : Con Try.prog 7 [⟨.pr (.int .i64) (.pr (.sl 3 (.int .i64)) (.un)), (a0_0, (l0_1, ()))⟩, ⟨.sl 3 (.int .i64), l1⟩] [(false, ⟨.bool, r⟩)] := by
 refine con_ (ps := [0, 1, 2, 4, 5, 6, 7, 8, 9, 10, 11, 12, 13, 14, 15, 16, 17, 18, 19, 20, 33, 61, 64, 88, 104, 110, 135, 147]) (res := [(4, none)]) ?_ Try.func7 Try.ntmps7
 refine go_ ?_
 unfold lw.f at h
 replace h := hs_ h
 repeat' (first | split at h | (refine bnf h fun t e h => ?_; (repeat (first | refine fg_ ?_ | refine pg_ ?_ | refine qg_ ?_ | refine an_ ?_ | refine ip_ ?_ | refine in_ ?_)); refine ⟨_, (by first | exact l15awake_con e | exact r15Few_con e | exact r15Member_con e | exact r15Size_con e | exact r1FromInt_con e | exact fi_Pow_con e | exact fi_Generator_con e | exact r9Same_con e | exact fi_Order_con e | exact fi_Number_con e | exact fi_Mul_con e), ?_⟩; refine go_ ?_) | (refine bnf h fun t e h => ?_; (repeat (first | refine fg_ ?_ | refine pg_ ?_ | refine qg_ ?_ | refine an_ ?_ | refine ip_ ?_ | refine in_ ?_ | (refine ⟨_, (by first | exact l15awake_con ‹_› | exact r15Few_con ‹_› | exact r15Member_con ‹_› | exact r15Size_con ‹_› | exact r1FromInt_con ‹_› | exact fi_Pow_con ‹_› | exact fi_Generator_con ‹_› | exact r9Same_con ‹_› | exact fi_Order_con ‹_› | exact fi_Number_con ‹_› | exact fi_Mul_con ‹_›), ?_⟩; refine go_ ?_))); refine ⟨_, (by first | exact l15awake_con e | exact r15Few_con e | exact r15Member_con e | exact r15Size_con e | exact r1FromInt_con e | exact fi_Pow_con e | exact fi_Generator_con e | exact r9Same_con e | exact fi_Order_con e | exact fi_Number_con e | exact fi_Mul_con e), ?_⟩; refine go_ ?_) | (rcases k with _ | k; (· cases h); unfold lw.j0 at h; replace h := hs_ h) | (rcases k with _ | k; (· cases h); unfold lw.j1 at h; replace h := hs_ h) | (rcases k with _ | k; (· cases h); unfold lw.j3 at h; replace h := hs_ h) | (rcases k with _ | k; (· cases h); unfold lw.j5 at h; replace h := hs_ h) | (rcases k with _ | k; (· cases h); unfold lw.j2 at h; replace h := hs_ h) | fail)
 all_goals first
  | (cases h <;> (repeat (first | refine fg_ ?_ | refine pg_ ?_ | refine qg_ ?_ | refine an_ ?_ | refine ip_ ?_ | refine in_ ?_ | (refine ⟨_, (by first | exact l15awake_con ‹_› | exact r15Few_con ‹_› | exact r15Member_con ‹_› | exact r15Size_con ‹_› | exact r1FromInt_con ‹_› | exact fi_Pow_con ‹_› | exact fi_Generator_con ‹_› | exact r9Same_con ‹_› | exact fi_Order_con ‹_› | exact fi_Number_con ‹_› | exact fi_Mul_con ‹_›), ?_⟩; refine go_ ?_))) <;> (first | done | rfl | trivial | (simp; done)))
  | (
    (with_reducible have h : lw.l0 _ _ _ _ _ _ _ _ = some r := h)
    repeat (first | refine fg_ ?_ | refine pg_ ?_ | refine qg_ ?_ | refine an_ ?_ | refine ip_ ?_ | refine in_ ?_ | (refine ⟨_, (by first | exact l15awake_con ‹_› | exact r15Few_con ‹_› | exact r15Member_con ‹_› | exact r15Size_con ‹_› | exact r1FromInt_con ‹_› | exact fi_Pow_con ‹_› | exact fi_Generator_con ‹_› | exact r9Same_con ‹_› | exact fi_Order_con ‹_› | exact fi_Number_con ‹_› | exact fi_Mul_con ‹_›), ?_⟩; refine go_ ?_))
    refine lp [(5, .keep), (8, .row 3 (.int .i64)), (14, .own 4 (.bool)), (15, .row 3 (.int .i64)), (16, .keep), (2, .box)] fun X0 hX0 => ?_
    refine go_ ?_
    have key : ∀ k x5 x8 x14 x15 x16 x102000 x102001, lw.l0 k x5 x8 x14 x15 x16 x102000 x102001 = some r → X0 ⟨lkp .bot [(2, .ptr 4 0 []), (16, .ro (.int .i64) x16), (15, .ro (.sl 3 (.int .i64)) x15), (14, .own 28), (8, .ro (.sl 3 (.int .i64)) x8), (5, .ro (.int .i64) x5)], lkp none [(4, some ⟨33, .pr (.int .i64) (.pr (.sl 3 (.int .i64)) (.un)), [(x102000, (x102001, ()))], true⟩), (28, some ⟨4, .bool, x14, true⟩)], 0⟩ := by
     refine sind fun k ih0 x5 x8 x14 x15 x16 x102000 x102001 h => hX0 _ ?_
     clear hX0
     rcases k with _ | k
     ·cases h
     unfold lw.l0 at h
     replace h := hs_ h
     refine go_ ?_
     repeat' (first | split at h | (refine bnf h fun t e h => ?_; (repeat (first | refine fg_ ?_ | refine pg_ ?_ | refine qg_ ?_ | refine an_ ?_ | refine ip_ ?_ | refine in_ ?_)); refine ⟨_, (by first | exact l15awake_con e | exact r15Few_con e | exact r15Member_con e | exact r15Size_con e | exact r1FromInt_con e | exact fi_Pow_con e | exact fi_Generator_con e | exact r9Same_con e | exact fi_Order_con e | exact fi_Number_con e | exact fi_Mul_con e), ?_⟩; refine go_ ?_) | (refine bnf h fun t e h => ?_; (repeat (first | refine fg_ ?_ | refine pg_ ?_ | refine qg_ ?_ | refine an_ ?_ | refine ip_ ?_ | refine in_ ?_ | (refine ⟨_, (by first | exact l15awake_con ‹_› | exact r15Few_con ‹_› | exact r15Member_con ‹_› | exact r15Size_con ‹_› | exact r1FromInt_con ‹_› | exact fi_Pow_con ‹_› | exact fi_Generator_con ‹_› | exact r9Same_con ‹_› | exact fi_Order_con ‹_› | exact fi_Number_con ‹_› | exact fi_Mul_con ‹_›), ?_⟩; refine go_ ?_))); refine ⟨_, (by first | exact l15awake_con e | exact r15Few_con e | exact r15Member_con e | exact r15Size_con e | exact r1FromInt_con e | exact fi_Pow_con e | exact fi_Generator_con e | exact r9Same_con e | exact fi_Order_con e | exact fi_Number_con e | exact fi_Mul_con e), ?_⟩; refine go_ ?_) | (rcases k with _ | k; (· cases h); unfold lw.j0 at h; replace h := hs_ h) | (rcases k with _ | k; (· cases h); unfold lw.j1 at h; replace h := hs_ h) | (rcases k with _ | k; (· cases h); unfold lw.j3 at h; replace h := hs_ h) | (rcases k with _ | k; (· cases h); unfold lw.j5 at h; replace h := hs_ h) | (rcases k with _ | k; (· cases h); unfold lw.j2 at h; replace h := hs_ h) | fail)
     all_goals (first | ((repeat (first | refine fg_ ?_ | refine pg_ ?_ | refine qg_ ?_ | refine an_ ?_ | refine ip_ ?_ | refine in_ ?_ | (refine ⟨_, (by first | exact l15awake_con ‹_› | exact r15Few_con ‹_› | exact r15Member_con ‹_› | exact r15Size_con ‹_› | exact r1FromInt_con ‹_› | exact fi_Pow_con ‹_› | exact fi_Generator_con ‹_› | exact r9Same_con ‹_› | exact fi_Order_con ‹_› | exact fi_Number_con ‹_› | exact fi_Mul_con ‹_›), ?_⟩; refine go_ ?_))); exact ih0 _ (by omega) _ _ _ _ _ _ _ h) | (cases h <;> (repeat (first | refine fg_ ?_ | refine pg_ ?_ | refine qg_ ?_ | refine an_ ?_ | refine ip_ ?_ | refine in_ ?_ | (refine ⟨_, (by first | exact l15awake_con ‹_› | exact r15Few_con ‹_› | exact r15Member_con ‹_› | exact r15Size_con ‹_› | exact r1FromInt_con ‹_› | exact fi_Pow_con ‹_› | exact fi_Generator_con ‹_› | exact r9Same_con ‹_› | exact fi_Order_con ‹_› | exact fi_Number_con ‹_› | exact fi_Mul_con ‹_›), ?_⟩; refine go_ ?_))) <;> (first | done | rfl | trivial | (simp; done))))
    exact key _ _ _ _ _ _ _ _ h)
end Go.Proofs.Ytalnaafmonmlmaa.Q
end
section
set_option linter.unusedVariables false
namespace Go.Proofs.Ytalnaafmonmlmaa.Q
open Go.RowKit Go.TT Go.Proofs.YtalnaafmonmlmaaW.PrintWords
theorem lw.walk (P : lw.Pure) (a0_0 : Int) (a0_1 : Option Addr) (len0_1 cap0_1 : Nat) (z0_1 : List Int) (a1 : Option Addr) (len1 cap1 : Nat) (z1 : List Int) (w : World) (w0_0 : (Lit.int .i64 a0_0).wf = true) (w0_1 : (a0_1 = none ∧ len0_1 = 0 ∧ cap0_1 = 0 ∧ z0_1 = []) ∨ ∃ x, a0_1 = some x ∧ len0_1 ≤ cap0_1 ∧ cap0_1 ≤ maxLen ∧ z0_1.length = cap0_1 ∧ (∀ i, i < z0_1.length → w.cell? (x.add i) = some (.int .i64 (z0_1.getD i 0))) ∧ ∀ n ∈ z0_1, (Lit.int .i64 n).wf = true) (y0_1 : len0_1 * 8 ≤ 140737488351232) (w1 : (a1 = none ∧ len1 = 0 ∧ cap1 = 0 ∧ z1 = []) ∨ ∃ x, a1 = some x ∧ len1 ≤ cap1 ∧ cap1 ≤ maxLen ∧ z1.length = cap1 ∧ (∀ i, i < z1.length → w.cell? (x.add i) = some (.int .i64 (z1.getD i 0))) ∧ ∀ n ∈ z1, (Lit.int .i64 n).wf = true) (y1 : len1 * 8 ≤ 140737488351232) :
  Calls Try.prog 7 #[.agg #[.int .i64 a0_0, .slice a0_1 len0_1 cap0_1], .slice a1 len1 cap1] w fun e w' => e = .returned (.bool true) ∧ Below w.heap.size w w' := by
 obtain ⟨l0_1, rfl, hr0_1, hm0_1, hw0_1, hc0_1⟩ := ReadsInt.ofRowC w0_1
 obtain ⟨l1, rfl, hr1, hm1, hw1, hc1⟩ := ReadsInt.ofRowC w1
 obtain ⟨k, h⟩ := P a0_0 l0_1 l1 w0_0 hm0_1 y0_1 hw0_1 hm1 y1 hw1
 exact Con.law (lw_con h) (args_c ⟨_, ⟨[_], _, rfl, rfl, ⟨[_], _, rfl, (Vs_sl.1 (reads_Vs hr0_1.2.2 hc0_1)), rfl⟩⟩, rfl⟩ (args_c (reads_Vs hr1.2.2 hc1) args_0))
end Go.Proofs.Ytalnaafmonmlmaa.Q
end

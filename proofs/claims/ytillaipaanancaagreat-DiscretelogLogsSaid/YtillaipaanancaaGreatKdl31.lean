/- Machine side and arithmetic of the law, put together by a program of the session. No conditions. -/
import Derived.Test.YtillaipaanancaaGreatKdl15
import Derived.Test.YtillaipaanancaaGreatKdl19
import Derived.Test.YtillaipaanancaaGreatKdl24
import Derived.Test.YtillaipaanancaaGreatKdl26
import Derived.Test.YtillaipaanancaaGreatKdl27
import Derived.Test.YtillaipaanancaaGreatKdl28
import Derived.Test.YtillaipaanancaaGreatKdl29
import Derived.Test.YtillaipaanancaaGreatKdl30
section
set_option linter.unusedVariables false
set_option maxRecDepth 100000
set_option maxHeartbeats 8000000
namespace Go.Proofs.YtillaipaanancaaGreat.Q
open Go.RowKit Go.TT Go.Proofs.YtillaipaanancaaGreatW.PrintWords
theorem discretelog_Roots_con {k : Nat} {a0_0 : Int} {l0_1 : List Int} {l1 : List Int} {a2 : Int} {r1 : List (List Int)} {r2 : Int} (h : discretelog_Roots.f k a0_0 l0_1 l1 a2 = some (r1, r2)) : Con Tryz.prog 20 [⟨.pr (.int .i64) (.pr (.sl 3 (.int .i64)) (.un)), (a0_0, (l0_1, ()))⟩, ⟨.sl 3 (.int .i64), l1⟩, ⟨.int .i64, a2⟩] [(false, ⟨.sl 23 (.sl 3 (.int .i64)), r1⟩), (false, ⟨.int .i64, r2⟩)] := by
 refine conm_ (ps := [0, 1, 2, 3, 4, 5, 6, 7, 8, 9, 10, 11, 13, 23, 30, 33, 34, 35, 41, 60]) (res := [(6, none), (7, none)]) [11] ?_ Tryz.func20 Tryz.ntmps20
 refine go_ ?_
 unfold discretelog_Roots.f at h
 replace h := hs_ h
 refine bnf h ?_; clear h; rintro ⟨p, l, q, e⟩ ht h
 repeat (first | refine fg_ ?_ | refine pg_ ?_ | refine qg_ ?_ | refine an_ ?_ | refine ip_ ?_ | refine in_ ?_)
 refine .inl ⟨_, discretelog_open_con ht, ?_⟩; refine go_ ?_
 simp only at h
 split at h
 rotate_left
 ·cases h
  repeat (first | refine fg_ ?_ | refine pg_ ?_ | refine qg_ ?_ | refine an_ ?_ | refine ip_ ?_ | refine in_ ?_)
  first | done | rfl | trivial | exact ⟨rfl, rfl⟩ | (simp; done)
 split at h
 ·cases h
  repeat (first | refine fg_ ?_ | refine pg_ ?_ | refine qg_ ?_ | refine an_ ?_ | refine ip_ ?_ | refine in_ ?_)
  first | done | rfl | trivial | exact ⟨rfl, rfl⟩ | (simp; done)
 split at h
 ·cases h
  repeat (first | refine fg_ ?_ | refine pg_ ?_ | refine qg_ ?_ | refine an_ ?_ | refine ip_ ?_ | refine in_ ?_)
  first | done | rfl | trivial | exact ⟨rfl, rfl⟩ | (simp; done)
 split at h
 rotate_left
 ·cases h
 rename_i hq
 obtain ⟨M, rfl⟩ : ∃ M : Nat, q = (M : Int) := ⟨q.toNat, by omega⟩
 rw [Int.toNat_natCast] at h
 refine bnf h ?_; clear h; intro out hout h
 split at h
 rotate_left
 ·cases h
 rename_i hall
 cases h
 repeat (first | refine fg_ ?_ | refine pg_ ?_ | refine qg_ ?_ | refine an_ ?_ | refine ip_ ?_ | refine in_ ?_)
 refine .inl ⟨_, gFElements_con, ?_⟩; refine go_ ?_
 refine rfG [(4, .box), (5, .box), (8, .box), (11, .ibx)] ((fun out' : List (List Int) => (⟨lkp .bot [(11, .ptr 22 0 []), (8, .ptr 16 0 []), (5, .ptr 10 0 []), (4, .ptr 8 0 [])], lkp none [(22, some ⟨40, .id 23 (.sl 3 (.int .i64)), [1], true⟩), (1, some ⟨23, .sl 3 (.int .i64), out', true⟩), (16, some ⟨87, .pr (.pr (.int .i64) (.pr (.sl 3 (.int .i64)) (.un))) (.un), [((p, (l, ())), ())], true⟩), (10, some ⟨3, .int .i64, [a2], true⟩), (8, some ⟨23, .sl 3 (.int .i64), [l1], true⟩)], 1⟩ : FS)) []) (by first | rfl | kernel_rfl) (by rfl) ?_
 refine go_ ?_
 refine ⟨M, _, _, Elements1_vis (K := k) (by omega) (el := fun i => (gFElement.f k p l (i : Int)).getD []), fun i => rfl, ?_⟩
 refine rf_inds (fun out' : List (List Int) => (⟨lkp .bot [(11, .ptr 22 0 []), (8, .ptr 16 0 []), (5, .ptr 10 0 []), (4, .ptr 8 0 [])], lkp none [(22, some ⟨40, .id 23 (.sl 3 (.int .i64)), [1], true⟩), (1, some ⟨23, .sl 3 (.int .i64), out', true⟩), (16, some ⟨87, .pr (.pr (.int .i64) (.pr (.sl 3 (.int .i64)) (.un))) (.un), [((p, (l, ())), ())], true⟩), (10, some ⟨3, .int .i64, [a2], true⟩), (8, some ⟨23, .sl 3 (.int .i64), [l1], true⟩)], 1⟩ : FS)) (fun i out' => out'.length ≤ 5864062014805 ∧ ∃ j, discretelog_Roots.l0 k p l l1 a2 M j i out' = some out) ⟨by simp, _, hout⟩ ?_ ?_
 ·clear hout
  rintro i out' X hi ⟨hl, j, h⟩ hX
  rcases j with _ | j
  ·cases h
  unfold discretelog_Roots.l0 at h
  rw [if_pos hi] at h
  replace h := hs_ h
  refine bnf h ?_; clear h; intro x hx h
  refine bnf h ?_; clear h; intro y hy h
  refine bnf h ?_; clear h; intro b hb h
  simp only [hx, Option.getD_some]
  refine ⟨trivial, ?_⟩
  refine go_ ?_
  repeat (first | refine fg_ ?_ | refine pg_ ?_ | refine qg_ ?_ | refine an_ ?_ | refine ip_ ?_ | refine in_ ?_)
  refine .inl ⟨_, gFPow_con hy, ?_⟩; refine go_ ?_
  repeat (first | refine fg_ ?_ | refine pg_ ?_ | refine qg_ ?_ | refine an_ ?_ | refine ip_ ?_ | refine in_ ?_)
  refine .inl ⟨_, api_ModPoly_int_66_con hb, ?_⟩; refine go_ ?_
  split at h
  ·split at h
   ·repeat (first | refine fg_ ?_ | refine pg_ ?_ | refine qg_ ?_ | refine an_ ?_ | refine ip_ ?_ | refine in_ ?_)
    exact hX _ ⟨by rw [List.length_append]; simp; omega, j, h⟩
   ·cases h
  ·repeat (first | refine fg_ ?_ | refine pg_ ?_ | refine qg_ ?_ | refine an_ ?_ | refine ip_ ?_ | refine in_ ?_)
   exact hX _ ⟨hl, j, h⟩
 ·rintro out' ⟨hl, j, hj⟩
  rcases j with _ | j
  ·cases hj
  unfold discretelog_Roots.l0 at hj
  rw [if_neg (by omega)] at hj
  cases hj
  refine go_ ?_
  repeat (first | refine fg_ ?_ | refine pg_ ?_ | refine qg_ ?_ | refine an_ ?_ | refine ip_ ?_ | refine in_ ?_)
  refine .inr ⟨rfl, _, _, _, _, _, _, rfl, rfl, rfl, rfl, rfl, rfl, sort_conS (xs := out) (by omega) (fun x hx => of_decide_eq_true (List.all_eq_true.1 hall x hx)), ?_⟩
  refine go_ ?_
  repeat (first | refine fg_ ?_ | refine pg_ ?_ | refine qg_ ?_ | refine an_ ?_ | refine ip_ ?_ | refine in_ ?_)
  first | done | rfl | trivial | exact ⟨rfl, rfl⟩ | (simp; done)
theorem galoislaw18_awake_con {k : Nat}  {r : Bool} (h : galoislaw18_awake.f k = some r) : Con Tryz.prog 10 [] [(false, ⟨.bool, r⟩)] := by
 refine con_ (ps := [0, 1, 2, 3, 4, 5, 6, 7, 8, 9, 10, 67]) (res := [(0, none)]) ?_ Tryz.func10 Tryz.ntmps10
 refine go_ ?_
 unfold galoislaw18_awake.f at h
 replace h := hs_ h
 repeat' (first | split at h | (refine bnf h fun t e h => ?_; (repeat (first | refine fg_ ?_ | refine pg_ ?_ | refine qg_ ?_ | refine an_ ?_ | refine ip_ ?_ | refine in_ ?_)); refine .inl ⟨_, (by first | exact galoislaw18_seven_con e | exact discretelog_Table_con e | exact galoislaw18_four_con e | exact discretelog_Zech_con e | exact discretelog_Roots_con e | exact galoislaw18_eight_con e | exact discretelog_Cosets_con e | exact discretelog_Log_con e | exact galoislaw18_same_con e | exact r9SameLists_con e), ?_⟩; refine go_ ?_) | (refine bnf h fun t e h => ?_; (repeat (first | refine fg_ ?_ | refine pg_ ?_ | refine qg_ ?_ | refine an_ ?_ | refine ip_ ?_ | refine in_ ?_ | (refine .inl ⟨_, (by first | exact galoislaw18_seven_con ‹_› | exact discretelog_Table_con ‹_› | exact galoislaw18_four_con ‹_› | exact discretelog_Zech_con ‹_› | exact discretelog_Roots_con ‹_› | exact galoislaw18_eight_con ‹_› | exact discretelog_Cosets_con ‹_› | exact discretelog_Log_con ‹_› | exact galoislaw18_same_con ‹_› | exact r9SameLists_con ‹_›), ?_⟩; refine go_ ?_))); refine .inl ⟨_, (by first | exact galoislaw18_seven_con e | exact discretelog_Table_con e | exact galoislaw18_four_con e | exact discretelog_Zech_con e | exact discretelog_Roots_con e | exact galoislaw18_eight_con e | exact discretelog_Cosets_con e | exact discretelog_Log_con e | exact galoislaw18_same_con e | exact r9SameLists_con e), ?_⟩; refine go_ ?_) | (rcases k with _ | k; (· cases h); unfold galoislaw18_awake.j0 at h; replace h := hs_ h) | fail)
 all_goals (first | (cases h <;> (repeat (first | refine fg_ ?_ | refine pg_ ?_ | refine qg_ ?_ | refine an_ ?_ | refine ip_ ?_ | refine in_ ?_ | (refine .inl ⟨_, (by first | exact galoislaw18_seven_con ‹_› | exact discretelog_Table_con ‹_› | exact galoislaw18_four_con ‹_› | exact discretelog_Zech_con ‹_› | exact discretelog_Roots_con ‹_› | exact galoislaw18_eight_con ‹_› | exact discretelog_Cosets_con ‹_› | exact discretelog_Log_con ‹_› | exact galoislaw18_same_con ‹_› | exact r9SameLists_con ‹_›), ?_⟩; refine go_ ?_))) <;> (first | done | rfl | trivial | (simp; done) | (exfalso; omega))) | (exfalso; omega))
theorem galoislaw18_DiscretelogLogs_con {k : Nat} {a0_0 : Int} {l0_1 : List Int} {l1_0 : List Int} {l1_1 : List Int} {r : Bool} (h : galoislaw18_DiscretelogLogs.f k a0_0 l0_1 l1_0 l1_1 = some r) : Con Tryz.prog 3 [⟨.pr (.int .i64) (.pr (.sl 3 (.int .i64)) (.un)), (a0_0, (l0_1, ()))⟩, ⟨.pr (.sl 3 (.int .i64)) (.pr (.sl 3 (.int .i64)) (.un)), (l1_0, (l1_1, ()))⟩] [(false, ⟨.bool, r⟩)] := by
 refine con_ (ps := [0, 1, 2, 3, 4, 5, 6, 7, 42, 67, 75, 77]) (res := [(4, none)]) ?_ Tryz.func3 Tryz.ntmps3
 refine go_ ?_
 unfold galoislaw18_DiscretelogLogs.f at h
 replace h := hs_ h
 repeat' (first | (refine ifc h ?_ ?_ <;> clear h <;> intro e h) | split at h | (refine bnf h fun t e h => ?_; (repeat (first | refine fg_ ?_ | refine pg_ ?_ | refine qg_ ?_ | refine an_ ?_ | refine ip_ ?_ | refine in_ ?_)); refine .inl ⟨_, (by first | exact galoislaw18_awake_con e | exact r15Check_con e | exact r15Few_con e | exact r15Size_con e | exact discretelog_Log_con e | exact galoisref18_CheckSmall_con e | exact galoisref18_IsGenerator_con e | exact galoisref18_Table_con e | exact r15Number_con e), ?_⟩; refine go_ ?_) | (refine bnf h fun t e h => ?_; (repeat (first | refine fg_ ?_ | refine pg_ ?_ | refine qg_ ?_ | refine an_ ?_ | refine ip_ ?_ | refine in_ ?_ | (refine .inl ⟨_, (by first | exact galoislaw18_awake_con ‹_› | exact r15Check_con ‹_› | exact r15Few_con ‹_› | exact r15Size_con ‹_› | exact discretelog_Log_con ‹_› | exact galoisref18_CheckSmall_con ‹_› | exact galoisref18_IsGenerator_con ‹_› | exact galoisref18_Table_con ‹_› | exact r15Number_con ‹_›), ?_⟩; refine go_ ?_))); refine .inl ⟨_, (by first | exact galoislaw18_awake_con e | exact r15Check_con e | exact r15Few_con e | exact r15Size_con e | exact discretelog_Log_con e | exact galoisref18_CheckSmall_con e | exact galoisref18_IsGenerator_con e | exact galoisref18_Table_con e | exact r15Number_con e), ?_⟩; refine go_ ?_) | (rcases k with _ | k; (· cases h); unfold galoislaw18_DiscretelogLogs.j0 at h; replace h := hs_ h) | (rcases k with _ | k; (· cases h); unfold galoislaw18_DiscretelogLogs.j1 at h; replace h := hs_ h) | (rcases k with _ | k; (· cases h); unfold galoislaw18_DiscretelogLogs.j2 at h; replace h := hs_ h) | (rcases k with _ | k; (· cases h); unfold galoislaw18_DiscretelogLogs.j3 at h; replace h := hs_ h) | (rcases k with _ | k; (· cases h); unfold galoislaw18_DiscretelogLogs.j4 at h; replace h := hs_ h) | fail)
 all_goals (first | (cases h <;> (repeat (first | refine fg_ ?_ | refine pg_ ?_ | refine qg_ ?_ | refine an_ ?_ | refine ip_ ?_ | refine in_ ?_ | (refine .inl ⟨_, (by first | exact galoislaw18_awake_con ‹_› | exact r15Check_con ‹_› | exact r15Few_con ‹_› | exact r15Size_con ‹_› | exact discretelog_Log_con ‹_› | exact galoisref18_CheckSmall_con ‹_› | exact galoisref18_IsGenerator_con ‹_› | exact galoisref18_Table_con ‹_› | exact r15Number_con ‹_›), ?_⟩; refine go_ ?_))) <;> (first | done | rfl | trivial | (simp; done) | (exfalso; omega))) | (exfalso; omega))
end Go.Proofs.YtillaipaanancaaGreat.Q
end
section
set_option linter.unusedVariables false
namespace Go.Proofs.YtillaipaanancaaGreat.Q
open Go.RowKit Go.TT Go.Proofs.YtillaipaanancaaGreatW.PrintWords
theorem galoislaw18_DiscretelogLogs.walk (P : galoislaw18_DiscretelogLogs.Pure) (a0_0 : Int) (a0_1 : Option Addr) (len0_1 cap0_1 : Nat) (z0_1 : List Int) (a1_0 : Option Addr) (len1_0 cap1_0 : Nat) (z1_0 : List Int) (a1_1 : Option Addr) (len1_1 cap1_1 : Nat) (z1_1 : List Int) (w : World) (w0_0 : (Lit.int .i64 a0_0).wf = true) (w0_1 : (a0_1 = none ∧ len0_1 = 0 ∧ cap0_1 = 0 ∧ z0_1 = []) ∨ ∃ x, a0_1 = some x ∧ len0_1 ≤ cap0_1 ∧ cap0_1 ≤ maxLen ∧ z0_1.length = cap0_1 ∧ (∀ i, i < z0_1.length → w.cell? (x.add i) = some (.int .i64 (z0_1.getD i 0))) ∧ ∀ n ∈ z0_1, (Lit.int .i64 n).wf = true) (y0_1 : len0_1 * 8 ≤ 140737488351232) (w1_0 : (a1_0 = none ∧ len1_0 = 0 ∧ cap1_0 = 0 ∧ z1_0 = []) ∨ ∃ x, a1_0 = some x ∧ len1_0 ≤ cap1_0 ∧ cap1_0 ≤ maxLen ∧ z1_0.length = cap1_0 ∧ (∀ i, i < z1_0.length → w.cell? (x.add i) = some (.int .i64 (z1_0.getD i 0))) ∧ ∀ n ∈ z1_0, (Lit.int .i64 n).wf = true) (y1_0 : len1_0 * 8 ≤ 140737488351232) (w1_1 : (a1_1 = none ∧ len1_1 = 0 ∧ cap1_1 = 0 ∧ z1_1 = []) ∨ ∃ x, a1_1 = some x ∧ len1_1 ≤ cap1_1 ∧ cap1_1 ≤ maxLen ∧ z1_1.length = cap1_1 ∧ (∀ i, i < z1_1.length → w.cell? (x.add i) = some (.int .i64 (z1_1.getD i 0))) ∧ ∀ n ∈ z1_1, (Lit.int .i64 n).wf = true) (y1_1 : len1_1 * 8 ≤ 140737488351232) :
  Calls Tryz.prog 3 #[.agg #[.int .i64 a0_0, .slice a0_1 len0_1 cap0_1], .agg #[.slice a1_0 len1_0 cap1_0, .slice a1_1 len1_1 cap1_1]] w fun e w' => e = .returned (.bool true) ∧ Below w.heap.size w w' := by
 obtain ⟨l0_1, rfl, hr0_1, hm0_1, hw0_1, hc0_1⟩ := ReadsInt.ofRowC w0_1
 obtain ⟨l1_0, rfl, hr1_0, hm1_0, hw1_0, hc1_0⟩ := ReadsInt.ofRowC w1_0
 obtain ⟨l1_1, rfl, hr1_1, hm1_1, hw1_1, hc1_1⟩ := ReadsInt.ofRowC w1_1
 obtain ⟨k, h⟩ := P a0_0 l0_1 l1_0 l1_1 w0_0 hm0_1 y0_1 hw0_1 hm1_0 y1_0 hw1_0 hm1_1 y1_1 hw1_1
 exact Con.law (galoislaw18_DiscretelogLogs_con h) (args_c ⟨_, ⟨[_], _, rfl, rfl, ⟨[_], _, rfl, (Vs_sl.1 (reads_Vs hr0_1.2.2 hc0_1)), rfl⟩⟩, rfl⟩ (args_c ⟨_, ⟨[_], _, rfl, (Vs_sl.1 (reads_Vs hr1_0.2.2 hc1_0)), ⟨[_], _, rfl, (Vs_sl.1 (reads_Vs hr1_1.2.2 hc1_1)), rfl⟩⟩, rfl⟩ args_0))
end Go.Proofs.YtillaipaanancaaGreat.Q
end

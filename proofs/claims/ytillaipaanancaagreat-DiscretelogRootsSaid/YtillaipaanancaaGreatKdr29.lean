/- Machine side and arithmetic of the law, put together by a program of the session. No conditions. -/
import Derived.Test.YtillaipaanancaaGreatKdr14
import Derived.Test.YtillaipaanancaaGreatKdr18
import Derived.Test.YtillaipaanancaaGreatKdr22
import Derived.Test.YtillaipaanancaaGreatKdr24
import Derived.Test.YtillaipaanancaaGreatKdr25
import Derived.Test.YtillaipaanancaaGreatKdr26
import Derived.Test.YtillaipaanancaaGreatKdr27
import Derived.Test.YtillaipaanancaaGreatKdr28
section
set_option linter.unusedVariables false
set_option maxRecDepth 100000
set_option maxHeartbeats 8000000
namespace Go.Proofs.YtillaipaanancaaGreat.Q
open Go.RowKit Go.TT Go.Proofs.YtillaipaanancaaGreatW.PrintWords
theorem dl_Roots_con {k : Nat} {a0_0 : Int} {l0_1 : List Int} {l1 : List Int} {a2 : Int} {r1 : List (List Int)} {r2 : Int} (h : dl_Roots.f k a0_0 l0_1 l1 a2 = some (r1, r2)) : Con Tryz.prog 20 [⟨.pr (.int .i64) (.pr (.sl 3 (.int .i64)) (.un)), (a0_0, (l0_1, ()))⟩, ⟨.sl 3 (.int .i64), l1⟩, ⟨.int .i64, a2⟩] [(false, ⟨.sl 23 (.sl 3 (.int .i64)), r1⟩), (false, ⟨.int .i64, r2⟩)] := by
 refine conm_ (ps := [0, 1, 2, 3, 4, 5, 6, 7, 8, 9, 10, 11, 13, 23, 30, 33, 34, 35, 41, 60]) (res := [(6, none), (7, none)]) [11] ?_ Tryz.func20 Tryz.ntmps20
 refine go_ ?_
 unfold dl_Roots.f at h
 replace h := hs_ h
 refine bnf h ?_; clear h; rintro ⟨p, l, q, e⟩ ht h
 repeat (first | refine g6_ ?_)
 refine .inl ⟨_, dl_open_con ht, ?_⟩; refine go_ ?_
 simp only at h
 split at h
 rotate_left
 ·cases h
  repeat (first | refine g6_ ?_)
  first | done | rfl | trivial | exact ⟨rfl, rfl⟩ | (simp; done)
 split at h
 ·cases h
  repeat (first | refine g6_ ?_)
  first | done | rfl | trivial | exact ⟨rfl, rfl⟩ | (simp; done)
 split at h
 ·cases h
  repeat (first | refine g6_ ?_)
  first | done | rfl | trivial | exact ⟨rfl, rfl⟩ | (simp; done)
 split at h
 rotate_left
 ·cases h
 rename_i hq
 obtain ⟨M, rfl⟩ : ∃ M : Nat, q = (M : Int) := ⟨q.toNat, by omega⟩
 rw [Int.toNat_natCast] at h
 refine bnf h ?_; clear h; intro out hout h
 split at h
 rotate_left
 ·cases h
 rename_i hall
 cases h
 repeat (first | refine g6_ ?_)
 refine .inl ⟨_, gFElements_con, ?_⟩; refine go_ ?_
 refine rfG [(4, .box), (5, .box), (8, .box), (11, .ibx)] ((fun out' : List (List Int) => (⟨lkp .bot [(11, .ptr 22 0 []), (8, .ptr 16 0 []), (5, .ptr 10 0 []), (4, .ptr 8 0 [])], lkp none [(22, some ⟨40, .id 23 (.sl 3 (.int .i64)), [1], true⟩), (1, some ⟨23, .sl 3 (.int .i64), out', true⟩), (16, some ⟨87, .pr (.pr (.int .i64) (.pr (.sl 3 (.int .i64)) (.un))) (.un), [((p, (l, ())), ())], true⟩), (10, some ⟨3, .int .i64, [a2], true⟩), (8, some ⟨23, .sl 3 (.int .i64), [l1], true⟩)], 1⟩ : FS)) []) (by first | rfl | kernel_rfl) (by rfl) ?_
 refine go_ ?_
 refine ⟨M, _, _, Elements1_vis (K := k) (by omega) (el := fun i => (gFElement.f k p l (i : Int)).getD []), fun i => rfl, ?_⟩
 refine rf_inds (fun out' : List (List Int) => (⟨lkp .bot [(11, .ptr 22 0 []), (8, .ptr 16 0 []), (5, .ptr 10 0 []), (4, .ptr 8 0 [])], lkp none [(22, some ⟨40, .id 23 (.sl 3 (.int .i64)), [1], true⟩), (1, some ⟨23, .sl 3 (.int .i64), out', true⟩), (16, some ⟨87, .pr (.pr (.int .i64) (.pr (.sl 3 (.int .i64)) (.un))) (.un), [((p, (l, ())), ())], true⟩), (10, some ⟨3, .int .i64, [a2], true⟩), (8, some ⟨23, .sl 3 (.int .i64), [l1], true⟩)], 1⟩ : FS)) (fun i out' => out'.length ≤ 5864062014805 ∧ ∃ j, dl_Roots.l0 k p l l1 a2 M j i out' = some out) ⟨by simp, _, hout⟩ ?_ ?_
 ·clear hout
  rintro i out' X hi ⟨hl, j, h⟩ hX
  rcases j with _ | j
  ·cases h
  unfold dl_Roots.l0 at h
  rw [if_pos hi] at h
  replace h := hs_ h
  refine bnf h ?_; clear h; intro x hx h
  refine bnf h ?_; clear h; intro y hy h
  refine bnf h ?_; clear h; intro b hb h
  simp only [hx, Option.getD_some]
  refine ⟨trivial, ?_⟩
  refine go_ ?_
  repeat (first | refine g6_ ?_)
  refine .inl ⟨_, gFPow_con hy, ?_⟩; refine go_ ?_
  repeat (first | refine g6_ ?_)
  refine .inl ⟨_, api_ModPoly_int_66_con hb, ?_⟩; refine go_ ?_
  split at h
  ·split at h
   ·repeat (first | refine g6_ ?_)
    exact hX _ ⟨by rw [List.length_append]; simp; omega, j, h⟩
   ·cases h
  ·repeat (first | refine g6_ ?_)
   exact hX _ ⟨hl, j, h⟩
 ·rintro out' ⟨hl, j, hj⟩
  rcases j with _ | j
  ·cases hj
  unfold dl_Roots.l0 at hj
  rw [if_neg (by omega)] at hj
  cases hj
  refine go_ ?_
  repeat (first | refine g6_ ?_)
  refine .inr ⟨rfl, _, _, _, _, _, _, rfl, rfl, rfl, rfl, rfl, rfl, sort_conS (xs := out) (by omega) (fun x hx => of_decide_eq_true (List.all_eq_true.1 hall x hx)), ?_⟩
  refine go_ ?_
  repeat (first | refine g6_ ?_)
  first | done | rfl | trivial | exact ⟨rfl, rfl⟩ | (simp; done)
theorem l18awake_con {k : Nat}  {r : Bool} (h : l18awake.f k = some r) : Con Tryz.prog 10 [] [(false, ⟨.bool, r⟩)] := by
 refine con_ (ps := [0, 1, 2, 3, 4, 5, 6, 7, 8, 9, 10, 67]) (res := [(0, none)]) ?_ Tryz.func10 Tryz.ntmps10
 refine go_ ?_
 unfold l18awake.f at h
 replace h := hs_ h
 repeat' (first | split at h | (refine bnf h fun t e h => ?_; (repeat (first | refine g6_ ?_)); refine .inl ⟨_, (by first | exact l18seven_con e | exact dl_Table_con e | exact l18four_con e | exact dl_Zech_con e | exact dl_Roots_con e | exact l18eight_con e | exact dl_Cosets_con e | exact dl_Log_con e | exact l18same_con e | exact r9SameLists_con e), ?_⟩; refine go_ ?_) | (refine bnf h fun t e h => ?_; (repeat (first | refine g6_ ?_ | (refine .inl ⟨_, (by first | exact l18seven_con ‹_› | exact dl_Table_con ‹_› | exact l18four_con ‹_› | exact dl_Zech_con ‹_› | exact dl_Roots_con ‹_› | exact l18eight_con ‹_› | exact dl_Cosets_con ‹_› | exact dl_Log_con ‹_› | exact l18same_con ‹_› | exact r9SameLists_con ‹_›), ?_⟩; refine go_ ?_))); refine .inl ⟨_, (by first | exact l18seven_con e | exact dl_Table_con e | exact l18four_con e | exact dl_Zech_con e | exact dl_Roots_con e | exact l18eight_con e | exact dl_Cosets_con e | exact dl_Log_con e | exact l18same_con e | exact r9SameLists_con e), ?_⟩; refine go_ ?_) | (rcases k with _ | k; (· cases h); unfold l18awake.j0 at h; replace h := hs_ h) | fail)
 all_goals (first | (cases h <;> (repeat (first | refine g6_ ?_ | (refine .inl ⟨_, (by first | exact l18seven_con ‹_› | exact dl_Table_con ‹_› | exact l18four_con ‹_› | exact dl_Zech_con ‹_› | exact dl_Roots_con ‹_› | exact l18eight_con ‹_› | exact dl_Cosets_con ‹_› | exact dl_Log_con ‹_› | exact l18same_con ‹_› | exact r9SameLists_con ‹_›), ?_⟩; refine go_ ?_))) <;> (first | done | rfl | trivial | (simp; done) | (exfalso; omega))) | (exfalso; omega))
theorem lw_con {k : Nat} {a0_0 : Int} {l0_1 : List Int} {l1 : List Int} {a2 : Int} {r : Bool} (h : lw.f k a0_0 l0_1 l1 a2 = some r) : Con Tryz.prog 4 [⟨.pr (.int .i64) (.pr (.sl 3 (.int .i64)) (.un)), (a0_0, (l0_1, ()))⟩, ⟨.sl 3 (.int .i64), l1⟩, ⟨.int .i64, a2⟩] [(false, ⟨.bool, r⟩)] := by
 refine con_ (ps := [0, 1, 2, 3, 6, 7, 8, 9, 10, 11, 12, 13, 25, 42, 50, 61, 65, 77, 87, 89]) (res := [(6, none)]) ?_ Tryz.func4 Tryz.ntmps4
 refine go_ ?_
 unfold lw.f at h
 replace h := hs_ h
 repeat' (first | split at h | (refine ifc h ?_ ?_ <;> clear h <;> intro e h) | (refine bnf h fun t e h => ?_; (repeat (first | refine fg_ ?_ | refine pg_ ?_ | refine qg_ ?_ | refine an_ ?_ | refine ip_ ?_ | refine in_ ?_)); refine .inl ⟨_, (by first | exact l18awake_con e | exact l18light_con e | exact dl_Roots_con e | exact dl_Cosets_con e | exact r18CheckSmall_con e | exact r18Cosets_con e | exact l18same_con e | exact r4IsModulus_con e | exact r18Roots_con e | exact r9SameLists_con e), ?_⟩; refine go_ ?_) | (refine bnf h fun t e h => ?_; (repeat (first | refine fg_ ?_ | refine pg_ ?_ | refine qg_ ?_ | refine an_ ?_ | refine ip_ ?_ | refine in_ ?_ | (refine .inl ⟨_, (by first | exact l18awake_con ‹_› | exact l18light_con ‹_› | exact dl_Roots_con ‹_› | exact dl_Cosets_con ‹_› | exact r18CheckSmall_con ‹_› | exact r18Cosets_con ‹_› | exact l18same_con ‹_› | exact r4IsModulus_con ‹_› | exact r18Roots_con ‹_› | exact r9SameLists_con ‹_›), ?_⟩; refine go_ ?_))); refine .inl ⟨_, (by first | exact l18awake_con e | exact l18light_con e | exact dl_Roots_con e | exact dl_Cosets_con e | exact r18CheckSmall_con e | exact r18Cosets_con e | exact l18same_con e | exact r4IsModulus_con e | exact r18Roots_con e | exact r9SameLists_con e), ?_⟩; refine go_ ?_) | (rcases k with _ | k; (· cases h); unfold lw.j0 at h; replace h := hs_ h) | (rcases k with _ | k; (· cases h); unfold lw.j3 at h; replace h := hs_ h) | (rcases k with _ | k; (· cases h); unfold lw.j4 at h; replace h := hs_ h) | (rcases k with _ | k; (· cases h); unfold lw.j5 at h; replace h := hs_ h) | (rcases k with _ | k; (· cases h); unfold lw.j1 at h; replace h := hs_ h) | fail)
 all_goals first
  | (cases h <;> (repeat (first | refine fg_ ?_ | refine pg_ ?_ | refine qg_ ?_ | refine an_ ?_ | refine ip_ ?_ | refine in_ ?_ | (refine .inl ⟨_, (by first | exact l18awake_con ‹_› | exact l18light_con ‹_› | exact dl_Roots_con ‹_› | exact dl_Cosets_con ‹_› | exact r18CheckSmall_con ‹_› | exact r18Cosets_con ‹_› | exact l18same_con ‹_› | exact r4IsModulus_con ‹_› | exact r18Roots_con ‹_› | exact r9SameLists_con ‹_›), ?_⟩; refine go_ ?_))) <;> (first | done | rfl | trivial | (simp; done) | (exfalso; omega)))
  | (exfalso; omega)
  | (
    (with_reducible have h : lw.l0 _ _ _ _ _ _ _ _ _ _ = some r := h)
    repeat (first | refine fg_ ?_ | refine pg_ ?_ | refine qg_ ?_ | refine an_ ?_ | refine ip_ ?_ | refine in_ ?_ | (refine .inl ⟨_, (by first | exact l18awake_con ‹_› | exact l18light_con ‹_› | exact dl_Roots_con ‹_› | exact dl_Cosets_con ‹_› | exact r18CheckSmall_con ‹_› | exact r18Cosets_con ‹_› | exact l18same_con ‹_› | exact r4IsModulus_con ‹_› | exact r18Roots_con ‹_› | exact r9SameLists_con ‹_›), ?_⟩; refine go_ ?_))
    refine lp [(1, .row 3 (.int .i64)), (2, .keep), (7, .row 23 (.sl 3 (.int .i64))), (8, .keep), (9, .row 22 (.sl 3 (.int .i64))), (12, .row 22 (.sl 3 (.int .i64))), (13, .keep), (3, .box)] fun X0 hX0 => ?_
    refine go_ ?_
    have key : ∀ k x1 x2 x7 x8 x9 x12 x13 x102000 x102001, lw.l0 k x1 x2 x7 x8 x9 x12 x13 x102000 x102001 = some r → X0 ⟨lkp .bot [(3, .ptr 6 0 []), (13, .ro (.int .i64) x13), (12, .ro (.sl 22 (.sl 3 (.int .i64))) x12), (9, .ro (.sl 22 (.sl 3 (.int .i64))) x9), (8, .ro (.int .i64) x8), (7, .ro (.sl 23 (.sl 3 (.int .i64))) x7), (2, .ro (.int .i64) x2), (1, .ro (.sl 3 (.int .i64)) x1)], lkp none [(6, some ⟨25, .pr (.int .i64) (.pr (.sl 3 (.int .i64)) (.un)), [(x102000, (x102001, ()))], true⟩)], 0⟩ := by
     refine sind fun k ih0 x1 x2 x7 x8 x9 x12 x13 x102000 x102001 h => hX0 _ ?_
     clear hX0
     rcases k with _ | k
     ·cases h
     unfold lw.l0 at h
     replace h := hs_ h
     refine go_ ?_
     repeat' (first | split at h | (refine ifc h ?_ ?_ <;> clear h <;> intro e h) | (refine bnf h fun t e h => ?_; (repeat (first | refine fg_ ?_ | refine pg_ ?_ | refine qg_ ?_ | refine an_ ?_ | refine ip_ ?_ | refine in_ ?_)); refine .inl ⟨_, (by first | exact l18awake_con e | exact l18light_con e | exact dl_Roots_con e | exact dl_Cosets_con e | exact r18CheckSmall_con e | exact r18Cosets_con e | exact l18same_con e | exact r4IsModulus_con e | exact r18Roots_con e | exact r9SameLists_con e), ?_⟩; refine go_ ?_) | (refine bnf h fun t e h => ?_; (repeat (first | refine fg_ ?_ | refine pg_ ?_ | refine qg_ ?_ | refine an_ ?_ | refine ip_ ?_ | refine in_ ?_ | (refine .inl ⟨_, (by first | exact l18awake_con ‹_› | exact l18light_con ‹_› | exact dl_Roots_con ‹_› | exact dl_Cosets_con ‹_› | exact r18CheckSmall_con ‹_› | exact r18Cosets_con ‹_› | exact l18same_con ‹_› | exact r4IsModulus_con ‹_› | exact r18Roots_con ‹_› | exact r9SameLists_con ‹_›), ?_⟩; refine go_ ?_))); refine .inl ⟨_, (by first | exact l18awake_con e | exact l18light_con e | exact dl_Roots_con e | exact dl_Cosets_con e | exact r18CheckSmall_con e | exact r18Cosets_con e | exact l18same_con e | exact r4IsModulus_con e | exact r18Roots_con e | exact r9SameLists_con e), ?_⟩; refine go_ ?_) | (rcases k with _ | k; (· cases h); unfold lw.j0 at h; replace h := hs_ h) | (rcases k with _ | k; (· cases h); unfold lw.j3 at h; replace h := hs_ h) | (rcases k with _ | k; (· cases h); unfold lw.j4 at h; replace h := hs_ h) | (rcases k with _ | k; (· cases h); unfold lw.j5 at h; replace h := hs_ h) | (rcases k with _ | k; (· cases h); unfold lw.j1 at h; replace h := hs_ h) | fail)
     all_goals (first | ((repeat (first | refine fg_ ?_ | refine pg_ ?_ | refine qg_ ?_ | refine an_ ?_ | refine ip_ ?_ | refine in_ ?_ | (refine .inl ⟨_, (by first | exact l18awake_con ‹_› | exact l18light_con ‹_› | exact dl_Roots_con ‹_› | exact dl_Cosets_con ‹_› | exact r18CheckSmall_con ‹_› | exact r18Cosets_con ‹_› | exact l18same_con ‹_› | exact r4IsModulus_con ‹_› | exact r18Roots_con ‹_› | exact r9SameLists_con ‹_›), ?_⟩; refine go_ ?_))); exact ih0 _ (by omega) _ _ _ _ _ _ _ _ _ h) | (cases h <;> (repeat (first | refine fg_ ?_ | refine pg_ ?_ | refine qg_ ?_ | refine an_ ?_ | refine ip_ ?_ | refine in_ ?_ | (refine .inl ⟨_, (by first | exact l18awake_con ‹_› | exact l18light_con ‹_› | exact dl_Roots_con ‹_› | exact dl_Cosets_con ‹_› | exact r18CheckSmall_con ‹_› | exact r18Cosets_con ‹_› | exact l18same_con ‹_› | exact r4IsModulus_con ‹_› | exact r18Roots_con ‹_› | exact r9SameLists_con ‹_›), ?_⟩; refine go_ ?_))) <;> (first | done | rfl | trivial | (simp; done) | (exfalso; omega))) | (exfalso; omega))
    exact key _ _ _ _ _ _ _ _ _ _ h)
end Go.Proofs.YtillaipaanancaaGreat.Q
end
section
set_option linter.unusedVariables false
namespace Go.Proofs.YtillaipaanancaaGreat.Q
open Go.RowKit Go.TT Go.Proofs.YtillaipaanancaaGreatW.PrintWords
theorem lw.walk (P : lw.Pure) (a0_0 : Int) (a0_1 : Option Addr) (len0_1 cap0_1 : Nat) (z0_1 : List Int) (a1 : Option Addr) (len1 cap1 : Nat) (z1 : List Int) (a2 : Int) (w : World) (w0_0 : (Lit.int .i64 a0_0).wf = true) (w0_1 : (a0_1 = none ∧ len0_1 = 0 ∧ cap0_1 = 0 ∧ z0_1 = []) ∨ ∃ x, a0_1 = some x ∧ len0_1 ≤ cap0_1 ∧ cap0_1 ≤ maxLen ∧ z0_1.length = cap0_1 ∧ (∀ i, i < z0_1.length → w.cell? (x.add i) = some (.int .i64 (z0_1.getD i 0))) ∧ ∀ n ∈ z0_1, (Lit.int .i64 n).wf = true) (y0_1 : len0_1 * 8 ≤ 140737488351232) (w1 : (a1 = none ∧ len1 = 0 ∧ cap1 = 0 ∧ z1 = []) ∨ ∃ x, a1 = some x ∧ len1 ≤ cap1 ∧ cap1 ≤ maxLen ∧ z1.length = cap1 ∧ (∀ i, i < z1.length → w.cell? (x.add i) = some (.int .i64 (z1.getD i 0))) ∧ ∀ n ∈ z1, (Lit.int .i64 n).wf = true) (y1 : len1 * 8 ≤ 140737488351232) (w2 : (Lit.int .i64 a2).wf = true) :
  Calls Tryz.prog 4 #[.agg #[.int .i64 a0_0, .slice a0_1 len0_1 cap0_1], .slice a1 len1 cap1, .int .i64 a2] w fun e w' => e = .returned (.bool true) ∧ Below w.heap.size w w' := by
 obtain ⟨l0_1, rfl, hr0_1, hm0_1, hw0_1, hc0_1⟩ := ReadsInt.ofRowC w0_1
 obtain ⟨l1, rfl, hr1, hm1, hw1, hc1⟩ := ReadsInt.ofRowC w1
 obtain ⟨k, h⟩ := P a0_0 l0_1 l1 a2 w0_0 hm0_1 y0_1 hw0_1 hm1 y1 hw1 w2
 exact Con.law (lw_con h) (args_c ⟨_, ⟨[_], _, rfl, rfl, ⟨[_], _, rfl, (Vs_sl.1 (reads_Vs hr0_1.2.2 hc0_1)), rfl⟩⟩, rfl⟩ (args_c (reads_Vs hr1.2.2 hc1) (args_c (Vs_int.2 rfl) args_0)))
end Go.Proofs.YtillaipaanancaaGreat.Q
end

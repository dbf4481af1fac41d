/- Machine side and arithmetic of the law, put together by a program of the session. No conditions. -/
import Derived.Test.YtillaipaanancaaGreatKdr14
import Derived.Test.YtillaipaanancaaGreatKdr17
import Derived.Test.YtillaipaanancaaGreatKdr21
import Derived.Test.YtillaipaanancaaGreatKdr22
import Derived.Test.YtillaipaanancaaGreatKdr24
import Derived.Test.YtillaipaanancaaGreatKdr25
section
set_option linter.unusedVariables false
set_option maxRecDepth 100000
set_option maxHeartbeats 8000000
namespace Go.Proofs.YtillaipaanancaaGreat.Q
open Go.RowKit Go.TT Go.Proofs.YtillaipaanancaaGreatW.PrintWords
theorem gFElements_con {p : Int} {l : List Int} {q : Int} : Con Tryz.prog 65 [⟨.pr (.pr (.int .i64) (.pr (.sl 3 (.int .i64)) (.un))) (.un), ((p, (l, ())), ())⟩, ⟨.int .i64, q⟩] [(false, ⟨.fn (.func 112) .un (.pr (.rf (.int .i64)) (.pr (.rf (.pr (.pr (.int .i64) (.pr (.sl 3 (.int .i64)) (.un))) (.un))) .un)), ((), (q, (((p, (l, ())), ()), ())))⟩)] := by
 refine con_ (ps := [0, 1, 2, 3, 4, 5]) (res := [(4, none)]) ?_ Tryz.func65 Tryz.ntmps65
 refine go_ ?_
 exact ⟨rfl, rfl⟩
theorem Elements1_vis {K : Nat} {p : Int} {l : List Int} {N : Nat} (hN : N ≤ 4294967296) {el : Nat → List Int} : Vis Tryz.prog 112 [⟨.rf (.int .i64), (N : Int)⟩, ⟨.rf (.pr (.pr (.int .i64) (.pr (.sl 3 (.int .i64)) (.un))) (.un)), ((p, (l, ())), ())⟩] N
  (fun i => [⟨.int .i64, (i : Int)⟩, ⟨.sl 3 (.int .i64), el i⟩]) (fun i => gFElement.f K p l (i : Int) = some (el i)) :=
 Elements1_vis0 (E := fun i r => gFElement.f K p l i = some r) hN fun i r h => gFElement_con h
theorem gFPowers_con {p : Int} {l g : List Int} {n : Int} : Con Tryz.prog 57 [⟨.pr (.pr (.int .i64) (.pr (.sl 3 (.int .i64)) (.un))) (.un), ((p, (l, ())), ())⟩, ⟨.sl 3 (.int .i64), g⟩, ⟨.int .i64, n⟩] [(false, ⟨.fn (.func 107) .un (.pr (.rf (.pr (.pr (.int .i64) (.pr (.sl 3 (.int .i64)) (.un))) (.un))) (.pr (.rf (.int .i64)) (.pr (.rf (.sl 3 (.int .i64))) .un))), ((), (((p, (l, ())), ()), (n, (g, ()))))⟩)] := by
 refine con_ (ps := [0, 1, 2, 3, 4, 5, 6, 7]) (res := [(6, none)]) ?_ Tryz.func57 Tryz.ntmps57
 refine go_ ?_
 exact ⟨rfl, rfl⟩
def pwr (K : Nat) (p : Int) (l g : List Int) : Nat → List Int
 | 0 => [1]
 | i + 1 => (gFMul.f K p l (pwr K p l g i) g).getD []
theorem Powers1_vis {K : Nat} {p : Int} {l g : List Int} {N : Nat} (hN : N ≤ 4294967296) : Vis Tryz.prog 107 [⟨.rf (.pr (.pr (.int .i64) (.pr (.sl 3 (.int .i64)) (.un))) (.un)), ((p, (l, ())), ())⟩, ⟨.rf (.int .i64), (N : Int)⟩, ⟨.rf (.sl 3 (.int .i64)), g⟩] N
  (fun i => [⟨.int .i64, (i : Int)⟩, ⟨.sl 3 (.int .i64), pwr K p l g i⟩]) (fun i => gFMul.f K p l (pwr K p l g i) g = some (pwr K p l g (i + 1))) :=
 Powers1_vis0 (Mu := fun x r => gFMul.f K p l x g = some r) hN rfl (gFOne_con rfl) fun x r h => gFMul_con h
theorem dl_Log_con {k : Nat} {a0_0 : Int} {l0_1 : List Int} {l1 : List Int} {l2 : List Int} {r1 : Int} {r2 : Int} (h : dl_Log.f k a0_0 l0_1 l1 l2 = some (r1, r2)) : Con Tryz.prog 14 [⟨.pr (.int .i64) (.pr (.sl 3 (.int .i64)) (.un)), (a0_0, (l0_1, ()))⟩, ⟨.sl 3 (.int .i64), l1⟩, ⟨.sl 3 (.int .i64), l2⟩] [(false, ⟨.int .i64, r1⟩), (false, ⟨.int .i64, r2⟩)] := by
 refine conm_ (ps := [0, 1, 2, 3, 6, 7, 8, 9, 10, 11, 12, 13, 14, 15, 17, 18, 19, 20, 21, 31, 35, 41, 50, 57, 58, 59, 70, 82, 93, 118]) (res := [(6, none), (7, none)]) [12] ?_ Tryz.func14 Tryz.ntmps14
 refine go_ ?_
 unfold dl_Log.f at h
 replace h := hs_ h
 refine bnf h ?_; clear h; rintro ⟨p, l, q, e⟩ ht h
 repeat (first | refine g6_ ?_)
 refine .inl ⟨_, dl_open_con ht, ?_⟩; refine go_ ?_
 simp only at h
 split at h
 rotate_left
 ·cases h
  repeat (first | refine g6_ ?_)
  first | done | rfl | trivial | exact ⟨rfl, rfl⟩ | (simp; done)
 repeat (first | refine g6_ ?_)
 refine bnf h ?_; clear h; intro b hb h
 refine .inl ⟨_, gFGenerates_con hb, ?_⟩; refine go_ ?_
 split at h
 rotate_left
 ·cases h
  repeat (first | refine g6_ ?_)
  first | done | rfl | trivial | exact ⟨rfl, rfl⟩ | (simp; done)
 repeat (first | refine g6_ ?_)
 split at h
 ·cases h
  repeat (first | refine g6_ ?_)
  first | done | rfl | trivial | exact ⟨rfl, rfl⟩ | (simp; done)
 repeat (first | refine g6_ ?_)
 refine bnf h ?_; clear h; intro s hs h
 split at h
 rotate_left
 ·cases h
 rename_i hq
 obtain ⟨M, rfl⟩ : ∃ M : Nat, s = (M : Int) := ⟨s.toNat, by omega⟩
 rw [Int.toNat_natCast] at h
 refine bnf h ?_; clear h; intro kn hkn h
 refine bnf h ?_; clear h; intro x0 hx0 h
 refine bnf h ?_; clear h; intro gi hgi h
 refine lp [(1, .row 3 (.int .i64)), (2, .row 3 (.int .i64)), (9, .keep), (11, .keep), (8, .box), (118, .keep)] fun X hX => ?_
 refine go_ ?_
 have key : ∀ kk s', dl_Log.l0 q kk s' = some (M : Int) → X ⟨lkp .bot [(118, .tnil), (8, .ptr 16 0 []), (11, .ro (.int .i64) s'), (9, .ro (.int .i64) q), (2, .ro (.sl 3 (.int .i64)) l2), (1, .ro (.sl 3 (.int .i64)) l1)], lkp none [(16, some ⟨87, .pr (.pr (.int .i64) (.pr (.sl 3 (.int .i64)) (.un))) (.un), [((p, (l, ())), ())], true⟩)], 0⟩ := by
  refine sind fun kk ih s' h' => hX _ ?_
  clear hX
  rcases kk with _ | kk
  ·cases h'
  unfold dl_Log.l0 at h'
  replace h' := hs_ h'
  refine go_ ?_
  split at h'
  ·repeat (first | refine g6_ ?_)
   exact ih _ (by omega) _ h'
  cases h'
  clear ih hs
  repeat (first | refine g6_ ?_)
  refine .inl ⟨_, gFPowers_con, ?_⟩; refine go_ ?_
  refine rfG [(1, .row 3 (.int .i64)), (2, .row 3 (.int .i64)), (9, .keep), (11, .keep), (8, .box), (12, .ibx)] ((fun kn' : List (Int × Int) => (⟨lkp .bot [(12, .ptr 24 0 []), (8, .ptr 16 0 []), (11, .ro (.int .i64) (M : Int)), (9, .ro (.int .i64) q), (2, .ro (.sl 3 (.int .i64)) l2), (1, .ro (.sl 3 (.int .i64)) l1)], lkp none [(24, some ⟨91, .id 0 (.mp (.int .i64) (.int .i64)), [1], true⟩), (1, some ⟨0, .mp (.int .i64) (.int .i64), kn', true⟩), (16, some ⟨87, .pr (.pr (.int .i64) (.pr (.sl 3 (.int .i64)) (.un))) (.un), [((p, (l, ())), ())], true⟩)], 1⟩ : FS)) []) (by first | rfl | kernel_rfl) (by rfl) ?_
  refine go_ ?_
  refine ⟨M, _, _, Powers1_vis (K := k) (by omega), fun i => rfl, ?_⟩
  refine rf_inds (fun kn' : List (Int × Int) => (⟨lkp .bot [(12, .ptr 24 0 []), (8, .ptr 16 0 []), (11, .ro (.int .i64) (M : Int)), (9, .ro (.int .i64) q), (2, .ro (.sl 3 (.int .i64)) l2), (1, .ro (.sl 3 (.int .i64)) l1)], lkp none [(24, some ⟨91, .id 0 (.mp (.int .i64) (.int .i64)), [1], true⟩), (1, some ⟨0, .mp (.int .i64) (.int .i64), kn', true⟩), (16, some ⟨87, .pr (.pr (.int .i64) (.pr (.sl 3 (.int .i64)) (.un))) (.un), [((p, (l, ())), ())], true⟩)], 1⟩ : FS)) (fun i kn' => ∃ j, dl_Log.l1 k p l l1 M j i (pwr k p l l1 i) kn' = some kn) ⟨_, hkn⟩ ?_ ?_
  ·clear hkn h
   rintro i kn' Y hi ⟨j, h⟩ hY
   rcases j with _ | j
   ·cases h
   unfold dl_Log.l1 at h
   rw [if_pos hi] at h
   replace h := hs_ h
   refine bnf h ?_; clear h; intro m hm h
   refine bnf h ?_; clear h; intro y hy h
   have hp : pwr k p l l1 (i + 1) = y := by
    show (gFMul.f k p l (pwr k p l l1 i) l1).getD [] = y
    rw [hy]; rfl
   refine ⟨by rw [hp]; exact hy, ?_⟩
   refine go_ ?_
   repeat (first | refine g6_ ?_)
   refine .inl ⟨_, gFNumber_con hm, ?_⟩; refine go_ ?_
   split at h
   ·repeat (first | refine g6_ ?_)
    exact hY _ ⟨j, by rw [hp]; exact h⟩
   ·repeat (first | refine g6_ ?_)
    exact hY _ ⟨j, by rw [hp]; exact h⟩
  ·rintro kn' ⟨j, hj⟩
   rcases j with _ | j
   ·cases hj
   unfold dl_Log.l1 at hj
   rw [if_neg (by omega)] at hj
   cases hj
   clear hkn
   refine go_ ?_
   repeat (first | refine g6_ ?_)
   refine .inl ⟨_, gFPow_con hx0, ?_⟩; refine go_ ?_
   repeat (first | refine g6_ ?_)
   refine .inl ⟨_, gFInverse_con hgi, ?_⟩; refine go_ ?_
   repeat (first | refine g6_ ?_)
   refine lp [(2, .row 3 (.int .i64)), (9, .keep), (11, .keep), (18, .row 3 (.int .i64)), (19, .keep), (8, .box), (12, .ibx)] fun Z hZ => ?_
   refine go_ ?_
   have key2 : ∀ kk a x, dl_Log.l2 p l q (M : Int) kn gi kk a x = some (r1, r2) → Z ⟨lkp .bot [(12, .ptr 24 0 []), (8, .ptr 16 0 []), (19, .ro (.int .i64) x), (18, .ro (.sl 3 (.int .i64)) gi), (11, .ro (.int .i64) (M : Int)), (9, .ro (.int .i64) q), (2, .ro (.sl 3 (.int .i64)) a)], lkp none [(24, some ⟨91, .id 0 (.mp (.int .i64) (.int .i64)), [1], true⟩), (1, some ⟨0, .mp (.int .i64) (.int .i64), kn, true⟩), (16, some ⟨87, .pr (.pr (.int .i64) (.pr (.sl 3 (.int .i64)) (.un))) (.un), [((p, (l, ())), ())], true⟩)], 1⟩ := by
    clear h
    refine sind fun kk ih a x h => hZ _ ?_
    clear hZ
    rcases kk with _ | kk
    ·cases h
    unfold dl_Log.l2 at h
    replace h := hs_ h
    refine go_ ?_
    split at h
    rotate_left
    ·cases h
     repeat (first | refine g6_ ?_)
     first | done | rfl | trivial | exact ⟨rfl, rfl⟩ | (simp; done)
    repeat (first | refine g6_ ?_)
    refine bnf h ?_; clear h; intro m hm h
    refine .inl ⟨_, gFNumber_con hm, ?_⟩; refine go_ ?_
    split at h
    ·split at h
     ·cases h
     ·cases h
      repeat (first | refine g6_ ?_)
      first | done | rfl | trivial | exact ⟨rfl, rfl⟩ | (simp; done)
    ·repeat (first | refine g6_ ?_)
     refine bnf h ?_; clear h; intro b' hb' h
     refine .inl ⟨_, gFMul_con hb', ?_⟩; refine go_ ?_
     repeat (first | refine g6_ ?_)
     exact ih _ (by omega) _ _ h
   exact key2 _ _ _ h
 exact key _ _ hs
theorem dl_table_con {k : Nat} {a0_0 : Int} {l0_1 : List Int} {l1 : List Int} {a2 : Int} {r : List Int} (h : dl_table.f k a0_0 l0_1 l1 a2 = some r) : Con Tryz.prog 71 [⟨.pr (.pr (.int .i64) (.pr (.sl 3 (.int .i64)) (.un))) (.un), ((a0_0, (l0_1, ())), ())⟩, ⟨.sl 3 (.int .i64), l1⟩, ⟨.int .i64, a2⟩] [(false, ⟨.sl 3 (.int .i64), r⟩)] := by
 refine conm_ (ps := [0, 1, 2, 3, 6, 7, 8, 9, 10, 11, 12, 13, 19, 20, 21, 30, 31, 32, 41, 55]) (res := [(6, none)]) [7] ?_ Tryz.func71 Tryz.ntmps71
 refine go_ ?_
 unfold dl_table.f at h
 split at h
 rotate_left
 ·cases h
 rename_i hq
 obtain ⟨M, hM⟩ : ∃ M : Nat, wrap64 (a2 - 1) = (M : Int) := ⟨(wrap64 (a2 - 1)).toNat, by omega⟩
 rw [hM, Int.toNat_natCast] at h
 replace h := hs_ h
 refine bnf h ?_; clear h; intro kn hkn h
 repeat (first | refine g6_ ?_)
 refine .inl ⟨_, gFPowers_con, ?_⟩; refine go_ ?_
 refine rfG [(2, .keep), (3, .box), (7, .ibx)] ((fun kn' : List (Int × Int) => (⟨lkp .bot [(7, .ptr 14 0 []), (3, .ptr 6 0 []), (2, .ro (.int .i64) a2)], lkp none [(14, some ⟨91, .id 0 (.mp (.int .i64) (.int .i64)), [1], true⟩), (1, some ⟨0, .mp (.int .i64) (.int .i64), kn', true⟩), (6, some ⟨87, .pr (.pr (.int .i64) (.pr (.sl 3 (.int .i64)) (.un))) (.un), [((a0_0, (l0_1, ())), ())], true⟩)], 1⟩ : FS)) []) (by first | rfl | kernel_rfl) (by rfl) ?_
 refine go_ ?_
 rw [hM]
 refine ⟨M, _, _, Powers1_vis (K := k) (by omega), fun i => rfl, ?_⟩
 refine rf_inds (fun kn' : List (Int × Int) => (⟨lkp .bot [(7, .ptr 14 0 []), (3, .ptr 6 0 []), (2, .ro (.int .i64) a2)], lkp none [(14, some ⟨91, .id 0 (.mp (.int .i64) (.int .i64)), [1], true⟩), (1, some ⟨0, .mp (.int .i64) (.int .i64), kn', true⟩), (6, some ⟨87, .pr (.pr (.int .i64) (.pr (.sl 3 (.int .i64)) (.un))) (.un), [((a0_0, (l0_1, ())), ())], true⟩)], 1⟩ : FS)) (fun i kn' => ∃ j, dl_table.l0 k a0_0 l0_1 l1 M j i (pwr k a0_0 l0_1 l1 i) kn' = some kn) ⟨_, hkn⟩ ?_ ?_
 ·clear h hkn
  rintro i kn' X hi ⟨j, h⟩ hX
  rcases j with _ | j
  ·cases h
  unfold dl_table.l0 at h
  rw [if_pos hi] at h
  replace h := hs_ h
  refine bnf h ?_; clear h; intro m hm h
  refine bnf h ?_; clear h; intro y hy h
  have hp : pwr k a0_0 l0_1 l1 (i + 1) = y := by
   show (gFMul.f k a0_0 l0_1 (pwr k a0_0 l0_1 l1 i) l1).getD [] = y
   rw [hy]; rfl
  refine ⟨by rw [hp]; exact hy, ?_⟩
  refine go_ ?_
  repeat (first | refine g6_ ?_)
  refine .inl ⟨_, gFNumber_con hm, ?_⟩; refine go_ ?_
  repeat (first | refine g6_ ?_)
  exact hX _ ⟨j, by rw [hp]; exact h⟩
 ·rintro kn' ⟨j, hj⟩
  rcases j with _ | j
  ·cases hj
  unfold dl_table.l0 at hj
  rw [if_neg (by omega)] at hj
  cases hj
  clear hkn
  refine go_ ?_
  split at h
  ·split at h
   ·repeat (first | refine g6_ ?_)
    refine lp [(10, .own 3 (.int .i64)), (30, .keep), (31, .keep), (7, .ibx)] fun X hX => ?_
    refine go_ ?_
    (with_reducible have h : dl_table.l1 kn _ _ _ = some r := h)
    have key : ∀ kk x10 x31, x10.length = (List.replicate a2.toNat (0 : Int)).length → dl_table.l1 kn kk x10 x31 = some r → X ⟨lkp .bot [(7, .ptr 14 0 []), (31, .ro (.int .i64) x31), (30, .ro (.int .i64) ((List.replicate a2.toNat (0 : Int)).length : Int)), (10, .own 20)], lkp none [(14, some ⟨91, .id 0 (.mp (.int .i64) (.int .i64)), [1], true⟩), (1, some ⟨0, .mp (.int .i64) (.int .i64), kn, true⟩), (20, some ⟨3, .int .i64, x10, true⟩)], 1⟩ := by
     clear h
     refine sind fun kk ih x10 x31 hl h => hX _ ?_
     clear hX
     rcases kk with _ | kk
     ·cases h
     unfold dl_table.l1 at h
     replace h := hs_ h
     refine go_ ?_
     repeat' (first | split at h | fail)
     all_goals first
      | ((repeat (first | refine g6_ ?_)); exact ih _ (by omega) _ _ (by rw [List.length_set]; exact hl) h)
      | (cases h <;> (repeat (first | refine g6_ ?_)) <;> (first | done | rfl | trivial | (simp; done)))
    exact key _ _ _ rfl h
   ·cases h
  ·cases h
theorem dl_Zech_con {k : Nat} {a0_0 : Int} {l0_1 : List Int} {l1 : List Int} {r1 : List Int} {r2 : Int} (h : dl_Zech.f k a0_0 l0_1 l1 = some (r1, r2)) : Con Tryz.prog 28 [⟨.pr (.int .i64) (.pr (.sl 3 (.int .i64)) (.un)), (a0_0, (l0_1, ()))⟩, ⟨.sl 3 (.int .i64), l1⟩] [(false, ⟨.sl 3 (.int .i64), r1⟩), (false, ⟨.int .i64, r2⟩)] := by
 refine conm_ (ps := [0, 1, 2, 4, 5, 6, 7, 8, 9, 10, 11, 12, 22, 28, 40, 41, 42, 67]) (res := [(4, none), (5, none)]) [10] ?_ Tryz.func28 Tryz.ntmps28
 refine go_ ?_
 unfold dl_Zech.f at h
 replace h := hs_ h
 refine bnf h ?_; clear h; rintro ⟨p, l, q, e⟩ ht h
 repeat (first | refine g6_ ?_)
 refine .inl ⟨_, dl_open_con ht, ?_⟩; refine go_ ?_
 simp only at h
 split at h
 ·repeat (first | refine g6_ ?_)
  refine bnf h ?_; clear h; intro b hb h
  refine .inl ⟨_, gFGenerates_con hb, ?_⟩; refine go_ ?_
  split at h
  ·repeat (first | refine g6_ ?_)
   refine bnf h ?_; clear h; intro logs hlogs h
   refine .inl ⟨_, dl_table_con hlogs, ?_⟩; refine go_ ?_
   split at h
   rotate_left
   ·cases h
   rename_i hq
   obtain ⟨M, hM⟩ : ∃ M : Nat, wrap64 (q - 1) = (M : Int) := ⟨(wrap64 (q - 1)).toNat, by omega⟩
   rw [hM, Int.toNat_natCast] at h
   replace h := hs_ h
   refine bnf h ?_; clear h; intro out hout h
   cases h
   rw [hM]
   repeat (first | refine g6_ ?_)
   refine .inl ⟨_, gFPowers_con, ?_⟩; refine go_ ?_
   refine rfG [(6, .box), (9, .box), (10, .ibx)] ((fun out' : List Int => (⟨lkp .bot [(10, .ptr 20 0 []), (9, .ptr 18 0 []), (6, .ptr 12 0 [])], lkp none [(20, some ⟨22, .id 3 (.int .i64), [1], true⟩), (1, some ⟨3, .int .i64, out', true⟩), (18, some ⟨22, .sl 3 (.int .i64), [logs], true⟩), (12, some ⟨87, .pr (.pr (.int .i64) (.pr (.sl 3 (.int .i64)) (.un))) (.un), [((p, (l, ())), ())], true⟩)], 1⟩ : FS)) (List.replicate (M : Int).toNat 0)) (by first | rfl | kernel_rfl) (by rfl) ?_
   refine go_ ?_
   refine ⟨M, _, _, Powers1_vis (K := k) (by omega), fun i => rfl, ?_⟩
   refine rf_inds (fun out' : List Int => (⟨lkp .bot [(10, .ptr 20 0 []), (9, .ptr 18 0 []), (6, .ptr 12 0 [])], lkp none [(20, some ⟨22, .id 3 (.int .i64), [1], true⟩), (1, some ⟨3, .int .i64, out', true⟩), (18, some ⟨22, .sl 3 (.int .i64), [logs], true⟩), (12, some ⟨87, .pr (.pr (.int .i64) (.pr (.sl 3 (.int .i64)) (.un))) (.un), [((p, (l, ())), ())], true⟩)], 1⟩ : FS)) (fun i out' => ∃ j, dl_Zech.l0 k p l l1 logs M j i (pwr k p l l1 i) out' = some r1) ⟨_, hout⟩ ?_ ?_
   ·clear hout
    rintro i out' X hi ⟨j, h⟩ hX
    rcases j with _ | j
    ·cases h
    unfold dl_Zech.l0 at h
    rw [if_pos hi] at h
    replace h := hs_ h
    refine bnf h ?_; clear h; intro s hs h
    refine bnf h ?_; clear h; intro m hm h
    split at h
    rotate_left
    ·cases h
    rename_i hc
    refine bnf h ?_; clear h; intro y hy h
    have hp : pwr k p l l1 (i + 1) = y := by
     show (gFMul.f k p l (pwr k p l l1 i) l1).getD [] = y
     rw [hy]; rfl
    refine ⟨by rw [hp]; exact hy, ?_⟩
    refine go_ ?_
    repeat (first | refine g6_ ?_)
    refine .inl ⟨_, gFOne_con rfl, ?_⟩; refine go_ ?_
    repeat (first | refine g6_ ?_)
    refine .inl ⟨_, gFAdd_con hs, ?_⟩; refine go_ ?_
    repeat (first | refine g6_ ?_)
    refine .inl ⟨_, gFNumber_con hm, ?_⟩; refine go_ ?_
    repeat (first | refine g6_ ?_)
    exact hX _ ⟨j, by rw [hp]; exact h⟩
   ·rintro out' ⟨j, hj⟩
    rcases j with _ | j
    ·cases hj
    unfold dl_Zech.l0 at hj
    rw [if_neg (by omega)] at hj
    cases hj
    refine go_ ?_
    repeat (first | refine g6_ ?_)
    first | done | rfl | trivial | exact ⟨rfl, rfl⟩ | (simp; done)
  ·cases h
   repeat (first | refine g6_ ?_)
   first | done | rfl | trivial | exact ⟨rfl, rfl⟩ | (simp; done)
 ·cases h
  repeat (first | refine g6_ ?_)
  first | done | rfl | trivial | exact ⟨rfl, rfl⟩ | (simp; done)
theorem dl_Table_con {k : Nat} {a0_0 : Int} {l0_1 : List Int} {l1 : List Int} {r1 : List Int} {r2 : Int} (h : dl_Table.f k a0_0 l0_1 l1 = some (r1, r2)) : Con Tryz.prog 27 [⟨.pr (.int .i64) (.pr (.sl 3 (.int .i64)) (.un)), (a0_0, (l0_1, ()))⟩, ⟨.sl 3 (.int .i64), l1⟩] [(false, ⟨.sl 3 (.int .i64), r1⟩), (false, ⟨.int .i64, r2⟩)] := by
 refine con_ (ps := [0, 1, 2, 4, 5, 6, 7, 8, 18, 24]) (res := [(4, none), (5, none)]) ?_ Tryz.func27 Tryz.ntmps27
 refine go_ ?_
 unfold dl_Table.f at h
 replace h := hs_ h
 repeat' (first | split at h | (refine bnf h fun t e h => ?_; (repeat (first | refine g6_ ?_)); refine .inl ⟨_, (by first | exact dl_open_con e | exact gFGenerates_con e | exact dl_table_con e), ?_⟩; refine go_ ?_) | (refine bnf h fun t e h => ?_; (repeat (first | refine g6_ ?_ | (refine .inl ⟨_, (by first | exact dl_open_con ‹_› | exact gFGenerates_con ‹_› | exact dl_table_con ‹_›), ?_⟩; refine go_ ?_))); refine .inl ⟨_, (by first | exact dl_open_con e | exact gFGenerates_con e | exact dl_table_con e), ?_⟩; refine go_ ?_) | fail)
 all_goals (first | (cases h <;> (repeat (first | refine g6_ ?_ | (refine .inl ⟨_, (by first | exact dl_open_con ‹_› | exact gFGenerates_con ‹_› | exact dl_table_con ‹_›), ?_⟩; refine go_ ?_))) <;> (first | done | rfl | trivial | (simp; done) | (exfalso; omega))) | (exfalso; omega))
end Go.Proofs.YtillaipaanancaaGreat.Q
end

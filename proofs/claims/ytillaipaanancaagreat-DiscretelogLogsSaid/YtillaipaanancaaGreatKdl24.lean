/- Machine side and arithmetic of the law, put together by a program of the session. No conditions. -/
import Derived.Test.YtillaipaanancaaGreatKdl6
import Derived.Test.YtillaipaanancaaGreatKdl18
import Derived.Test.YtillaipaanancaaGreatKdl19
section
namespace Go.Proofs.YtillaipaanancaaGreat.Q
open Go.RowKit Go.Proofs.YtillaipaanancaaGreatW.PrintWords Go.Proofs.YtillaipaanancaaGreatW.PrintLast Go.Proofs.YtillaipaanancaaGreatW.PrintMore
set_option linter.unusedVariables false
set_option linter.unusedSimpArgs false
def discretelog_table.l0 (kk : Nat) (p : Int) (l g : List Int) (M : Nat) : Nat → Nat → List Int → List (Int × Int) → Option (List (Int × Int))
  | 0, _, _, _ => none
  | k + 1, i, x, kn => if i < M then (gFNumber.f kk p l x).bind fun m => (gFMul.f kk p l x g).bind fun y => discretelog_table.l0 kk p l g M k (i + 1) y (Go.TT.mset (.int .i64) m (i : Int) kn) else some kn
def discretelog_table.l1 (kn : List (Int × Int)) : Nat → List Int → Int → Option (List Int)
  | 0, _, _ => none
  | k + 1, x10, x31 => if x31 < (x10.length : Int) then (if 0 ≤ x31 then (if (Go.TT.mget (.int .i64) x31 kn).isSome = true then discretelog_table.l1 kn k (x10.set x31.toNat ((Go.TT.mget (.int .i64) x31 kn).getD 0)) (wrap64 (x31 + 1)) else discretelog_table.l1 kn k (x10.set x31.toNat (-1)) (wrap64 (x31 + 1))) else none) else some x10
def discretelog_table.f (k : Nat) (a0_0 : Int) (l0_1 : List Int) (l1 : List Int) (a2 : Int) : Option (List Int) := if 0 ≤ wrap64 (a2 - 1) ∧ wrap64 (a2 - 1) ≤ 4294967296 then (discretelog_table.l0 k a0_0 l0_1 l1 (wrap64 (a2 - 1)).toNat k 0 [1] []).bind fun kn => (if 0 ≤ a2 then (if a2.toNat ≤ 35184372088832 then discretelog_table.l1 kn k (List.replicate a2.toNat 0) 0 else none) else none) else none
theorem discretelog_table.mono_l (kk : Nat) (p : Int) (l g : List Int) (M : Nat) : ∀ k i x kn, LeO (discretelog_table.l0 kk p l g M k i x kn) (discretelog_table.l0 (kk + 1) p l g M (k + 1) i x kn)
  | 0 => fun _ _ _ r h => by simp [discretelog_table.l0] at h
  | k + 1 => by
    intro i x kn
    have ih0 := discretelog_table.mono_l kk p l g M k
    unfold discretelog_table.l0
    repeat' first
      | (with_reducible exact ih0 _ _ _)
      | (with_reducible exact gFNumber.mono _ _ _ _)
      | (with_reducible exact gFMul.mono _ _ _ _ _)
      | (with_reducible exact LeO.refl _)
      | (with_reducible refine LeO.ite ?_ ?_)
      | (with_reducible refine LeO.bind ?_ (fun _ => ?_))
theorem discretelog_table.mono_m (kn : List (Int × Int)) : ∀ k x i, LeO (discretelog_table.l1 kn k x i) (discretelog_table.l1 kn (k + 1) x i)
  | 0 => fun _ _ r h => by simp [discretelog_table.l1] at h
  | k + 1 => by
    intro x i
    have ih0 := discretelog_table.mono_m kn k
    unfold discretelog_table.l1
    repeat' first
      | (with_reducible exact ih0 _ _)
      | (with_reducible exact LeO.refl _)
      | (with_reducible refine LeO.ite ?_ ?_)
theorem discretelog_table.mono : ∀ a0 a1 a2 a3 k, LeO (discretelog_table.f k a0 a1 a2 a3) (discretelog_table.f (k + 1) a0 a1 a2 a3) := by
  intro a0 a1 a2 a3 k
  unfold discretelog_table.f
  repeat' first
    | (with_reducible exact discretelog_table.mono_l _ _ _ _ _ _ _ _ _)
    | (with_reducible exact discretelog_table.mono_m _ _ _ _)
    | (with_reducible exact LeO.refl _)
    | (with_reducible refine LeO.ite ?_ ?_)
    | (with_reducible refine LeO.bind ?_ (fun _ => ?_))
def discretelog_Log.l0 (q : Int) : Nat → Int → Option Int
  | 0, _ => none
  | k + 1, s => if wrap64 (s * s) < wrap64 (q - 1) then discretelog_Log.l0 q k (wrap64 (s + 1)) else some s
def discretelog_Log.l1 (kk : Nat) (p : Int) (l g : List Int) (M : Nat) : Nat → Nat → List Int → List (Int × Int) → Option (List (Int × Int))
  | 0, _, _, _ => none
  | k + 1, i, x, kn => if i < M then (gFNumber.f kk p l x).bind fun m => (gFMul.f kk p l x g).bind fun y => (if (Go.TT.mget (.int .i64) m kn).isSome = true then discretelog_Log.l1 kk p l g M k (i + 1) y kn else discretelog_Log.l1 kk p l g M k (i + 1) y (Go.TT.mset (.int .i64) m (i : Int) kn)) else some kn
def discretelog_Log.l2 (p : Int) (l : List Int) (q s : Int) (kn : List (Int × Int)) (gi : List Int) : Nat → List Int → Int → Option (Int × Int)
  | 0, _, _ => none
  | k + 1, a, i => if i ≤ s then (gFNumber.f k p l a).bind fun m => (if (Go.TT.mget (.int .i64) m kn).isSome = true then (if wrap64 (q - 1) = 0 then none else some (Int.tmod (wrap64 (wrap64 (i * s) + (Go.TT.mget (.int .i64) m kn).getD 0)) (wrap64 (q - 1)), 0)) else (gFMul.f k p l a gi).bind fun b => discretelog_Log.l2 p l q s kn gi k b (wrap64 (i + 1))) else some (0, 10)
def discretelog_Log.f (k : Nat) (a0_0 : Int) (l0_1 : List Int) (l1 : List Int) (l2 : List Int) : Option (Int × Int) := (discretelog_open.f k a0_0 l0_1 2147483647 [l1, l2]).bind fun t => (if t.2.2.2 = 0 then ((gFGenerates.f k t.1 t.2.1 l1 t.2.2.1).bind fun b => (if b = true then (if (l2.length : Int) = 0 then some (0, 6) else ((discretelog_Log.l0 t.2.2.1 k 1).bind fun s => (if 0 ≤ s ∧ s ≤ 4294967296 then (discretelog_Log.l1 k t.1 t.2.1 l1 s.toNat k 0 [1] []).bind fun kn => (gFPow.f k t.1 t.2.1 l1 s).bind fun x => (gFInverse.f k t.1 t.2.1 x).bind fun gi => discretelog_Log.l2 t.1 t.2.1 t.2.2.1 s kn gi k l2 0 else none))) else some (0, 27))) else some (0, t.2.2.2))
theorem discretelog_Log.mono_0 (q : Int) : ∀ k s, LeO (discretelog_Log.l0 q k s) (discretelog_Log.l0 q (k + 1) s)
  | 0 => fun _ r h => by simp [discretelog_Log.l0] at h
  | k + 1 => by
    intro s
    have ih0 := discretelog_Log.mono_0 q k
    unfold discretelog_Log.l0
    repeat' first
      | (with_reducible exact ih0 _)
      | (with_reducible exact LeO.refl _)
      | (with_reducible refine LeO.ite ?_ ?_)
theorem discretelog_Log.mono_1 (kk : Nat) (p : Int) (l g : List Int) (M : Nat) : ∀ k i x kn, LeO (discretelog_Log.l1 kk p l g M k i x kn) (discretelog_Log.l1 (kk + 1) p l g M (k + 1) i x kn)
  | 0 => fun _ _ _ r h => by simp [discretelog_Log.l1] at h
  | k + 1 => by
    intro i x kn
    have ih0 := discretelog_Log.mono_1 kk p l g M k
    unfold discretelog_Log.l1
    repeat' first
      | (with_reducible exact ih0 _ _ _)
      | (with_reducible exact gFNumber.mono _ _ _ _)
      | (with_reducible exact gFMul.mono _ _ _ _ _)
      | (with_reducible exact LeO.refl _)
      | (with_reducible refine LeO.ite ?_ ?_)
      | (with_reducible refine LeO.bind ?_ (fun _ => ?_))
theorem discretelog_Log.mono_2 (p : Int) (l : List Int) (q s : Int) (kn : List (Int × Int)) (gi : List Int) : ∀ k a i, LeO (discretelog_Log.l2 p l q s kn gi k a i) (discretelog_Log.l2 p l q s kn gi (k + 1) a i)
  | 0 => fun _ _ r h => by simp [discretelog_Log.l2] at h
  | k + 1 => by
    intro a i
    have ih0 := discretelog_Log.mono_2 p l q s kn gi k
    unfold discretelog_Log.l2
    repeat' first
      | (with_reducible exact ih0 _ _)
      | (with_reducible exact gFNumber.mono _ _ _ _)
      | (with_reducible exact gFMul.mono _ _ _ _ _)
      | (with_reducible exact LeO.refl _)
      | (with_reducible refine LeO.ite ?_ ?_)
      | (with_reducible refine LeO.bind ?_ (fun _ => ?_))
theorem discretelog_Log.mono : ∀ a0 a1 a2 a3 k, LeO (discretelog_Log.f k a0 a1 a2 a3) (discretelog_Log.f (k + 1) a0 a1 a2 a3) := by
  intro a0 a1 a2 a3 k
  unfold discretelog_Log.f
  repeat' first
    | (with_reducible exact discretelog_Log.mono_0 _ _ _)
    | (with_reducible exact discretelog_Log.mono_1 _ _ _ _ _ _ _ _ _)
    | (with_reducible exact discretelog_Log.mono_2 _ _ _ _ _ _ _ _ _)
    | (with_reducible exact discretelog_open.mono _ _ _ _ _)
    | (with_reducible exact gFGenerates.mono _ _ _ _ _)
    | (with_reducible exact gFPow.mono _ _ _ _ _)
    | (with_reducible exact gFInverse.mono _ _ _ _)
    | (with_reducible exact LeO.refl _)
    | (with_reducible refine LeO.ite ?_ ?_)
    | (with_reducible refine LeO.bind ?_ (fun _ => ?_))
def discretelog_Table.f (k : Nat) (a0_0 : Int) (l0_1 : List Int) (l1 : List Int) : Option (List Int × Int) := (discretelog_open.f k a0_0 l0_1 4096 (([l1] : List (List Int)))).bind fun bt105 => (if bt105.2.2.2 = 0 then ((gFGenerates.f k bt105.1 bt105.2.1 l1 bt105.2.2.1).bind fun t112 => (if t112 = true then ((discretelog_table.f k bt105.1 bt105.2.1 l1 bt105.2.2.1).bind fun t113 => (some (t113, 0))) else (some (([] : List Int), 27)))) else (some (([] : List Int), bt105.2.2.2)))
theorem discretelog_Table.mono : ∀ a0 a1 a2 k, LeO (discretelog_Table.f k a0 a1 a2) (discretelog_Table.f (k + 1) a0 a1 a2) := by
  intro a0 a1 a2 k
  unfold discretelog_Table.f
  repeat' first
      | (with_reducible exact discretelog_open.mono _ _ _ _ _)
      | (with_reducible exact discretelog_table.mono _ _ _ _ _)
      | (with_reducible exact gFGenerates.mono _ _ _ _ _)
      | (with_reducible exact LeO.refl _)
      | (with_reducible exact LeO.none _)
      | (with_reducible refine LeO.ite ?_ ?_)
      | (with_reducible refine LeO.bind ?_ (fun _ => ?_))
      | exact discretelog_open.mono _ _ _ _ _
      | exact discretelog_table.mono _ _ _ _ _
      | exact gFGenerates.mono _ _ _ _ _
      | exact LeO.none _
      | refine LeO.ite ?_ ?_
      | refine LeO.bind ?_ (fun _ => ?_)
def discretelog_Zech.l0 (kk : Nat) (p : Int) (l g logs : List Int) (M : Nat) : Nat → Nat → List Int → List Int → Option (List Int)
  | 0, _, _, _ => none
  | k + 1, i, x, out => if i < M then (gFAdd.f kk p l x [1]).bind fun s => (gFNumber.f kk p l s).bind fun m => (if 0 ≤ m ∧ m < (logs.length : Int) ∧ (i : Int) < (out.length : Int) then (gFMul.f kk p l x g).bind fun y => discretelog_Zech.l0 kk p l g logs M k (i + 1) y (out.set i (rd logs m)) else none) else some out
def discretelog_Zech.f (k : Nat) (a0_0 : Int) (l0_1 : List Int) (l1 : List Int) : Option (List Int × Int) := (discretelog_open.f k a0_0 l0_1 4096 [l1]).bind fun t => (if t.2.2.2 = 0 then ((gFGenerates.f k t.1 t.2.1 l1 t.2.2.1).bind fun b => (if b = true then (discretelog_table.f k t.1 t.2.1 l1 t.2.2.1).bind fun logs => (if 0 ≤ wrap64 (t.2.2.1 - 1) ∧ wrap64 (t.2.2.1 - 1) ≤ 4294967296 then ((discretelog_Zech.l0 k t.1 t.2.1 l1 logs (wrap64 (t.2.2.1 - 1)).toNat k 0 [1] (List.replicate (wrap64 (t.2.2.1 - 1)).toNat 0)).bind fun out => some (out, 0)) else none) else some ([], 27))) else some ([], t.2.2.2))
theorem discretelog_Zech.mono_l (kk : Nat) (p : Int) (l g logs : List Int) (M : Nat) : ∀ k i x out, LeO (discretelog_Zech.l0 kk p l g logs M k i x out) (discretelog_Zech.l0 (kk + 1) p l g logs M (k + 1) i x out)
  | 0 => fun _ _ _ r h => by simp [discretelog_Zech.l0] at h
  | k + 1 => by
    intro i x out
    have ih0 := discretelog_Zech.mono_l kk p l g logs M k
    unfold discretelog_Zech.l0
    repeat' first
      | (with_reducible exact ih0 _ _ _)
      | (with_reducible exact gFNumber.mono _ _ _ _)
      | (with_reducible exact gFAdd.mono _ _ _ _ _)
      | (with_reducible exact gFMul.mono _ _ _ _ _)
      | (with_reducible exact LeO.refl _)
      | (with_reducible refine LeO.ite ?_ ?_)
      | (with_reducible refine LeO.bind ?_ (fun _ => ?_))
theorem discretelog_Zech.mono : ∀ a0 a1 a2 k, LeO (discretelog_Zech.f k a0 a1 a2) (discretelog_Zech.f (k + 1) a0 a1 a2) := by
  intro a0 a1 a2 k
  unfold discretelog_Zech.f
  repeat' first
    | (with_reducible exact discretelog_Zech.mono_l _ _ _ _ _ _ _ _ _ _)
    | (with_reducible exact discretelog_open.mono _ _ _ _ _)
    | (with_reducible exact discretelog_table.mono _ _ _ _ _)
    | (with_reducible exact gFGenerates.mono _ _ _ _ _)
    | (with_reducible exact LeO.refl _)
    | (with_reducible refine LeO.ite ?_ ?_)
    | (with_reducible refine LeO.bind ?_ (fun _ => ?_))
def galoislaw18_awake.j0 : Nat → List Int → List Int → List (List Int) → List (List Int) → Bool → Option (Bool)
  | 0, _, _, _, _, _ => none
  | k + 1, x1, x3, x5, x7, x67 => if x67 = true then (none) else ((galoislaw18_same.f k x1 (([(-1), 0, 2, 1, 4, 5, 3] : List Int))).bind fun t157 => (if t157 = true then ((galoislaw18_same.f k x3 (([(-1), 2, 1] : List Int))).bind fun t161 => (if t161 = true then ((r9SameLists.f k x5 (([(([3] : List Int)), (([4] : List Int))] : List (List Int)))).bind fun t171 => (if t171 = true then (if 0 < (x7.length : Int) then ((galoislaw18_same.f k (rd_L1 x7 0) (([0] : List Int))).bind fun t176 => (if t176 = true then (if 1 < (x7.length : Int) then ((galoislaw18_same.f k (rd_L1 x7 1) (([1, 2, 4] : List Int))).bind fun t181 => (if t181 = true then (if 2 < (x7.length : Int) then ((galoislaw18_same.f k (rd_L1 x7 2) (([3, 6, 5] : List Int))).bind fun t186 => (some t186)) else (none)) else (none))) else (none)) else (none))) else (none)) else (none))) else (none))) else (none)))
def galoislaw18_awake.f (k : Nat)  : Option (Bool) := (galoislaw18_seven.f).bind fun bt101 => ((discretelog_Table.f k bt101.1 bt101.2 (([3] : List Int))).bind fun bt108 => ((galoislaw18_four.f).bind fun bt112 => ((discretelog_Zech.f k bt112.1 bt112.2 (([0, 1] : List Int))).bind fun bt119 => ((galoislaw18_seven.f).bind fun bt123 => ((discretelog_Roots.f k bt123.1 bt123.2 (([2] : List Int)) 2).bind fun bt130 => ((galoislaw18_eight.f).bind fun bt134 => ((discretelog_Cosets.f k bt134.1 bt134.2).bind fun bt138 => ((galoislaw18_seven.f).bind fun bt142 => ((discretelog_Log.f k bt142.1 bt142.2 (([3] : List Int)) (([6] : List Int))).bind fun bt152 => (if bt108.2 = 0 then (if bt119.2 = 0 then (if bt130.2 = 0 then (if bt138.2 = 0 then (if bt152.2 = 0 then (if bt152.1 = 3 then (galoislaw18_awake.j0 k bt108.1 bt119.1 bt130.1 bt138.1 ((bt138.1.length : Int) != 3)) else (galoislaw18_awake.j0 k bt108.1 bt119.1 bt130.1 bt138.1 true)) else (galoislaw18_awake.j0 k bt108.1 bt119.1 bt130.1 bt138.1 true)) else (galoislaw18_awake.j0 k bt108.1 bt119.1 bt130.1 bt138.1 true)) else (galoislaw18_awake.j0 k bt108.1 bt119.1 bt130.1 bt138.1 true)) else (galoislaw18_awake.j0 k bt108.1 bt119.1 bt130.1 bt138.1 true)) else (galoislaw18_awake.j0 k bt108.1 bt119.1 bt130.1 bt138.1 true)))))))))))
theorem galoislaw18_awake.mono_l : ∀ k, (∀ y0 y1 y2 y3 y4, LeO (galoislaw18_awake.j0 k y0 y1 y2 y3 y4) (galoislaw18_awake.j0 (k + 1) y0 y1 y2 y3 y4))
  | 0 => fun _ _ _ _ _ r h => by simp [galoislaw18_awake.j0] at h
  | k + 1 => by
    have ih0 := galoislaw18_awake.mono_l k
    · intro y0 y1 y2 y3 y4
      unfold galoislaw18_awake.j0
      repeat' first
      | (with_reducible exact ih0 _ _ _ _ _)
      | (with_reducible exact discretelog_Cosets.mono _ _ _)
      | (with_reducible exact discretelog_Log.mono _ _ _ _ _)
      | (with_reducible exact discretelog_Roots.mono _ _ _ _ _)
      | (with_reducible exact discretelog_Table.mono _ _ _ _)
      | (with_reducible exact discretelog_Zech.mono _ _ _ _)
      | (with_reducible exact galoislaw18_same.mono _ _ _)
      | (with_reducible exact r9SameLists.mono _ _ _)
      | (with_reducible exact LeO.refl _)
      | (with_reducible exact LeO.none _)
      | (with_reducible refine LeO.ite ?_ ?_)
      | (with_reducible refine LeO.bind ?_ (fun _ => ?_))
      | exact ih0 _ _ _ _ _
      | exact discretelog_Cosets.mono _ _ _
      | exact discretelog_Log.mono _ _ _ _ _
      | exact discretelog_Roots.mono _ _ _ _ _
      | exact discretelog_Table.mono _ _ _ _
      | exact discretelog_Zech.mono _ _ _ _
      | exact galoislaw18_same.mono _ _ _
      | exact r9SameLists.mono _ _ _
      | exact LeO.none _
      | refine LeO.ite ?_ ?_
      | refine LeO.bind ?_ (fun _ => ?_)
theorem galoislaw18_awake.mono : ∀ k, LeO (galoislaw18_awake.f k ) (galoislaw18_awake.f (k + 1) ) := by
  intro  k
  have ih0 := galoislaw18_awake.mono_l k
  unfold galoislaw18_awake.f
  repeat' first
      | (with_reducible exact ih0 _ _ _ _ _)
      | (with_reducible exact discretelog_Cosets.mono _ _ _)
      | (with_reducible exact discretelog_Log.mono _ _ _ _ _)
      | (with_reducible exact discretelog_Roots.mono _ _ _ _ _)
      | (with_reducible exact discretelog_Table.mono _ _ _ _)
      | (with_reducible exact discretelog_Zech.mono _ _ _ _)
      | (with_reducible exact galoislaw18_same.mono _ _ _)
      | (with_reducible exact r9SameLists.mono _ _ _)
      | (with_reducible exact LeO.refl _)
      | (with_reducible exact LeO.none _)
      | (with_reducible refine LeO.ite ?_ ?_)
      | (with_reducible refine LeO.bind ?_ (fun _ => ?_))
      | exact ih0 _ _ _ _ _
      | exact discretelog_Cosets.mono _ _ _
      | exact discretelog_Log.mono _ _ _ _ _
      | exact discretelog_Roots.mono _ _ _ _ _
      | exact discretelog_Table.mono _ _ _ _
      | exact discretelog_Zech.mono _ _ _ _
      | exact galoislaw18_same.mono _ _ _
      | exact r9SameLists.mono _ _ _
      | exact LeO.none _
      | refine LeO.ite ?_ ?_
      | refine LeO.bind ?_ (fun _ => ?_)
mutual
def galoislaw18_DiscretelogLogs.j0 : Nat → Bool → Int → List Int → List Int → List Int → Option (Bool)
  | 0, _, _, _, _, _ => none
  | k + 1, x42, x102000, x102001, x103000, x103001 => if x42 = true then ((galoislaw18_awake.f k).bind fun t107 => (some t107)) else ((discretelog_Log.f k x102000 x102001 x103000 x103001).bind fun bt108 => ((galoisref18_CheckSmall.f k x102000 x102001 x103000 x103001 2147483647).bind fun t110 => (if t110 = 0 then ((galoisref18_IsGenerator.f k x102000 x102001 x103000).bind fun t111 => (galoislaw18_DiscretelogLogs.j1 k bt108.1 bt108.2 t110 (!t111) x102000 x102001 x103000 x103001)) else (galoislaw18_DiscretelogLogs.j1 k bt108.1 bt108.2 t110 false x102000 x102001 x103000 x103001))))
def galoislaw18_DiscretelogLogs.j1 : Nat → Int → Int → Int → Bool → Int → List Int → List Int → List Int → Option (Bool)
  | 0, _, _, _, _, _, _, _, _ => none
  | k + 1, x5, x6, x7, x67, x102000, x102001, x103000, x103001 => if x67 = true then (galoislaw18_DiscretelogLogs.j2 k x5 x6 27 x102000 x102001 x103000 x103001) else (galoislaw18_DiscretelogLogs.j2 k x5 x6 x7 x102000 x102001 x103000 x103001)
def galoislaw18_DiscretelogLogs.j2 : Nat → Int → Int → Int → Int → List Int → List Int → List Int → Option (Bool)
  | 0, _, _, _, _, _, _, _ => none
  | k + 1, x5, x6, x7, x102000, x102001, x103000, x103001 => if x7 = 0 then (galoislaw18_DiscretelogLogs.j3 k x5 x6 x7 ((x103001.length : Int) == 0) x102000 x102001 x103000 x103001) else (galoislaw18_DiscretelogLogs.j3 k x5 x6 x7 false x102000 x102001 x103000 x103001)
def galoislaw18_DiscretelogLogs.j3 : Nat → Int → Int → Int → Bool → Int → List Int → List Int → List Int → Option (Bool)
  | 0, _, _, _, _, _, _, _, _ => none
  | k + 1, x5, x6, x7, x75, x102000, x102001, x103000, x103001 => if x75 = true then (galoislaw18_DiscretelogLogs.j4 k x5 x6 6 x102000 x102001 x103000 x103001) else (galoislaw18_DiscretelogLogs.j4 k x5 x6 x7 x102000 x102001 x103000 x103001)
def galoislaw18_DiscretelogLogs.j4 : Nat → Int → Int → Int → Int → List Int → List Int → List Int → Option (Bool)
  | 0, _, _, _, _, _, _, _ => none
  | k + 1, x5, x6, x7, x102000, x102001, x103000, x103001 => if x7 = 0 then ((galoisref18_Table.f k x102000 x102001 x103000).bind fun t112 => ((r15Number.f k x102000 x102001 x103001).bind fun t115 => (if 0 ≤ t115 then (if t115 < (t112.length : Int) then (if x5 = (rd t112 t115) then (some (x6 == 0)) else (none)) else (none)) else (none)))) else (if x5 = 0 then (some (x6 == x7)) else (none))
end
def galoislaw18_DiscretelogLogs.f (k : Nat) (a0_0 : Int) (l0_1 : List Int) (l1_0 : List Int) (l1_1 : List Int) : Option (Bool) := (galoislaw18_awake.f k).bind fun t103 => (if t103 = true then (if (l0_1.length : Int) > 70 then (galoislaw18_DiscretelogLogs.j0 k true a0_0 l0_1 l1_0 l1_1) else (if (l1_0.length : Int) > 70 then (galoislaw18_DiscretelogLogs.j0 k true a0_0 l0_1 l1_0 l1_1) else (if (l1_1.length : Int) > 70 then (galoislaw18_DiscretelogLogs.j0 k true a0_0 l0_1 l1_0 l1_1) else ((r15Check.f k a0_0 l0_1).bind fun t104 => (if t104 = 0 then ((r15Few.f k a0_0 l0_1 256).bind fun t105 => (if t105 = true then (galoislaw18_DiscretelogLogs.j0 k false a0_0 l0_1 l1_0 l1_1) else ((r15Size.f k a0_0 l0_1).bind fun t106 => (galoislaw18_DiscretelogLogs.j0 k (decide (t106 > 0)) a0_0 l0_1 l1_0 l1_1)))) else (galoislaw18_DiscretelogLogs.j0 k false a0_0 l0_1 l1_0 l1_1)))))) else (galoislaw18_DiscretelogLogs.j0 k true a0_0 l0_1 l1_0 l1_1))
theorem galoislaw18_DiscretelogLogs.mono_l : ∀ k, (∀ y0 y1 y2 y3 y4, LeO (galoislaw18_DiscretelogLogs.j0 k y0 y1 y2 y3 y4) (galoislaw18_DiscretelogLogs.j0 (k + 1) y0 y1 y2 y3 y4)) ∧ (∀ y0 y1 y2 y3 y4 y5 y6 y7, LeO (galoislaw18_DiscretelogLogs.j1 k y0 y1 y2 y3 y4 y5 y6 y7) (galoislaw18_DiscretelogLogs.j1 (k + 1) y0 y1 y2 y3 y4 y5 y6 y7)) ∧ (∀ y0 y1 y2 y3 y4 y5 y6, LeO (galoislaw18_DiscretelogLogs.j2 k y0 y1 y2 y3 y4 y5 y6) (galoislaw18_DiscretelogLogs.j2 (k + 1) y0 y1 y2 y3 y4 y5 y6)) ∧ (∀ y0 y1 y2 y3 y4 y5 y6 y7, LeO (galoislaw18_DiscretelogLogs.j3 k y0 y1 y2 y3 y4 y5 y6 y7) (galoislaw18_DiscretelogLogs.j3 (k + 1) y0 y1 y2 y3 y4 y5 y6 y7)) ∧ (∀ y0 y1 y2 y3 y4 y5 y6, LeO (galoislaw18_DiscretelogLogs.j4 k y0 y1 y2 y3 y4 y5 y6) (galoislaw18_DiscretelogLogs.j4 (k + 1) y0 y1 y2 y3 y4 y5 y6))
  | 0 => ⟨fun _ _ _ _ _ r h => by simp [galoislaw18_DiscretelogLogs.j0] at h, fun _ _ _ _ _ _ _ _ r h => by simp [galoislaw18_DiscretelogLogs.j1] at h, fun _ _ _ _ _ _ _ r h => by simp [galoislaw18_DiscretelogLogs.j2] at h, fun _ _ _ _ _ _ _ _ r h => by simp [galoislaw18_DiscretelogLogs.j3] at h, fun _ _ _ _ _ _ _ r h => by simp [galoislaw18_DiscretelogLogs.j4] at h⟩
  | k + 1 => by
    obtain ⟨ih0, ih1, ih2, ih3, ih4⟩ := galoislaw18_DiscretelogLogs.mono_l k
    refine ⟨?_, ?_, ?_, ?_, ?_⟩
    · intro y0 y1 y2 y3 y4
      unfold galoislaw18_DiscretelogLogs.j0
      repeat' first
      | (with_reducible exact ih0 _ _ _ _ _)
      | (with_reducible exact ih1 _ _ _ _ _ _ _ _)
      | (with_reducible exact ih2 _ _ _ _ _ _ _)
      | (with_reducible exact ih3 _ _ _ _ _ _ _ _)
      | (with_reducible exact ih4 _ _ _ _ _ _ _)
      | (with_reducible exact discretelog_Log.mono _ _ _ _ _)
      | (with_reducible exact galoislaw18_awake.mono _)
      | (with_reducible exact r15Check.mono _ _ _)
      | (with_reducible exact r15Few.mono _ _ _ _)
      | (with_reducible exact r15Number.mono _ _ _ _)
      | (with_reducible exact r15Size.mono _ _ _)
      | (with_reducible exact galoisref18_CheckSmall.mono _ _ _ _ _ _)
      | (with_reducible exact galoisref18_IsGenerator.mono _ _ _ _)
      | (with_reducible exact galoisref18_Table.mono _ _ _ _)
      | (with_reducible exact LeO.refl _)
      | (with_reducible exact LeO.none _)
      | (with_reducible refine LeO.ite ?_ ?_)
      | (with_reducible refine LeO.bind ?_ (fun _ => ?_))
      | exact ih0 _ _ _ _ _
      | exact ih1 _ _ _ _ _ _ _ _
      | exact ih2 _ _ _ _ _ _ _
      | exact ih3 _ _ _ _ _ _ _ _
      | exact ih4 _ _ _ _ _ _ _
      | exact discretelog_Log.mono _ _ _ _ _
      | exact galoislaw18_awake.mono _
      | exact r15Check.mono _ _ _
      | exact r15Few.mono _ _ _ _
      | exact r15Number.mono _ _ _ _
      | exact r15Size.mono _ _ _
      | exact galoisref18_CheckSmall.mono _ _ _ _ _ _
      | exact galoisref18_IsGenerator.mono _ _ _ _
      | exact galoisref18_Table.mono _ _ _ _
      | exact LeO.none _
      | refine LeO.ite ?_ ?_
      | refine LeO.bind ?_ (fun _ => ?_)
    · intro y0 y1 y2 y3 y4 y5 y6 y7
      unfold galoislaw18_DiscretelogLogs.j1
      repeat' first
      | (with_reducible exact ih0 _ _ _ _ _)
      | (with_reducible exact ih1 _ _ _ _ _ _ _ _)
      | (with_reducible exact ih2 _ _ _ _ _ _ _)
      | (with_reducible exact ih3 _ _ _ _ _ _ _ _)
      | (with_reducible exact ih4 _ _ _ _ _ _ _)
      | (with_reducible exact discretelog_Log.mono _ _ _ _ _)
      | (with_reducible exact galoislaw18_awake.mono _)
      | (with_reducible exact r15Check.mono _ _ _)
      | (with_reducible exact r15Few.mono _ _ _ _)
      | (with_reducible exact r15Number.mono _ _ _ _)
      | (with_reducible exact r15Size.mono _ _ _)
      | (with_reducible exact galoisref18_CheckSmall.mono _ _ _ _ _ _)
      | (with_reducible exact galoisref18_IsGenerator.mono _ _ _ _)
      | (with_reducible exact galoisref18_Table.mono _ _ _ _)
      | (with_reducible exact LeO.refl _)
      | (with_reducible exact LeO.none _)
      | (with_reducible refine LeO.ite ?_ ?_)
      | (with_reducible refine LeO.bind ?_ (fun _ => ?_))
      | exact ih0 _ _ _ _ _
      | exact ih1 _ _ _ _ _ _ _ _
      | exact ih2 _ _ _ _ _ _ _
      | exact ih3 _ _ _ _ _ _ _ _
      | exact ih4 _ _ _ _ _ _ _
      | exact discretelog_Log.mono _ _ _ _ _
      | exact galoislaw18_awake.mono _
      | exact r15Check.mono _ _ _
      | exact r15Few.mono _ _ _ _
      | exact r15Number.mono _ _ _ _
      | exact r15Size.mono _ _ _
      | exact galoisref18_CheckSmall.mono _ _ _ _ _ _
      | exact galoisref18_IsGenerator.mono _ _ _ _
      | exact galoisref18_Table.mono _ _ _ _
      | exact LeO.none _
      | refine LeO.ite ?_ ?_
      | refine LeO.bind ?_ (fun _ => ?_)
    · intro y0 y1 y2 y3 y4 y5 y6
      unfold galoislaw18_DiscretelogLogs.j2
      repeat' first
      | (with_reducible exact ih0 _ _ _ _ _)
      | (with_reducible exact ih1 _ _ _ _ _ _ _ _)
      | (with_reducible exact ih2 _ _ _ _ _ _ _)
      | (with_reducible exact ih3 _ _ _ _ _ _ _ _)
      | (with_reducible exact ih4 _ _ _ _ _ _ _)
      | (with_reducible exact discretelog_Log.mono _ _ _ _ _)
      | (with_reducible exact galoislaw18_awake.mono _)
      | (with_reducible exact r15Check.mono _ _ _)
      | (with_reducible exact r15Few.mono _ _ _ _)
      | (with_reducible exact r15Number.mono _ _ _ _)
      | (with_reducible exact r15Size.mono _ _ _)
      | (with_reducible exact galoisref18_CheckSmall.mono _ _ _ _ _ _)
      | (with_reducible exact galoisref18_IsGenerator.mono _ _ _ _)
      | (with_reducible exact galoisref18_Table.mono _ _ _ _)
      | (with_reducible exact LeO.refl _)
      | (with_reducible exact LeO.none _)
      | (with_reducible refine LeO.ite ?_ ?_)
      | (with_reducible refine LeO.bind ?_ (fun _ => ?_))
      | exact ih0 _ _ _ _ _
      | exact ih1 _ _ _ _ _ _ _ _
      | exact ih2 _ _ _ _ _ _ _
      | exact ih3 _ _ _ _ _ _ _ _
      | exact ih4 _ _ _ _ _ _ _
      | exact discretelog_Log.mono _ _ _ _ _
      | exact galoislaw18_awake.mono _
      | exact r15Check.mono _ _ _
      | exact r15Few.mono _ _ _ _
      | exact r15Number.mono _ _ _ _
      | exact r15Size.mono _ _ _
      | exact galoisref18_CheckSmall.mono _ _ _ _ _ _
      | exact galoisref18_IsGenerator.mono _ _ _ _
      | exact galoisref18_Table.mono _ _ _ _
      | exact LeO.none _
      | refine LeO.ite ?_ ?_
      | refine LeO.bind ?_ (fun _ => ?_)
    · intro y0 y1 y2 y3 y4 y5 y6 y7
      unfold galoislaw18_DiscretelogLogs.j3
      repeat' first
      | (with_reducible exact ih0 _ _ _ _ _)
      | (with_reducible exact ih1 _ _ _ _ _ _ _ _)
      | (with_reducible exact ih2 _ _ _ _ _ _ _)
      | (with_reducible exact ih3 _ _ _ _ _ _ _ _)
      | (with_reducible exact ih4 _ _ _ _ _ _ _)
      | (with_reducible exact discretelog_Log.mono _ _ _ _ _)
      | (with_reducible exact galoislaw18_awake.mono _)
      | (with_reducible exact r15Check.mono _ _ _)
      | (with_reducible exact r15Few.mono _ _ _ _)
      | (with_reducible exact r15Number.mono _ _ _ _)
      | (with_reducible exact r15Size.mono _ _ _)
      | (with_reducible exact galoisref18_CheckSmall.mono _ _ _ _ _ _)
      | (with_reducible exact galoisref18_IsGenerator.mono _ _ _ _)
      | (with_reducible exact galoisref18_Table.mono _ _ _ _)
      | (with_reducible exact LeO.refl _)
      | (with_reducible exact LeO.none _)
      | (with_reducible refine LeO.ite ?_ ?_)
      | (with_reducible refine LeO.bind ?_ (fun _ => ?_))
      | exact ih0 _ _ _ _ _
      | exact ih1 _ _ _ _ _ _ _ _
      | exact ih2 _ _ _ _ _ _ _
      | exact ih3 _ _ _ _ _ _ _ _
      | exact ih4 _ _ _ _ _ _ _
      | exact discretelog_Log.mono _ _ _ _ _
      | exact galoislaw18_awake.mono _
      | exact r15Check.mono _ _ _
      | exact r15Few.mono _ _ _ _
      | exact r15Number.mono _ _ _ _
      | exact r15Size.mono _ _ _
      | exact galoisref18_CheckSmall.mono _ _ _ _ _ _
      | exact galoisref18_IsGenerator.mono _ _ _ _
      | exact galoisref18_Table.mono _ _ _ _
      | exact LeO.none _
      | refine LeO.ite ?_ ?_
      | refine LeO.bind ?_ (fun _ => ?_)
    · intro y0 y1 y2 y3 y4 y5 y6
      unfold galoislaw18_DiscretelogLogs.j4
      repeat' first
      | (with_reducible exact ih0 _ _ _ _ _)
      | (with_reducible exact ih1 _ _ _ _ _ _ _ _)
      | (with_reducible exact ih2 _ _ _ _ _ _ _)
      | (with_reducible exact ih3 _ _ _ _ _ _ _ _)
      | (with_reducible exact ih4 _ _ _ _ _ _ _)
      | (with_reducible exact discretelog_Log.mono _ _ _ _ _)
      | (with_reducible exact galoislaw18_awake.mono _)
      | (with_reducible exact r15Check.mono _ _ _)
      | (with_reducible exact r15Few.mono _ _ _ _)
      | (with_reducible exact r15Number.mono _ _ _ _)
      | (with_reducible exact r15Size.mono _ _ _)
      | (with_reducible exact galoisref18_CheckSmall.mono _ _ _ _ _ _)
      | (with_reducible exact galoisref18_IsGenerator.mono _ _ _ _)
      | (with_reducible exact galoisref18_Table.mono _ _ _ _)
      | (with_reducible exact LeO.refl _)
      | (with_reducible exact LeO.none _)
      | (with_reducible refine LeO.ite ?_ ?_)
      | (with_reducible refine LeO.bind ?_ (fun _ => ?_))
      | exact ih0 _ _ _ _ _
      | exact ih1 _ _ _ _ _ _ _ _
      | exact ih2 _ _ _ _ _ _ _
      | exact ih3 _ _ _ _ _ _ _ _
      | exact ih4 _ _ _ _ _ _ _
      | exact discretelog_Log.mono _ _ _ _ _
      | exact galoislaw18_awake.mono _
      | exact r15Check.mono _ _ _
      | exact r15Few.mono _ _ _ _
      | exact r15Number.mono _ _ _ _
      | exact r15Size.mono _ _ _
      | exact galoisref18_CheckSmall.mono _ _ _ _ _ _
      | exact galoisref18_IsGenerator.mono _ _ _ _
      | exact galoisref18_Table.mono _ _ _ _
      | exact LeO.none _
      | refine LeO.ite ?_ ?_
      | refine LeO.bind ?_ (fun _ => ?_)
theorem galoislaw18_DiscretelogLogs.mono : ∀ a0 a1 a2 a3 k, LeO (galoislaw18_DiscretelogLogs.f k a0 a1 a2 a3) (galoislaw18_DiscretelogLogs.f (k + 1) a0 a1 a2 a3) := by
  intro a0 a1 a2 a3 k
  obtain ⟨ih0, ih1, ih2, ih3, ih4⟩ := galoislaw18_DiscretelogLogs.mono_l k
  unfold galoislaw18_DiscretelogLogs.f
  repeat' first
      | (with_reducible exact ih0 _ _ _ _ _)
      | (with_reducible exact ih1 _ _ _ _ _ _ _ _)
      | (with_reducible exact ih2 _ _ _ _ _ _ _)
      | (with_reducible exact ih3 _ _ _ _ _ _ _ _)
      | (with_reducible exact ih4 _ _ _ _ _ _ _)
      | (with_reducible exact discretelog_Log.mono _ _ _ _ _)
      | (with_reducible exact galoislaw18_awake.mono _)
      | (with_reducible exact r15Check.mono _ _ _)
      | (with_reducible exact r15Few.mono _ _ _ _)
      | (with_reducible exact r15Number.mono _ _ _ _)
      | (with_reducible exact r15Size.mono _ _ _)
      | (with_reducible exact galoisref18_CheckSmall.mono _ _ _ _ _ _)
      | (with_reducible exact galoisref18_IsGenerator.mono _ _ _ _)
      | (with_reducible exact galoisref18_Table.mono _ _ _ _)
      | (with_reducible exact LeO.refl _)
      | (with_reducible exact LeO.none _)
      | (with_reducible refine LeO.ite ?_ ?_)
      | (with_reducible refine LeO.bind ?_ (fun _ => ?_))
      | exact ih0 _ _ _ _ _
      | exact ih1 _ _ _ _ _ _ _ _
      | exact ih2 _ _ _ _ _ _ _
      | exact ih3 _ _ _ _ _ _ _ _
      | exact ih4 _ _ _ _ _ _ _
      | exact discretelog_Log.mono _ _ _ _ _
      | exact galoislaw18_awake.mono _
      | exact r15Check.mono _ _ _
      | exact r15Few.mono _ _ _ _
      | exact r15Number.mono _ _ _ _
      | exact r15Size.mono _ _ _
      | exact galoisref18_CheckSmall.mono _ _ _ _ _ _
      | exact galoisref18_IsGenerator.mono _ _ _ _
      | exact galoisref18_Table.mono _ _ _ _
      | exact LeO.none _
      | refine LeO.ite ?_ ?_
      | refine LeO.bind ?_ (fun _ => ?_)
def galoislaw18_DiscretelogLogs.Pure : Prop := ∀ (a0_0 : Int) (l0_1 : List Int) (l1_0 : List Int) (l1_1 : List Int), (Lit.int .i64 a0_0).wf = true → l0_1.length ≤ maxLen → l0_1.length * 8 ≤ 140737488351232 → (∀ x ∈ l0_1, (Lit.int .i64 x).wf = true) → l1_0.length ≤ maxLen → l1_0.length * 8 ≤ 140737488351232 → (∀ x ∈ l1_0, (Lit.int .i64 x).wf = true) → l1_1.length ≤ maxLen → l1_1.length * 8 ≤ 140737488351232 → (∀ x ∈ l1_1, (Lit.int .i64 x).wf = true) → ∃ k, galoislaw18_DiscretelogLogs.f k a0_0 l0_1 l1_0 l1_1 = some true
end Go.Proofs.YtillaipaanancaaGreat.Q
end

/- Machine side and arithmetic of the law, put together by a program of the session. No conditions. -/
import Derived.Test.YtillaipaanancaaGreatKdr5
import Derived.Test.YtillaipaanancaaGreatKdr17
import Derived.Test.YtillaipaanancaaGreatKdr18
section
namespace Go.Proofs.YtillaipaanancaaGreat.Q
open Go.RowKit Go.Proofs.YtillaipaanancaaGreatW.PrintWords Go.Proofs.YtillaipaanancaaGreatW.PrintLast Go.Proofs.YtillaipaanancaaGreatW.PrintMore
set_option linter.unusedVariables false
set_option linter.unusedSimpArgs false
def dl_table.l0 (kk : Nat) (p : Int) (l g : List Int) (M : Nat) : Nat → Nat → List Int → List (Int × Int) → Option (List (Int × Int))
  | 0, _, _, _ => none
  | k + 1, i, x, kn => if i < M then (gFNumber.f kk p l x).bind fun m => (gFMul.f kk p l x g).bind fun y => dl_table.l0 kk p l g M k (i + 1) y (Go.TT.mset (.int .i64) m (i : Int) kn) else some kn
def dl_table.l1 (kn : List (Int × Int)) : Nat → List Int → Int → Option (List Int)
  | 0, _, _ => none
  | k + 1, x10, x31 => if x31 < (x10.length : Int) then (if 0 ≤ x31 then (if (Go.TT.mget (.int .i64) x31 kn).isSome = true then dl_table.l1 kn k (x10.set x31.toNat ((Go.TT.mget (.int .i64) x31 kn).getD 0)) (wrap64 (x31 + 1)) else dl_table.l1 kn k (x10.set x31.toNat (-1)) (wrap64 (x31 + 1))) else none) else some x10
def dl_table.f (k : Nat) (a0_0 : Int) (l0_1 : List Int) (l1 : List Int) (a2 : Int) : Option (List Int) := if 0 ≤ wrap64 (a2 - 1) ∧ wrap64 (a2 - 1) ≤ 4294967296 then (dl_table.l0 k a0_0 l0_1 l1 (wrap64 (a2 - 1)).toNat k 0 [1] []).bind fun kn => (if 0 ≤ a2 then (if a2.toNat ≤ 35184372088832 then dl_table.l1 kn k (List.replicate a2.toNat 0) 0 else none) else none) else none
def dl_Log.l0 (q : Int) : Nat → Int → Option Int
  | 0, _ => none
  | k + 1, s => if wrap64 (s * s) < wrap64 (q - 1) then dl_Log.l0 q k (wrap64 (s + 1)) else some s
def dl_Log.l1 (kk : Nat) (p : Int) (l g : List Int) (M : Nat) : Nat → Nat → List Int → List (Int × Int) → Option (List (Int × Int))
  | 0, _, _, _ => none
  | k + 1, i, x, kn => if i < M then (gFNumber.f kk p l x).bind fun m => (gFMul.f kk p l x g).bind fun y => (if (Go.TT.mget (.int .i64) m kn).isSome = true then dl_Log.l1 kk p l g M k (i + 1) y kn else dl_Log.l1 kk p l g M k (i + 1) y (Go.TT.mset (.int .i64) m (i : Int) kn)) else some kn
def dl_Log.l2 (p : Int) (l : List Int) (q s : Int) (kn : List (Int × Int)) (gi : List Int) : Nat → List Int → Int → Option (Int × Int)
  | 0, _, _ => none
  | k + 1, a, i => if i ≤ s then (gFNumber.f k p l a).bind fun m => (if (Go.TT.mget (.int .i64) m kn).isSome = true then (if wrap64 (q - 1) = 0 then none else some (Int.tmod (wrap64 (wrap64 (i * s) + (Go.TT.mget (.int .i64) m kn).getD 0)) (wrap64 (q - 1)), 0)) else (gFMul.f k p l a gi).bind fun b => dl_Log.l2 p l q s kn gi k b (wrap64 (i + 1))) else some (0, 10)
def dl_Log.f (k : Nat) (a0_0 : Int) (l0_1 : List Int) (l1 : List Int) (l2 : List Int) : Option (Int × Int) := (dl_open.f k a0_0 l0_1 2147483647 [l1, l2]).bind fun t => (if t.2.2.2 = 0 then ((gFGenerates.f k t.1 t.2.1 l1 t.2.2.1).bind fun b => (if b = true then (if (l2.length : Int) = 0 then some (0, 6) else ((dl_Log.l0 t.2.2.1 k 1).bind fun s => (if 0 ≤ s ∧ s ≤ 4294967296 then (dl_Log.l1 k t.1 t.2.1 l1 s.toNat k 0 [1] []).bind fun kn => (gFPow.f k t.1 t.2.1 l1 s).bind fun x => (gFInverse.f k t.1 t.2.1 x).bind fun gi => dl_Log.l2 t.1 t.2.1 t.2.2.1 s kn gi k l2 0 else none))) else some (0, 27))) else some (0, t.2.2.2))
def dl_Table.f (k : Nat) (a0_0 : Int) (l0_1 : List Int) (l1 : List Int) : Option (List Int × Int) := (dl_open.f k a0_0 l0_1 4096 (([l1] : List (List Int)))).bind fun bt105 => (if bt105.2.2.2 = 0 then ((gFGenerates.f k bt105.1 bt105.2.1 l1 bt105.2.2.1).bind fun t112 => (if t112 = true then ((dl_table.f k bt105.1 bt105.2.1 l1 bt105.2.2.1).bind fun t113 => (some (t113, 0))) else (some (([] : List Int), 27)))) else (some (([] : List Int), bt105.2.2.2)))
def dl_Zech.l0 (kk : Nat) (p : Int) (l g logs : List Int) (M : Nat) : Nat → Nat → List Int → List Int → Option (List Int)
  | 0, _, _, _ => none
  | k + 1, i, x, out => if i < M then (gFAdd.f kk p l x [1]).bind fun s => (gFNumber.f kk p l s).bind fun m => (if 0 ≤ m ∧ m < (logs.length : Int) ∧ (i : Int) < (out.length : Int) then (gFMul.f kk p l x g).bind fun y => dl_Zech.l0 kk p l g logs M k (i + 1) y (out.set i (rd logs m)) else none) else some out
def dl_Zech.f (k : Nat) (a0_0 : Int) (l0_1 : List Int) (l1 : List Int) : Option (List Int × Int) := (dl_open.f k a0_0 l0_1 4096 [l1]).bind fun t => (if t.2.2.2 = 0 then ((gFGenerates.f k t.1 t.2.1 l1 t.2.2.1).bind fun b => (if b = true then (dl_table.f k t.1 t.2.1 l1 t.2.2.1).bind fun logs => (if 0 ≤ wrap64 (t.2.2.1 - 1) ∧ wrap64 (t.2.2.1 - 1) ≤ 4294967296 then ((dl_Zech.l0 k t.1 t.2.1 l1 logs (wrap64 (t.2.2.1 - 1)).toNat k 0 [1] (List.replicate (wrap64 (t.2.2.1 - 1)).toNat 0)).bind fun out => some (out, 0)) else none) else some ([], 27))) else some ([], t.2.2.2))
def dl_AddLogs.md (q x : Int) : Option Int := if wrap64 (q - 1) = 0 then none else some (Int.tmod (wrap64 (wrap64 (Int.tmod x (wrap64 (q - 1)) + q) - 1)) (wrap64 (q - 1)))
def dl_AddLogs.f (k : Nat) (a0_0 : Int) (l0_1 : List Int) (l1 : List Int) (a2 : Int) (a3 : Int) : Option (Int × Int) := (dl_open.f k a0_0 l0_1 4096 [l1]).bind fun t => (if t.2.2.2 = 0 then ((gFGenerates.f k t.1 t.2.1 l1 t.2.2.1).bind fun b => (if b = true then (dl_AddLogs.md t.2.2.1 a2).bind fun i => (gFPow.f k t.1 t.2.1 l1 i).bind fun x => (dl_AddLogs.md t.2.2.1 a3).bind fun j => (gFPow.f k t.1 t.2.1 l1 j).bind fun y => (gFAdd.f k t.1 t.2.1 x y).bind fun s => (dl_table.f k t.1 t.2.1 l1 t.2.2.1).bind fun tb => (gFNumber.f k t.1 t.2.1 s).bind fun m => (if 0 ≤ m then (if m < (tb.length : Int) then (if rd tb m < 0 then some (0, 6) else some (rd tb m, 0)) else none) else none) else some (0, 27))) else some (0, t.2.2.2))
def l18awake.j0 : Nat → List Int → List Int → List (List Int) → List (List Int) → Bool → Option (Bool)
  | 0, _, _, _, _, _ => none
  | k + 1, x1, x3, x5, x7, x67 => if x67 = true then (none) else ((l18same.f k x1 (([(-1), 0, 2, 1, 4, 5, 3] : List Int))).bind fun t157 => (if t157 = true then ((l18same.f k x3 (([(-1), 2, 1] : List Int))).bind fun t161 => (if t161 = true then ((r9SameLists.f k x5 (([(([3] : List Int)), (([4] : List Int))] : List (List Int)))).bind fun t171 => (if t171 = true then (if 0 < (x7.length : Int) then ((l18same.f k (rd_L1 x7 0) (([0] : List Int))).bind fun t176 => (if t176 = true then (if 1 < (x7.length : Int) then ((l18same.f k (rd_L1 x7 1) (([1, 2, 4] : List Int))).bind fun t181 => (if t181 = true then (if 2 < (x7.length : Int) then ((l18same.f k (rd_L1 x7 2) (([3, 6, 5] : List Int))).bind fun t186 => (some t186)) else (none)) else (none))) else (none)) else (none))) else (none)) else (none))) else (none))) else (none)))
def l18awake.f (k : Nat)  : Option (Bool) := (l18seven.f).bind fun bt101 => ((dl_Table.f k bt101.1 bt101.2 (([3] : List Int))).bind fun bt108 => ((l18four.f).bind fun bt112 => ((dl_Zech.f k bt112.1 bt112.2 (([0, 1] : List Int))).bind fun bt119 => ((l18seven.f).bind fun bt123 => ((dl_Roots.f k bt123.1 bt123.2 (([2] : List Int)) 2).bind fun bt130 => ((l18eight.f).bind fun bt134 => ((dl_Cosets.f k bt134.1 bt134.2).bind fun bt138 => ((l18seven.f).bind fun bt142 => ((dl_Log.f k bt142.1 bt142.2 (([3] : List Int)) (([6] : List Int))).bind fun bt152 => (if bt108.2 = 0 then (if bt119.2 = 0 then (if bt130.2 = 0 then (if bt138.2 = 0 then (if bt152.2 = 0 then (if bt152.1 = 3 then (l18awake.j0 k bt108.1 bt119.1 bt130.1 bt138.1 ((bt138.1.length : Int) != 3)) else (l18awake.j0 k bt108.1 bt119.1 bt130.1 bt138.1 true)) else (l18awake.j0 k bt108.1 bt119.1 bt130.1 bt138.1 true)) else (l18awake.j0 k bt108.1 bt119.1 bt130.1 bt138.1 true)) else (l18awake.j0 k bt108.1 bt119.1 bt130.1 bt138.1 true)) else (l18awake.j0 k bt108.1 bt119.1 bt130.1 bt138.1 true)) else (l18awake.j0 k bt108.1 bt119.1 bt130.1 bt138.1 true)))))))))))
mutual
def lw.j0 : Nat → List Int → Int → Bool → Int → List Int → Option (Bool)
  | 0, _, _, _, _, _ => none
  | k + 1, x1, x2, x25, x102000, x102001 => if x25 = true then ((l18awake.f k).bind fun t104 => (some t104)) else ((dl_Roots.f k x102000 x102001 x1 x2).bind fun bt105 => ((dl_Cosets.f k x102000 x102001).bind fun bt109 => ((r18CheckSmall.f k x102000 x102001 ([] : List Int) ([] : List Int) 4096).bind fun t113 => (if t113 = 0 then ((r18Cosets.f k x102000 x102001).bind fun t114 => (if (bt109.1.length : Int) = (t114.length : Int) then (lw.j1 k x1 x2 bt105.1 bt105.2 bt109.1 t114 (bt109.2 != 0) x102000 x102001) else (lw.j1 k x1 x2 bt105.1 bt105.2 bt109.1 t114 true x102000 x102001))) else (if (bt109.1.length : Int) > 0 then (none) else (if bt109.2 = t113 then (lw.j3 k x1 x2 bt105.1 bt105.2 x102000 x102001) else (none)))))))
def lw.j3 : Nat → List Int → Int → List (List Int) → Int → Int → List Int → Option (Bool)
  | 0, _, _, _, _, _, _ => none
  | k + 1, x1, x2, x7, x8, x102000, x102001 => (r18CheckSmall.f k x102000 x102001 x1 ([] : List Int) 4096).bind fun t120 => (if t120 = 0 then ((r4IsModulus.f x2).bind fun t121 => (lw.j4 k x1 x2 x7 x8 t120 (!t121) x102000 x102001)) else (lw.j4 k x1 x2 x7 x8 t120 false x102000 x102001))
def lw.j4 : Nat → List Int → Int → List (List Int) → Int → Int → Bool → Int → List Int → Option (Bool)
  | 0, _, _, _, _, _, _, _, _ => none
  | k + 1, x1, x2, x7, x8, x11, x87, x102000, x102001 => if x87 = true then (lw.j5 k x1 x2 x7 x8 3 x102000 x102001) else (lw.j5 k x1 x2 x7 x8 x11 x102000 x102001)
def lw.j5 : Nat → List Int → Int → List (List Int) → Int → Int → Int → List Int → Option (Bool)
  | 0, _, _, _, _, _, _, _ => none
  | k + 1, x1, x2, x7, x8, x11, x102000, x102001 => if x11 = 0 then (if x8 = 0 then ((r18Roots.f k x102000 x102001 x1 x2).bind fun t122 => ((r9SameLists.f k x7 t122).bind fun t125 => (some t125))) else (none)) else (if (x7.length : Int) = 0 then (some (x8 == x11)) else (none))
def lw.j1 : Nat → List Int → Int → List (List Int) → Int → List (List Int) → List (List Int) → Bool → Int → List Int → Option (Bool)
  | 0, _, _, _, _, _, _, _, _, _ => none
  | k + 1, x1, x2, x7, x8, x9, x12, x61, x102000, x102001 => if x61 = true then (none) else (lw.l0 k x1 x2 x7 x8 x9 x12 0 x102000 x102001)
def lw.l0 : Nat → List Int → Int → List (List Int) → Int → List (List Int) → List (List Int) → Int → Int → List Int → Option (Bool)
  | 0, _, _, _, _, _, _, _, _, _ => none
  | k + 1, x1, x2, x7, x8, x9, x12, x13, x102000, x102001 => if x13 < (x9.length : Int) then (if 0 ≤ x13 then (if x13 < (x12.length : Int) then ((l18same.f k (rd_L1 x9 x13) (rd_L1 x12 x13)).bind fun t119 => (if t119 = true then (lw.l0 k x1 x2 x7 x8 x9 x12 (wrap64 (x13 + 1)) x102000 x102001) else (none))) else (none)) else (none)) else (lw.j3 k x1 x2 x7 x8 x102000 x102001)
end
def lw.f (k : Nat) (a0_0 : Int) (l0_1 : List Int) (l1 : List Int) (a2 : Int) : Option (Bool) := (l18awake.f k).bind fun t102 => (if t102 = true then ((l18light.f k a0_0 l0_1).bind fun t103 => (if t103 = true then (lw.j0 k l1 a2 (decide ((l1.length : Int) > 70)) a0_0 l0_1) else (lw.j0 k l1 a2 true a0_0 l0_1))) else (lw.j0 k l1 a2 true a0_0 l0_1))
def lw.Pure : Prop := ∀ (a0_0 : Int) (l0_1 : List Int) (l1 : List Int) (a2 : Int), (Lit.int .i64 a0_0).wf = true → l0_1.length ≤ maxLen → l0_1.length * 8 ≤ 140737488351232 → (∀ x ∈ l0_1, (Lit.int .i64 x).wf = true) → l1.length ≤ maxLen → l1.length * 8 ≤ 140737488351232 → (∀ x ∈ l1, (Lit.int .i64 x).wf = true) → (Lit.int .i64 a2).wf = true → ∃ k, lw.f k a0_0 l0_1 l1 a2 = some true
end Go.Proofs.YtillaipaanancaaGreat.Q
end

/- Machine side and arithmetic of the law, put together by a program of the session. No conditions. -/
import Derived.Test.YtillaipaanancaaGreatProg
import Derived.Below
import Derived.Deep.Draws
import Derived.Deep.AppendLies
import Derived.Maps.AppendAt
import Derived.OwnWalk
import Derived.Laws.BytesArg
import Derived.Laws.MakeOwn
import Derived.Laws.OwnMore
import Derived.Deep.OwnRows
import Derived.Tactics
import Derived.Lib.ConvBytes
import Derived.Laws.Slices
import Derived.WalkKit
import Derived.KernelRfl
import Derived.RowKit3
import Derived.Deep.LoopGhost
import Derived.Deep.QuietTactic
import Derived.BigQuiet
import Derived.WideLaws
import Derived.Deep.DeepCutAuto
import Derived.Deep.CutBlock
import Derived.Deep.RegionHeld3
import Derived.Laws.Rows
import Derived.Lib.AppendStr
import Derived.ArgAppend
import Derived.Laws.IdiomCopy
import Derived.OrdersHeld
import Derived.Laws.BitsLemmas
import Derived.RowKit
import Derived.Test.YtillaipaanancaaGreatKdr3
import Derived.Test.YtillaipaanancaaGreatKdr15
import Derived.Test.YtillaipaanancaaGreatKdr16
section
namespace Go.Proofs.YtillaipaanancaaGreat.Q
open Go.RowKit Go.Proofs.YtillaipaanancaaGreatW.PrintWords Go.Proofs.YtillaipaanancaaGreatW.PrintLast Go.Proofs.YtillaipaanancaaGreatW.PrintMore
attribute [local go_sem] max2_int min2_int max_two min_two max_three min_three max_four min_four   -- for this text's walks alone
set_option linter.unusedVariables false
set_option linter.unusedSimpArgs false
theorem info134 : (Tryz.prog.info? 134).map (fun i => (i.zero, i.size, i.bytes)) = some (some (.agg #[(.int .i64 0), (.int .i64 0)]), 2, 16) := by kernel_rfl
def rd_L1 (xs : List (List Int)) (i : Int) : (List Int) := xs.getD i.toNat ([] : List Int)
structure S134 where
 f0 : Int
 f1 : Int
def z134 : S134 := ⟨(0 : Int), (0 : Int)⟩
def k134 : Kd S134 := Kd.iso (Kd.pair (Kd.int .i64) (Kd.int .i64)) (fun x : S134 => (x.f0, x.f1))
theorem k134_openM {w : World} {base : Nat} {ok : Nat → Prop} {x : S134} {cs : List Value} (h : k134.M w base ok x cs) : cs = [.int .i64 x.f0, .int .i64 x.f1] := by
 obtain ⟨_, _, rfl, rfl, rfl⟩ := h
 exact rfl
theorem k134_mkM (w : World) (base : Nat) (ok : Nat → Prop) (x : S134)  : k134.M w base ok x [.int .i64 x.f0, .int .i64 x.f1] := ⟨[.int .i64 x.f0], [.int .i64 x.f1], rfl, rfl, rfl⟩
def rd_T134 (xs : List S134) (i : Int) : S134 := xs.getD i.toNat z134
end Go.Proofs.YtillaipaanancaaGreat.Q
end
section
namespace Go.Proofs.YtillaipaanancaaGreat.Q
open Go.RowKit Go.Proofs.YtillaipaanancaaGreatW.PrintWords Go.Proofs.YtillaipaanancaaGreatW.PrintLast Go.Proofs.YtillaipaanancaaGreatW.PrintMore
set_option linter.unusedVariables false
set_option linter.unusedSimpArgs false
def r9Trim.l0 : Nat → List Int → Option (List Int)
  | 0, _ => none
  | k + 1, x0 => if (x0.length : Int) > 0 then (if 0 ≤ (wrap64 ((x0.length : Int) - 1)) then (if (wrap64 ((x0.length : Int) - 1)) < (x0.length : Int) then (if (rd x0 (wrap64 ((x0.length : Int) - 1))) = 0 then (if (wrap64 ((x0.length : Int) - 1)) ≤ (x0.length : Int) then (r9Trim.l0 k (x0.take ((wrap64 ((x0.length : Int) - 1)) : Int).toNat)) else (none)) else (some x0)) else (none)) else (none)) else (some x0)
def r9Trim.f (k : Nat) (l0 : List Int) : Option (List Int) := r9Trim.l0 k l0
def r9Copy.f (l0 : List Int) : Option (List Int) := (some (([] : List Int) : List Int)).bind fun y101 => (if y101.length + l0.length < 17592186044416 then (some (y101 ++ l0)) else (none))
def r4Mod.f (a0 : Int) (a1 : Int) : Option (Int) := if a1 = 0 then (none) else (some (Int.tmod (wrap64 ((Int.tmod a0 a1) + a1)) a1))
def r9Scale.l0 : Nat → Int → Int → List Int → Int → Option (List Int)
  | 0, _, _, _, _ => none
  | k + 1, x0, x2, x7, x8 => if x8 < (x7.length : Int) then (if 0 ≤ x8 then (if x0 = 0 then (none) else (r9Scale.l0 k x0 x2 (x7.set (x8 : Int).toNat (Int.tmod (wrap64 ((rd x7 x8) * x2)) x0)) (wrap64 (x8 + 1)))) else (none)) else ((r9Trim.f k x7).bind fun t107 => (some t107))
def r9Scale.f (k : Nat) (a0 : Int) (l1 : List Int) (a2 : Int) : Option (List Int) := (r4Mod.f a2 a0).bind fun t101 => ((r9Copy.f l1).bind fun t102 => (r9Scale.l0 k a0 t101 t102 0))
def r9Add.l0 : Nat → Int → List Int → List Int → List Int → Int → Option (List Int)
  | 0, _, _, _, _, _ => none
  | k + 1, x0, x1, x2, x7, x8 => if x8 < (x7.length : Int) then (if x8 < (x1.length : Int) then (if 0 ≤ x8 then ((some (x7.set (x8 : Int).toNat (wrap64 ((rd x7 x8) + (rd x1 x8))) : List Int)).bind fun y109 => (if x8 < (x2.length : Int) then ((some (y109.set (x8 : Int).toNat (wrap64 ((rd y109 x8) + (rd x2 x8))) : List Int)).bind fun y112 => (if x0 = 0 then (none) else (r9Add.l0 k x0 x1 x2 (y112.set (x8 : Int).toNat (Int.tmod (rd y112 x8) x0)) (wrap64 (x8 + 1))))) else (if x0 = 0 then (none) else (r9Add.l0 k x0 x1 x2 (y109.set (x8 : Int).toNat (Int.tmod (rd y109 x8) x0)) (wrap64 (x8 + 1)))))) else (none)) else (if x8 < (x2.length : Int) then (if 0 ≤ x8 then ((some (x7.set (x8 : Int).toNat (wrap64 ((rd x7 x8) + (rd x2 x8))) : List Int)).bind fun y119 => (if x0 = 0 then (none) else (r9Add.l0 k x0 x1 x2 (y119.set (x8 : Int).toNat (Int.tmod (rd y119 x8) x0)) (wrap64 (x8 + 1))))) else (none)) else (if 0 ≤ x8 then (if x0 = 0 then (none) else (r9Add.l0 k x0 x1 x2 (x7.set (x8 : Int).toNat (Int.tmod (rd x7 x8) x0)) (wrap64 (x8 + 1)))) else (none)))) else ((r9Trim.f k x7).bind fun t104 => (some t104))
def r9Add.f (k : Nat) (a0 : Int) (l1 : List Int) (l2 : List Int) : Option (List Int) := if 0 ≤ (mx (l1.length : Int) (l2.length : Int)) then (if (mx (l1.length : Int) (l2.length : Int) : Int).toNat ≤ 35184372088832 then (r9Add.l0 k a0 l1 l2 (List.replicate (mx (l1.length : Int) (l2.length : Int) : Int).toNat 0) 0) else (none)) else (none)
def r9Sub.f (k : Nat) (a0 : Int) (l1 : List Int) (l2 : List Int) : Option (List Int) := (r9Scale.f k a0 l2 (-1)).bind fun t101 => ((r9Add.f k a0 l1 t101).bind fun t104 => (some t104))
def fp_at.f (l0 : List Int) (a1 : Int) : Option (Int) := if a1 < (l0.length : Int) then (if 0 ≤ a1 then (some (rd l0 a1)) else (none)) else (some 0)
def fp_Trim.l0 : Nat → List Int → Int → Option (List Int)
  | 0, _, _ => none
  | k + 1, x0, x3 => if x3 > 0 then (if 0 ≤ (wrap64 (x3 - 1)) then (if (wrap64 (x3 - 1)) < (x0.length : Int) then (if (rd x0 (wrap64 (x3 - 1))) = 0 then (fp_Trim.l0 k x0 (wrap64 (x3 - 1))) else (if 0 ≤ x3 then (if x3 ≤ (x0.length : Int) then (some (x0.take (x3 : Int).toNat)) else (none)) else (none))) else (none)) else (none)) else (if 0 ≤ x3 then (if x3 ≤ (x0.length : Int) then (some (x0.take (x3 : Int).toNat)) else (none)) else (none))
def fp_Trim.f (k : Nat) (l0 : List Int) : Option (List Int) := fp_Trim.l0 k l0 (l0.length : Int)
def fp_Sub.l0 : Nat → Int → List Int → List Int → List Int → Int → Int → Option (List Int)
  | 0, _, _, _, _, _, _ => none
  | k + 1, x0, x1, x2, x7, x16, x17 => if x17 < x16 then ((fp_at.f x1 x17).bind fun t104 => ((fp_at.f x2 x17).bind fun t105 => (if x0 = 0 then (none) else (if 0 ≤ x17 then (if x17 < (x7.length : Int) then (fp_Sub.l0 k x0 x1 x2 (x7.set (x17 : Int).toNat (Int.tmod (wrap64 ((wrap64 (t104 + x0)) - t105)) x0)) x16 (wrap64 (x17 + 1))) else (none)) else (none))))) else ((fp_Trim.f k x7).bind fun t107 => (some t107))
def fp_Sub.f (k : Nat) (a0 : Int) (l1 : List Int) (l2 : List Int) : Option (List Int) := if 0 ≤ (mx (l1.length : Int) (l2.length : Int)) then (if (mx (l1.length : Int) (l2.length : Int) : Int).toNat ≤ 35184372088832 then ((some (List.replicate (mx (l1.length : Int) (l2.length : Int) : Int).toNat 0 : List Int)).bind fun y101 => (fp_Sub.l0 k a0 l1 l2 y101 (y101.length : Int) 0)) else (none)) else (none)
def fp_Scale.l0 : Nat → Int → Int → List Int → List Int → Int → Int → Option (List Int)
  | 0, _, _, _, _, _, _ => none
  | k + 1, x0, x2, x7, x13, x14, x15 => if x15 < x14 then (if 0 ≤ x15 then (if x15 < (x13.length : Int) then (if x0 = 0 then (none) else (if x15 < (x7.length : Int) then (fp_Scale.l0 k x0 x2 (x7.set (x15 : Int).toNat (Int.tmod (wrap64 ((rd x13 x15) * x2)) x0)) x13 x14 (wrap64 (x15 + 1))) else (none))) else (none)) else (none)) else ((fp_Trim.f k x7).bind fun t106 => (some t106))
def fp_Scale.f (k : Nat) (a0 : Int) (l1 : List Int) (a2 : Int) : Option (List Int) := if 0 ≤ (l1.length : Int) then (if ((l1.length : Int) : Int).toNat ≤ 35184372088832 then (fp_Scale.l0 k a0 a2 (List.replicate ((l1.length : Int) : Int).toNat 0) l1 (l1.length : Int) 0) else (none)) else (none)
def fp_Mod.f (a0 : Int) (a1 : Int) : Option (Int) := if a0 = 0 then (none) else (if (Int.tmod a1 a0) < 0 then (some (wrap64 ((Int.tmod a1 a0) + a0))) else (some (Int.tmod a1 a0)))
def fp_Add.l0 : Nat → Int → List Int → List Int → List Int → Int → Int → Option (List Int)
  | 0, _, _, _, _, _, _ => none
  | k + 1, x0, x1, x2, x7, x16, x17 => if x17 < x16 then ((fp_at.f x1 x17).bind fun t104 => ((fp_at.f x2 x17).bind fun t105 => (if x0 = 0 then (none) else (if 0 ≤ x17 then (if x17 < (x7.length : Int) then (fp_Add.l0 k x0 x1 x2 (x7.set (x17 : Int).toNat (Int.tmod (wrap64 (t104 + t105)) x0)) x16 (wrap64 (x17 + 1))) else (none)) else (none))))) else ((fp_Trim.f k x7).bind fun t107 => (some t107))
def fp_Add.f (k : Nat) (a0 : Int) (l1 : List Int) (l2 : List Int) : Option (List Int) := if 0 ≤ (mx (l1.length : Int) (l2.length : Int)) then (if (mx (l1.length : Int) (l2.length : Int) : Int).toNat ≤ 35184372088832 then ((some (List.replicate (mx (l1.length : Int) (l2.length : Int) : Int).toNat 0 : List Int)).bind fun y101 => (fp_Add.l0 k a0 l1 l2 y101 (y101.length : Int) 0)) else (none)) else (none)
def fp_Inv.l0 : Nat → Int → Int → Int → Int → Int → Option (Int)
  | 0, _, _, _, _, _ => none
  | k + 1, x0, x5, x6, x7, x8 => if x6 > 0 then (if x6 = 0 then (none) else (fp_Inv.l0 k x0 x6 (wrap64 (x5 - (wrap64 ((wrap64 (Int.tdiv x5 x6)) * x6)))) x8 (wrap64 (x7 - (wrap64 ((wrap64 (Int.tdiv x5 x6)) * x8)))))) else ((fp_Mod.f x0 x7).bind fun t101 => (some t101))
def fp_Inv.f (k : Nat) (a0 : Int) (a1 : Int) : Option (Int) := fp_Inv.l0 k a0 a0 a1 0 1
mutual
def fp_DivMod.l0 : Nat → Int → List Int → List Int → Int → List Int → Int → Int → Option (List Int × List Int)
  | 0, _, _, _, _, _, _, _ => none
  | k + 1, x0, x2, x8, x9, x10, x11, x12 => if x12 ≥ 0 then (if 0 ≤ (wrap64 ((wrap64 (x12 + x9)) - 1)) then (if (wrap64 ((wrap64 (x12 + x9)) - 1)) < (x8.length : Int) then (if x0 = 0 then (none) else (if 0 ≤ x12 then (if x12 < (x10.length : Int) then (fp_DivMod.l1 k x0 x2 x8 x9 (x10.set (x12 : Int).toNat (Int.tmod (wrap64 ((rd x8 (wrap64 ((wrap64 (x12 + x9)) - 1))) * x11)) x0)) x11 x12 (Int.tmod (wrap64 ((rd x8 (wrap64 ((wrap64 (x12 + x9)) - 1))) * x11)) x0) x2 (x2.length : Int) 0) else (none)) else (none))) else (none)) else (none)) else ((fp_Trim.f k x10).bind fun t112 => (if 0 ≤ (wrap64 (x9 - 1)) then (if (wrap64 (x9 - 1)) ≤ (x8.length : Int) then ((fp_Trim.f k (x8.take ((wrap64 (x9 - 1)) : Int).toNat)).bind fun t119 => (some (t112, t119))) else (none)) else (none)))
def fp_DivMod.l1 : Nat → Int → List Int → List Int → Int → List Int → Int → Int → Int → List Int → Int → Int → Option (List Int × List Int)
  | 0, _, _, _, _, _, _, _, _, _, _, _ => none
  | k + 1, x0, x2, x8, x9, x10, x11, x12, x13, x62, x63, x64 => if x64 < x63 then (if 0 ≤ x64 then (if x64 < (x62.length : Int) then (if 0 ≤ (wrap64 (x12 + x64)) then (if (wrap64 (x12 + x64)) < (x8.length : Int) then ((fp_Mod.f x0 (wrap64 ((rd x8 (wrap64 (x12 + x64))) - (wrap64 (x13 * (rd x62 x64)))))).bind fun t126 => (fp_DivMod.l1 k x0 x2 (x8.set ((wrap64 (x12 + x64)) : Int).toNat t126) x9 x10 x11 x12 x13 x62 x63 (wrap64 (x64 + 1)))) else (none)) else (none)) else (none)) else (none)) else (fp_DivMod.l0 k x0 x2 x8 x9 x10 x11 (wrap64 (x12 - 1)))
end
def fp_DivMod.f (k : Nat) (a0 : Int) (l1 : List Int) (l2 : List Int) : Option (List Int × List Int) := (some (([] : List Int) : List Int)).bind fun y101 => (if y101.length + l1.length < 17592186044416 then ((some (y101 ++ l1 : List Int)).bind fun y104 => (if (l1.length : Int) < (l2.length : Int) then (some (([] : List Int), y104)) else (if 0 ≤ (wrap64 ((wrap64 ((l1.length : Int) - (l2.length : Int))) + 1)) then (if (wrap64 ((wrap64 ((l1.length : Int) - (l2.length : Int))) + 1) : Int).toNat ≤ 35184372088832 then (if 0 ≤ (wrap64 ((l2.length : Int) - 1)) then (if (wrap64 ((l2.length : Int) - 1)) < (l2.length : Int) then ((fp_Inv.f k a0 (rd l2 (wrap64 ((l2.length : Int) - 1)))).bind fun t111 => (fp_DivMod.l0 k a0 l2 y104 (l2.length : Int) (List.replicate (wrap64 ((wrap64 ((l1.length : Int) - (l2.length : Int))) + 1) : Int).toNat 0) t111 (wrap64 ((l1.length : Int) - (l2.length : Int))))) else (none)) else (none)) else (none)) else (none)))) else (none))
def fp_Rem.f (k : Nat) (a0 : Int) (l1 : List Int) (l2 : List Int) : Option (List Int) := (fp_DivMod.f k a0 l1 l2).bind fun bt101 => (some bt101.2)
mutual
def fp_Mul.j0 : Nat → Int → List Int → List Int → Bool → Option (List Int)
  | 0, _, _, _, _ => none
  | k + 1, x0, x1, x2, x19 => if x19 = true then (some ([] : List Int)) else (if 0 ≤ (wrap64 ((wrap64 ((x1.length : Int) + (x2.length : Int))) - 1)) then (if (wrap64 ((wrap64 ((x1.length : Int) + (x2.length : Int))) - 1) : Int).toNat ≤ 35184372088832 then (fp_Mul.l0 k x0 x2 (List.replicate (wrap64 ((wrap64 ((x1.length : Int) + (x2.length : Int))) - 1) : Int).toNat 0) x1 (x1.length : Int) 0) else (none)) else (none))
def fp_Mul.l0 : Nat → Int → List Int → List Int → List Int → Int → Int → Option (List Int)
  | 0, _, _, _, _, _, _ => none
  | k + 1, x0, x2, x7, x27, x28, x29 => if x29 < x28 then (if 0 ≤ x29 then (if x29 < (x27.length : Int) then (fp_Mul.l1 k x0 x2 x7 x29 (rd x27 x29) x27 x28 x29 x2 (x2.length : Int) 0) else (none)) else (none)) else ((fp_Trim.f k x7).bind fun t104 => (some t104))
def fp_Mul.l1 : Nat → Int → List Int → List Int → Int → Int → List Int → Int → Int → List Int → Int → Int → Option (List Int)
  | 0, _, _, _, _, _, _, _, _, _, _, _ => none
  | k + 1, x0, x2, x7, x8, x9, x27, x28, x29, x34, x35, x36 => if x36 < x35 then (if 0 ≤ x36 then (if x36 < (x34.length : Int) then (if 0 ≤ (wrap64 (x8 + x36)) then (if (wrap64 (x8 + x36)) < (x7.length : Int) then (if x0 = 0 then (none) else (fp_Mul.l1 k x0 x2 (x7.set ((wrap64 (x8 + x36)) : Int).toNat (Int.tmod (wrap64 ((rd x7 (wrap64 (x8 + x36))) + (wrap64 (x9 * (rd x34 x36))))) x0)) x8 x9 x27 x28 x29 x34 x35 (wrap64 (x36 + 1)))) else (none)) else (none)) else (none)) else (none)) else (fp_Mul.l0 k x0 x2 x7 x27 x28 (wrap64 (x29 + 1)))
end
def fp_Mul.f (k : Nat) (a0 : Int) (l1 : List Int) (l2 : List Int) : Option (List Int) := if (l1.length : Int) = 0 then (fp_Mul.j0 k a0 l1 l2 true) else (fp_Mul.j0 k a0 l1 l2 ((l2.length : Int) == 0))
def fp_MulMod.f (k : Nat) (a0 : Int) (l1 : List Int) (l2 : List Int) (l3 : List Int) : Option (List Int) := (fp_Mul.f k a0 l1 l2).bind fun t101 => ((fp_Rem.f k a0 t101 l3).bind fun t104 => (some t104))
mutual
def r9Mul.j0 : Nat → Int → List Int → List Int → Bool → Option (List Int)
  | 0, _, _, _, _ => none
  | k + 1, x0, x1, x2, x17 => if x17 = true then (some ([] : List Int)) else (if 0 ≤ (wrap64 ((wrap64 ((x1.length : Int) + (x2.length : Int))) - 1)) then (if (wrap64 ((wrap64 ((x1.length : Int) + (x2.length : Int))) - 1) : Int).toNat ≤ 35184372088832 then (r9Mul.l0 k x0 x1 x2 (List.replicate (wrap64 ((wrap64 ((x1.length : Int) + (x2.length : Int))) - 1) : Int).toNat 0) 0) else (none)) else (none))
def r9Mul.l0 : Nat → Int → List Int → List Int → List Int → Int → Option (List Int)
  | 0, _, _, _, _, _ => none
  | k + 1, x0, x1, x2, x7, x8 => if x8 < (x1.length : Int) then (r9Mul.l1 k x0 x1 x2 x7 x8 0) else ((r9Trim.f k x7).bind fun t104 => (some t104))
def r9Mul.l1 : Nat → Int → List Int → List Int → List Int → Int → Int → Option (List Int)
  | 0, _, _, _, _, _, _ => none
  | k + 1, x0, x1, x2, x7, x8, x9 => if x9 < (x2.length : Int) then (if 0 ≤ (wrap64 (x8 + x9)) then (if (wrap64 (x8 + x9)) < (x7.length : Int) then (if 0 ≤ x8 then (if x8 < (x1.length : Int) then (if 0 ≤ x9 then (if x0 = 0 then (none) else (r9Mul.l1 k x0 x1 x2 (x7.set ((wrap64 (x8 + x9)) : Int).toNat (Int.tmod (wrap64 ((rd x7 (wrap64 (x8 + x9))) + (wrap64 ((rd x1 x8) * (rd x2 x9))))) x0)) x8 (wrap64 (x9 + 1)))) else (none)) else (none)) else (none)) else (none)) else (none)) else (r9Mul.l0 k x0 x1 x2 x7 (wrap64 (x8 + 1)))
end
def r9Mul.f (k : Nat) (a0 : Int) (l1 : List Int) (l2 : List Int) : Option (List Int) := if (l1.length : Int) = 0 then (r9Mul.j0 k a0 l1 l2 true) else (r9Mul.j0 k a0 l1 l2 ((l2.length : Int) == 0))
def r4Inverse.l0 : Nat → Int → Int → Int → Int → Int → Option (Int)
  | 0, _, _, _, _, _ => none
  | k + 1, x1, x5, x6, x7, x8 => if x6 > 0 then (if x6 = 0 then (none) else (r4Inverse.l0 k x1 x6 (wrap64 (x5 - (wrap64 ((wrap64 (Int.tdiv x5 x6)) * x6)))) x8 (wrap64 (x7 - (wrap64 ((wrap64 (Int.tdiv x5 x6)) * x8)))))) else ((r4Mod.f x7 x1).bind fun t102 => (some t102))
def r4Inverse.f (k : Nat) (a0 : Int) (a1 : Int) : Option (Int) := (r4Mod.f a0 a1).bind fun t101 => (r4Inverse.l0 k a1 a1 t101 0 1)
mutual
def r9DivMod.l0 : Nat → Int → List Int → List Int → Int → List Int → Int → Int → Option (List Int × List Int)
  | 0, _, _, _, _, _, _, _ => none
  | k + 1, x0, x2, x8, x9, x10, x11, x12 => if x12 ≥ 0 then (if 0 ≤ (wrap64 (x12 + x9)) then (if (wrap64 (x12 + x9)) < (x8.length : Int) then (if x0 = 0 then (none) else (if 0 ≤ x12 then (if x12 < (x10.length : Int) then (r9DivMod.l1 k x0 x2 x8 x9 (x10.set (x12 : Int).toNat (Int.tmod (wrap64 ((rd x8 (wrap64 (x12 + x9))) * x11)) x0)) x11 x12 (Int.tmod (wrap64 ((rd x8 (wrap64 (x12 + x9))) * x11)) x0) 0) else (none)) else (none))) else (none)) else (none)) else ((r9Trim.f k x10).bind fun t109 => ((r9Trim.f k x8).bind fun t112 => (some (t109, t112))))
def r9DivMod.l1 : Nat → Int → List Int → List Int → Int → List Int → Int → Int → Int → Int → Option (List Int × List Int)
  | 0, _, _, _, _, _, _, _, _, _ => none
  | k + 1, x0, x2, x8, x9, x10, x11, x12, x13, x14 => if x14 ≤ x9 then (if 0 ≤ (wrap64 (x12 + x14)) then (if (wrap64 (x12 + x14)) < (x8.length : Int) then (if 0 ≤ x14 then (if x14 < (x2.length : Int) then (if x0 = 0 then (none) else (r9DivMod.l1 k x0 x2 (x8.set ((wrap64 (x12 + x14)) : Int).toNat (Int.tmod (wrap64 ((rd x8 (wrap64 (x12 + x14))) + (wrap64 ((wrap64 (x0 - x13)) * (rd x2 x14))))) x0)) x9 x10 x11 x12 x13 (wrap64 (x14 + 1)))) else (none)) else (none)) else (none)) else (none)) else (r9DivMod.l0 k x0 x2 x8 x9 x10 x11 (wrap64 (x12 - 1)))
end
def r9DivMod.f (k : Nat) (a0 : Int) (l1 : List Int) (l2 : List Int) : Option (List Int × List Int) := (r9Copy.f l1).bind fun t101 => (if 0 ≤ (mx 0 (wrap64 ((l1.length : Int) - (wrap64 ((l2.length : Int) - 1))))) then (if (mx 0 (wrap64 ((l1.length : Int) - (wrap64 ((l2.length : Int) - 1)))) : Int).toNat ≤ 35184372088832 then ((some (List.replicate (mx 0 (wrap64 ((l1.length : Int) - (wrap64 ((l2.length : Int) - 1)))) : Int).toNat 0 : List Int)).bind fun y104 => (if 0 ≤ (wrap64 ((l2.length : Int) - 1)) then (if (wrap64 ((l2.length : Int) - 1)) < (l2.length : Int) then ((r4Inverse.f k (rd l2 (wrap64 ((l2.length : Int) - 1))) a0).bind fun t108 => (r9DivMod.l0 k a0 l2 t101 (wrap64 ((l2.length : Int) - 1)) y104 t108 (wrap64 ((y104.length : Int) - 1)))) else (none)) else (none))) else (none)) else (none))
def r9Mod.f (k : Nat) (a0 : Int) (l1 : List Int) (l2 : List Int) : Option (List Int) := (r9DivMod.f k a0 l1 l2).bind fun bt101 => (some bt101.2)
def r9MulMod.f (k : Nat) (a0 : Int) (l1 : List Int) (l2 : List Int) (l3 : List Int) : Option (List Int) := (r9Mul.f k a0 l1 l2).bind fun t101 => ((r9Mod.f k a0 t101 l3).bind fun t104 => (some t104))
mutual
def r9PowMod.l0 : Nat → Int → List Int → ByteArray → List Int → List Int → Int → Option (List Int)
  | 0, _, _, _, _, _, _ => none
  | k + 1, x0, x1, x2, x3, x9, x10 => if x10 < (x2.size : Int) then (r9PowMod.l1 k x0 x1 x2 x3 x9 x10 7) else (some x9)
def r9PowMod.l1 : Nat → Int → List Int → ByteArray → List Int → List Int → Int → Int → Option (List Int)
  | 0, _, _, _, _, _, _, _ => none
  | k + 1, x0, x1, x2, x3, x9, x10, x11 => if x11 ≥ 0 then ((r9MulMod.f k x0 x9 x9 x3).bind fun t110 => (if 0 ≤ x10 then (if x10 < (x2.size : Int) then (if 0 ≤ x11 then (if (Int.tmod (shr .u8 (bt x2 x10) x11) 2) = 1 then ((r9MulMod.f k x0 t110 x1 x3).bind fun t113 => (r9PowMod.l1 k x0 x1 x2 x3 t113 x10 (wrap64 (x11 - 1)))) else (r9PowMod.l1 k x0 x1 x2 x3 t110 x10 (wrap64 (x11 - 1)))) else (none)) else (none)) else (none))) else (r9PowMod.l0 k x0 x1 x2 x3 x9 (wrap64 (x10 + 1)))
end
def r9PowMod.f (k : Nat) (a0 : Int) (l1 : List Int) (a2 : ByteArray) (l3 : List Int) : Option (List Int) := (r9Mod.f k a0 (([1] : List Int)) l3).bind fun t104 => ((r9Mod.f k a0 l1 l3).bind fun t107 => (r9PowMod.l0 k a0 t107 a2 l3 t104 0))
mutual
def fp_PowMod.l0 : Nat → Int → ByteArray → List Int → List Int → List Int → Int → Int → Option (List Int)
  | 0, _, _, _, _, _, _, _ => none
  | k + 1, x0, x2, x3, x9, x10, x22, x23 => if x23 < x22 then (fp_PowMod.l1 k x0 x2 x3 x9 x10 x23 7 x22 x23) else (some x9)
def fp_PowMod.l1 : Nat → Int → ByteArray → List Int → List Int → List Int → Int → Int → Int → Int → Option (List Int)
  | 0, _, _, _, _, _, _, _, _, _ => none
  | k + 1, x0, x2, x3, x9, x10, x11, x12, x22, x23 => if x12 ≥ 0 then ((fp_MulMod.f k x0 x9 x9 x3).bind fun t110 => (if 0 ≤ x11 then (if x11 < (x2.size : Int) then (if 0 ≤ x12 then (if (Go.bits .and .u8 (shr .u8 (bt x2 x11) x12) 1) = 1 then ((fp_MulMod.f k x0 t110 x10 x3).bind fun t113 => (fp_PowMod.l1 k x0 x2 x3 t113 x10 x11 (wrap64 (x12 - 1)) x22 x23)) else (fp_PowMod.l1 k x0 x2 x3 t110 x10 x11 (wrap64 (x12 - 1)) x22 x23)) else (none)) else (none)) else (none))) else (fp_PowMod.l0 k x0 x2 x3 x9 x10 x22 (wrap64 (x23 + 1)))
end
def fp_PowMod.f (k : Nat) (a0 : Int) (l1 : List Int) (a2 : ByteArray) (l3 : List Int) : Option (List Int) := (fp_Rem.f k a0 (([1] : List Int)) l3).bind fun t104 => ((fp_Rem.f k a0 l1 l3).bind fun t107 => (fp_PowMod.l0 k a0 a2 l3 t104 t107 (a2.size : Int) 0))
def r9Lead.f (l0 : List Int) : Option (Int) := if (l0.length : Int) = 0 then (some 0) else (if 0 ≤ (wrap64 ((l0.length : Int) - 1)) then (if (wrap64 ((l0.length : Int) - 1)) < (l0.length : Int) then (some (rd l0 (wrap64 ((l0.length : Int) - 1)))) else (none)) else (none))
def r9Monic.f (k : Nat) (a0 : Int) (l1 : List Int) : Option (List Int) := if (l1.length : Int) = 0 then (some ([] : List Int)) else ((r9Lead.f l1).bind fun t101 => ((r4Inverse.f k t101 a0).bind fun t102 => ((r9Scale.f k a0 l1 t102).bind fun t103 => (some t103))))
def r9Gcd.l0 : Nat → Int → List Int → List Int → Option (List Int)
  | 0, _, _, _ => none
  | k + 1, x0, x1, x2 => if (x2.length : Int) > 0 then ((r9Mod.f k x0 x1 x2).bind fun t101 => (r9Gcd.l0 k x0 x2 t101)) else ((r9Monic.f k x0 x1).bind fun t104 => (some t104))
def r9Gcd.f (k : Nat) (a0 : Int) (l1 : List Int) (l2 : List Int) : Option (List Int) := r9Gcd.l0 k a0 l1 l2
mutual
def r1pack.l0 : Nat → List Int → List Int → Int → Option (ByteArray)
  | 0, _, _, _ => none
  | k + 1, x0, x3, x4 => if x4 ≥ 0 then (r1pack.l1 k x0 x3 x4 24) else (some (strOfNums x3))
def r1pack.l1 : Nat → List Int → List Int → Int → Int → Option (ByteArray)
  | 0, _, _, _, _ => none
  | k + 1, x0, x3, x4, x5 => if x5 ≥ 0 then (if 0 ≤ x4 then (if x4 < (x0.length : Int) then (if 0 ≤ x5 then (if (x3.length : Int) > 0 then (if x3.length < 140737488355328 then (r1pack.l1 k x0 (x3 ++ [(shr .u64 (rd x0 x4) x5) % 256]) x4 (wrap64 (x5 - 8))) else (none)) else (if ((shr .u64 (rd x0 x4) x5) % 256) > 0 then (if x3.length < 140737488355328 then (r1pack.l1 k x0 (x3 ++ [(shr .u64 (rd x0 x4) x5) % 256]) x4 (wrap64 (x5 - 8))) else (none)) else (r1pack.l1 k x0 x3 x4 (wrap64 (x5 - 8))))) else (none)) else (none)) else (none)) else (r1pack.l0 k x0 x3 (wrap64 (x4 - 1)))
end
def r1pack.f (k : Nat) (l0 : List Int) : Option (ByteArray) := r1pack.l0 k l0 ([] : List Int) (wrap64 ((l0.length : Int) - 1))
def fp_Power.f (k : Nat) (a0 : Int) (l1 : List Int) (l2 : List Int) : Option (List Int) := (fp_PowMod.f k a0 l1 (strOfNums (([(a0 / 256) % 256, (a0) % 256] : List Int))) l2).bind fun t104 => (some t104)
def fp_Monic.f (k : Nat) (a0 : Int) (l1 : List Int) : Option (List Int) := if (l1.length : Int) = 0 then (some ([] : List Int)) else (if 0 ≤ (wrap64 ((l1.length : Int) - 1)) then (if (wrap64 ((l1.length : Int) - 1)) < (l1.length : Int) then ((fp_Inv.f k a0 (rd l1 (wrap64 ((l1.length : Int) - 1)))).bind fun t102 => ((fp_Scale.f k a0 l1 t102).bind fun t103 => (some t103))) else (none)) else (none))
def fp_Gcd.l0 : Nat → Int → List Int → List Int → Option (List Int)
  | 0, _, _, _ => none
  | k + 1, x0, x1, x2 => if (x2.length : Int) > 0 then ((fp_Rem.f k x0 x1 x2).bind fun t101 => (fp_Gcd.l0 k x0 x2 t101)) else ((fp_Monic.f k x0 x1).bind fun t104 => (some t104))
def fp_Gcd.f (k : Nat) (a0 : Int) (l1 : List Int) (l2 : List Int) : Option (List Int) := fp_Gcd.l0 k a0 l1 l2
def fp_Irreducible.l0 : Nat → Int → List Int → Int → List Int → List Int → Int → Option (Bool)
  | 0, _, _, _, _, _, _ => none
  | k + 1, x0, x1, x5, x6, x7, x8 => if x8 ≤ x5 then ((fp_Power.f k x0 x7 x1).bind fun t107 => ((fp_Rem.f k x0 x6 x1).bind fun t110 => ((fp_Sub.f k x0 t107 t110).bind fun t113 => (if x8 = x5 then (some ((t113.length : Int) == 0)) else (if x8 = 0 then (none) else (if (Int.tmod x5 x8) = 0 then ((fp_Gcd.f k x0 t113 x1).bind fun t116 => (if (t116.length : Int) = 1 then (fp_Irreducible.l0 k x0 x1 x5 x6 t107 (wrap64 (x8 + 1))) else (some false))) else (fp_Irreducible.l0 k x0 x1 x5 x6 t107 (wrap64 (x8 + 1))))))))) else (some false)
def fp_Irreducible.f (k : Nat) (a0 : Int) (l1 : List Int) : Option (Bool) := if (wrap64 ((l1.length : Int) - 1)) < 1 then (some false) else ((some (([0, 1] : List Int) : List Int)).bind fun y101 => ((fp_Rem.f k a0 y101 l1).bind fun t104 => (fp_Irreducible.l0 k a0 l1 (wrap64 ((l1.length : Int) - 1)) y101 t104 1)))
def r1Of.f (k : Nat) (a0 : Int) : Option (ByteArray) := (r1pack.f k (([Go.bits .and .u64 a0 4294967295, a0 / 4294967296] : List Int))).bind fun t104 => (some t104)
def r1FromInt.f (k : Nat) (a0 : Int) : Option (ByteArray) := (r1Of.f k (IntKind.u64.wrap (a0))).bind fun t101 => (some t101)
def r9X.f  : Option (List Int) := some (([0, 1] : List Int))
def r9IsIrreducible.l0 : Nat → Int → List Int → List Int → Int → Option (Bool)
  | 0, _, _, _, _ => none
  | k + 1, x0, x1, x5, x6 => if (wrap64 (2 * x6)) ≤ (wrap64 ((x1.length : Int) - 1)) then ((r1FromInt.f k x0).bind fun t107 => ((r9PowMod.f k x0 x5 t107 x1).bind fun t108 => ((r9X.f).bind fun t111 => ((r9Sub.f k x0 t108 t111).bind fun t114 => ((r9Gcd.f k x0 t114 x1).bind fun t117 => (if (t117.length : Int) = 1 then (r9IsIrreducible.l0 k x0 x1 t108 (wrap64 (x6 + 1))) else (some false))))))) else (some true)
def r9IsIrreducible.f (k : Nat) (a0 : Int) (l1 : List Int) : Option (Bool) := if (l1.length : Int) < 2 then (some false) else ((r9X.f).bind fun t101 => ((r9Mod.f k a0 t101 l1).bind fun t104 => (r9IsIrreducible.l0 k a0 l1 t104 1)))
def badP (n : Int) : Bool := decide (n < 1) || decide (2147483647 < n)
def rs_bad.f (a0 : List Int) : Option Bool := some (a0.any badP)
end Go.Proofs.YtillaipaanancaaGreat.Q
end
section
namespace Go.Proofs.YtillaipaanancaaGreat.Q
open Go.RowKit Go.Proofs.YtillaipaanancaaGreatW.PrintWords Go.Proofs.YtillaipaanancaaGreatW.PrintLast Go.Proofs.YtillaipaanancaaGreatW.PrintMore
attribute [local go_sem] max2_int min2_int max_two min_two max_three min_three max_four min_four   -- for this text's walks alone
set_option linter.unusedVariables false
set_option linter.unusedSimpArgs false
def TInv (w0 w : World) (Bn Bo : Nat) (n : Int) (xs : List S134) : Prop :=
  w0.heap.size ≤ Bn ∧ w0.heap.size ≤ Bo ∧ w.heap[Bn]? = some (.cells #[.int .i64 n] 3 (0, 0)) ∧ (∃ v, w.heap[Bo]? = some (.cells #[v] 130 (0, 0)) ∧ Kd.R k134 134 w w0.heap.size (fun _ => True) v xs) ∧ Below w0.heap.size w0 w
theorem TInv.drewN {w0 w : World} {Bn Bo : Nat} {n : Int} {xs : List S134} (h : TInv w0 w Bn Bo n xs) (m : Nat) : TInv w0 (w.drewN m) Bn Bo n xs := by
  obtain ⟨h1, h2, h3, ⟨v, h4, h5⟩, h6⟩ := h
  exact ⟨h1, h2, h3, ⟨v, h4, Kd.R_drewN h5 m⟩, pw_below_drewN h6 m⟩
theorem TInv.ne {w0 w : World} {Bn Bo : Nat} {n : Int} {xs : List S134} (h : TInv w0 w Bn Bo n xs) : Bo ≠ Bn := by
  obtain ⟨h1, h2, h3, ⟨v, h4, h5⟩, h6⟩ := h
  rintro rfl
  rw [h3] at h4
  injection h4 with h4
  injection h4 with _ h4
  exact absurd h4 (by decide)
theorem TInv.setN {w0 w : World} {Bn Bo : Nat} {n : Int} {xs : List S134} (h : TInv w0 w Bn Bo n xs) (m : Int) : TInv w0 (w.setCell ⟨Bn, 0, none⟩ (.int .i64 m)) Bn Bo m xs := by
  have hne := h.ne
  obtain ⟨h1, h2, h3, ⟨v, h4, h5⟩, h6⟩ := h
  exact ⟨h1, h2, one_setCell h3, ⟨v, by rw [Below.heap_setCell _ _ _ _ hne]; exact h4, Kd.R_set h5 h3 (by intro q hq; simp [k134, Kd.iso, Kd.pair, Kd.int, Kd.scalar] at hq; omega) 0 _⟩, h6.setCell h1 _⟩
theorem TInv.append {w0 w w1 : World} {Bn Bo : Nat} {n : Int} {xs ys : List S134} {v v1 : Value} (h1 : w0.heap.size ≤ Bn) (h2 : w0.heap.size ≤ Bo) (h3 : w.heap[Bn]? = some (.cells #[.int .i64 n] 3 (0, 0))) (h4 : w.heap[Bo]? = some (.cells #[v] 130 (0, 0))) (h5 : Kd.R k134 134 w w0.heap.size (fun _ => True) v xs)
    (ho : Kd.R k134 134 w1 w0.heap.size (fun _ => True) v1 ys) (hb : Below w0.heap.size w0 w1) (hg : w.grownBy w1 v.ownBlock) :
    w1.heap[Bo]? = some (.cells #[v] 130 (0, 0)) ∧ TInv w0 (w1.setCell ⟨Bo, 0, none⟩ v1) Bn Bo n ys := by
  have hne : Bo ≠ Bn := by
    rintro rfl
    rw [h3] at h4
    injection h4 with h4
    injection h4 with _ h4
    exact absurd h4 (by decide)
  have e1 : w1.heap[Bn]? = some (.cells #[.int .i64 n] 3 (0, 0)) := (hg.block Bn (lt_of_block h3) (Kd.R_ne h5 h3 (by decide))).trans h3
  have e2 : w1.heap[Bo]? = some (.cells #[v] 130 (0, 0)) := (hg.block Bo (lt_of_block h4) (Kd.R_ne h5 h4 (by decide))).trans h4
  exact ⟨e2, h1, h2, by rw [Below.heap_setCell _ _ _ _ (fun e => hne e.symm)]; exact e1, ⟨v1, one_setCell e2, Kd.R_set ho e2 (by intro q hq; simp [k134, Kd.iso, Kd.pair, Kd.int, Kd.scalar] at hq; omega) 0 _⟩, hb.setCell h2 _⟩
def tryL : Nat → Int → Int → Int → Option (Int × Int)
  | 0, _, _, _ => none
  | k + 1, d, n, c => if d = 0 then none else if Int.tmod n d = 0 then tryL k d (wrap64 (Int.tdiv n d)) (wrap64 (c + 1)) else some (n, c)
def tryF (k : Nat) (d n : Int) (xs : List S134) : Option (Int × List S134) := (tryL k d n 0).bind fun r => if r.2 > 0 then (if xs.length < 8796093022208 then some (r.1, xs ++ [⟨d, r.2⟩]) else none) else some (r.1, xs)
set_option maxHeartbeats 8000000 in
set_option maxRecDepth 100000 in
theorem try_calls (k : Nat) (d n n' : Int) (xs xs' : List S134) (Bn Bo : Nat) (w0 w : World) (hI : TInv w0 w Bn Bo n xs) (h : tryF k d n xs = some (n', xs')) :
    Calls Tryz.prog 176 #[.int .i64 d, .pointer (some ⟨Bn, 0, none⟩), .pointer (some ⟨Bo, 0, none⟩)] w fun e w' => e = .returned (.tuple #[]) ∧ TInv w0 w' Bn Bo n' xs' := by
  have hu134 := Tryz.underlying134
  obtain ⟨⟨m, cnt⟩, hL, hE⟩ := Option.bind_eq_some_iff.mp h
  clear h
  have HL := Aside0.mk hL
  have HE := Aside0.mk hE
  have HI := Aside0.mk hI
  clear hL hE hI
  go_enter Tryz.func176, Tryz.ntmps176
  go_wp2
  repeat (go_quiet (fail); try go_wp2)
  go_loopg [4] k (fun kq v4 w' => ∃ (c n1 : Int), v4 = .int .i64 c ∧ Aside0 (tryL kq d n1 c = some (m, cnt)) ∧ Aside0 (TInv w0 w' Bn Bo n1 xs))
  case atStart => exact ⟨0, n, (by first | rfl | (simp; done) | (simp [*]; done)), HL, ⟨by (with_reducible repeat (first | exact HI.out | apply TInv.drewN))⟩⟩
  case round =>
    clear HL HI
    obtain ⟨c, n1, rfl, HA, HI⟩ := hrel
    cases gk with
    | zero => exact absurd HA.out (by simp [tryL])
    | succ k1 =>
      have H := HA.out
      clear HA
      simp only [tryL] at H
      have hcell := cell_of_one HI.out.2.2.1
      have hfree := free_of_one HI.out.2.2.1
      by_cases c1 : d = 0
      · rw [if_pos c1] at H; cases H
      · rw [if_neg c1] at H
        have c1b0 : (d == 0) = false := beq_eq_false_iff_ne.mpr c1
        have c1b1 : (d != 0) = true := bne_iff_ne.mpr c1
        by_cases c2 : Int.tmod n1 d = 0
        · rw [if_pos c2] at H
          have c2b0 : (Int.tmod n1 d == 0) = true := beq_iff_eq.mpr c2
          have c2b1 : (Int.tmod n1 d != 0) = false := bne_eq_false_iff_eq.mpr c2
          clear c2
          have H' := Aside0.mk H
          clear H
          go_wp2
          repeat (go_quiet (fail); try go_wp2)
          go_roundg k1
          case measure => omega
          case rel => exact ⟨(wrap64 (c + 1)), (wrap64 (Int.tdiv n1 d)), (by first | rfl | (simp; done) | (simp [*]; done)), H', ⟨by (with_reducible repeat (first | exact HI.out | apply TInv.drewN | apply TInv.setN))⟩⟩
        · rw [if_neg c2] at H
          have c2b0 : (Int.tmod n1 d == 0) = false := beq_eq_false_iff_ne.mpr c2
          have c2b1 : (Int.tmod n1 d != 0) = true := bne_iff_ne.mpr c2
          clear c2
          obtain ⟨rfl, rfl⟩ : n1 = m ∧ c = cnt := by injection H with H; injection H with H1 H2; exact ⟨H1, H2⟩
          clear H
          have HE2 := HE.out
          clear HE
          obtain ⟨h1, h2, h3, ⟨v, h4, h5⟩, h6⟩ := HI.out
          have hcell2 := cell_of_one h4
          have hfree2 := free_of_one h4
          have hso := h6.size
          by_cases c3 : c > 0
          · rw [if_pos c3] at HE2
            have c3b0 : decide (0 < c) = true := decide_eq_true c3
            clear c3
            by_cases c4 : xs.length < 8796093022208
            · rw [if_pos c4] at HE2
              obtain ⟨rfl, rfl⟩ : n1 = n' ∧ xs ++ [⟨d, c⟩] = xs' := by injection HE2 with H; injection H with H1 H2; exact ⟨H1, H2⟩
              clear HE2
              have LM := Aside0.mk c4
              have H3 := Aside0.mk h3
              have H4 := Aside0.mk h4
              have H5 := Aside0.mk h5
              have H6 := Aside0.mk h6
              have H1 := Aside0.mk h1
              have H2 := Aside0.mk h2
              clear c4 h3 h4 h5 h6 h1 h2 HI hso
              go_wp2_with (first | ((with_reducible refine gate_builtin (b := .append) (xs := #[.tmp 16, .tmp 20]) rfl ?_); at_builtin; refine Kd.R_append k134 (w0 := w0) w0.heap.size rfl (.tmp 16) (.tmp 20) 130 134 (.agg #[(.int .i64 0), (.int .i64 0)]) 16 rfl Tryz.underlying130 info134 rfl (by decide) (by omega) v xs (⟨d, c⟩ : S134) [.int .i64 d, .int .i64 c] (fun _ => True) (fun _ => False) rfl rfl ?aP (fun _ hk => hk.elim) ?aF ?aO ?aB ?aS ?aL ?_; (case aP => exact k134_mkM _ _ _ (⟨d, c⟩ : S134)); (case aB => exact H6.out); (case aF => exact (fun _ _ => trivial)); (case aO => exact H5.out); (case aS => exact H6.out.size); (case aL => have := LM.out; omega); intro v255 w9 ho hb hg hat; obtain ⟨A1, cc1, rfl⟩ := Kd.R_slice ho; obtain ⟨he2, hT⟩ := TInv.append H1.out H2.out H3.out H4.out H5.out ho hb hg; have HT := Aside0.mk hT; clear hT ho hb hg hat; have hcell9 := cell_of_one he2; have hfree9 := free_of_one he2; clear he2))
              go_end0
              have HT2 := HT.out
              rw [List.length_append, List.length_singleton] at HT2
              exact ⟨rfl, HT2⟩
            · rw [if_neg c4] at HE2; cases HE2
          · rw [if_neg c3] at HE2
            have c3b0 : decide (0 < c) = false := decide_eq_false c3
            obtain ⟨rfl, rfl⟩ : n1 = n' ∧ xs = xs' := by injection HE2 with H; injection H with H1 H2; exact ⟨H1, H2⟩
            clear HE2
            clear c3 h1 h2 h3 h4 h5 h6
            go_wp2
            repeat (go_quiet (fail); try go_wp2)
            go_end0
            exact ⟨rfl, by (with_reducible repeat (first | exact HI.out | apply TInv.drewN))⟩
def rs_factor.l0 (kk : Nat) : Nat → Int → List S134 → Int → Option (List S134)
  | 0, _, _, _ => none
  | k + 1, n, xs, d => if wrap64 (d * d) ≤ n then (tryF kk d n xs).bind fun r => rs_factor.l0 kk k r.1 r.2 (wrap64 (d + 2)) else if n > 1 then (tryF kk n n xs).bind fun r => some r.2 else some xs
def rs_factor.f (k : Nat) (a0 : Int) : Option (List S134) := (tryF k 2 a0 []).bind fun r => rs_factor.l0 k k r.1 r.2 3
set_option maxHeartbeats 8000000 in
set_option maxRecDepth 100000 in
theorem rs_factor.calls (k : Nat) (a0 : Int) (r : List S134) (w : World) (h : rs_factor.f k a0 = some r) :
    Calls Tryz.prog 143 #[.int .i64 a0] w fun e w' => ∃ v0_ : Value, e = .returned (v0_) ∧ Kd.R k134 134 w' w.heap.size (fun _ => True) v0_ r ∧ Below w.heap.size w w' := by
  have hu134 := Tryz.underlying134
  obtain ⟨⟨n1, xs1⟩, hF, hL⟩ := Option.bind_eq_some_iff.mp h
  clear h
  have HF := Aside0.mk hF
  have HL := Aside0.mk hL
  clear hF hL
  have hmf : ∀ (fn : Fn) (first cap : Array Value) (w : World), (Instr.makeFunc fn first cap).run Tryz.prog w = .ok (.func fn first cap) w := fun _ _ _ _ => rfl
  have hI0 : Aside0 (TInv w ((w.alloc (Obj.cells #[Value.int IntKind.i64 a0] 3)).alloc (Obj.cells #[Value.slice none 0 0] 130)) w.heap.size (w.heap.size + 1) a0 []) := by
    refine ⟨Nat.le_refl _, Nat.le_succ _, ?_, ⟨.slice none 0 0, ?_, Kd.R_nil _ _ _ _ _⟩, below_alloc (below_alloc (Below.refl _ _) _) _⟩
    · rw [Below.heap_alloc _ _ _ (by simp)]; exact heap_alloc_new w _
    · have := heap_alloc_new (w.alloc (Obj.cells #[Value.int IntKind.i64 a0] 3)) (Obj.cells #[Value.slice none 0 0] 130)
      simpa using this
  go_enter Tryz.func143, Tryz.ntmps143
  go_wp2_with (first | (go_at_call 176; refine (try_calls k 2 a0 n1 [] xs1 w.heap.size (w.heap.size + 1) w _ hI0.out HF.out).mono ?_; rintro e w1 ⟨rfl, hT⟩; have HT := Aside0.mk hT; clear hT))
  clear hI0 HF
  go_loopg [5] k (fun kq v5 w' => ∃ (n : Int) (xs : List S134) (d : Int), v5 = .int .i64 d ∧ Aside0 (rs_factor.l0 k kq n xs d = some r) ∧ Aside0 (TInv w w' w.heap.size (w.heap.size + 1) n xs))
  case atStart => exact ⟨n1, xs1, 3, (by first | rfl | (simp; done) | (simp [*]; done)), HL, HT⟩
  case round =>
    clear HL HT
    obtain ⟨n, xs, d, rfl, HA, HI⟩ := hrel
    cases gk with
    | zero => exact absurd HA.out (by simp [rs_factor.l0])
    | succ k1 =>
      have H := HA.out
      clear HA
      simp only [rs_factor.l0] at H
      have hcell := cell_of_one HI.out.2.2.1
      by_cases c1 : wrap64 (d * d) ≤ n
      · rw [if_pos c1] at H
        obtain ⟨⟨n2, xs2⟩, hF2, hL2⟩ := Option.bind_eq_some_iff.mp H
        have HF2 := Aside0.mk hF2
        have H' := Aside0.mk hL2
        clear H hF2 hL2
        have c1b0 : decide (wrap64 (d * d) ≤ n) = true := decide_eq_true c1
        clear c1
        go_wp2_with (first | (go_at_call 176; refine (try_calls k d n n2 xs xs2 w.heap.size (w.heap.size + 1) w _ (by (with_reducible repeat (first | exact HI.out | apply TInv.drewN))) HF2.out).mono ?_; rintro e w1 ⟨rfl, hT⟩; have HT := Aside0.mk hT; clear hT))
        go_roundg k1
        case measure => omega
        case rel => exact ⟨n2, xs2, (wrap64 (d + 2)), (by first | rfl | (simp; done) | (simp [*]; done)), H', HT⟩
      · rw [if_neg c1] at H
        have c1b0 : decide (wrap64 (d * d) ≤ n) = false := decide_eq_false c1
        clear c1
        by_cases c2 : n > 1
        · rw [if_pos c2] at H
          obtain ⟨⟨n2, xs2⟩, hF2, hL2⟩ := Option.bind_eq_some_iff.mp H
          obtain rfl := Option.some.inj hL2
          have HF2 := Aside0.mk hF2
          clear H hF2 hL2
          have c2b0 : decide (1 < n) = true := decide_eq_true c2
          clear c2
          go_wp2_with (first | (go_at_call 176; refine (try_calls k n n n2 xs xs2 w.heap.size (w.heap.size + 1) w _ (by (with_reducible repeat (first | exact HI.out | apply TInv.drewN))) HF2.out).mono ?_; rintro e w1 ⟨rfl, hT⟩; obtain ⟨h1, h2, h3, ⟨v, h4, h5⟩, h6⟩ := hT; obtain ⟨A1, cc1, rfl⟩ := Kd.R_slice h5; have HR := Aside0.mk h5; have HB := Aside0.mk h6; have hcell2 := cell_of_one h4; clear h1 h2 h3 h4 h5 h6))
          go_ret
          exact ⟨_, rfl, HR.out, HB.out⟩
        · rw [if_neg c2] at H
          obtain rfl := Option.some.inj H
          clear H
          have c2b0 : decide (1 < n) = false := decide_eq_false c2
          clear c2
          obtain ⟨h1, h2, h3, ⟨v, h4, h5⟩, h6⟩ := HI.out
          obtain ⟨A1, cc1, rfl⟩ := Kd.R_slice h5
          have HR := Aside0.mk h5
          have HB := Aside0.mk h6
          have hcell2 := cell_of_one h4
          clear h1 h2 h3 h4 h5 h6
          go_wp2
          go_ret
          exact ⟨_, rfl, HR.out, HB.out⟩
end Go.Proofs.YtillaipaanancaaGreat.Q
end
section
namespace Go.Proofs.YtillaipaanancaaGreat.Q
open Go.RowKit Go.Proofs.YtillaipaanancaaGreatW.PrintWords Go.Proofs.YtillaipaanancaaGreatW.PrintLast Go.Proofs.YtillaipaanancaaGreatW.PrintMore
set_option linter.unusedVariables false
set_option linter.unusedSimpArgs false
def rs_prime.f (k : Nat) (a0 : Int) : Option (Bool) := (rs_factor.f k a0).bind fun t101 => (if (t101.length : Int) = 1 then (if 0 < (t101.length : Int) then (some (((rd_T134 t101 0).f1) == 1)) else (none)) else (some false))
def rs_IsPrime.f (k : Nat) (a0 : Int) : Option (Bool × Int) := (rs_bad.f (([a0] : List Int))).bind fun t104 => (if t104 = true then (some (false, 3)) else ((rs_prime.f k a0).bind fun t105 => (some (t105, 0))))
def pm_prime.j0 : Nat → Int → Bool → Option (Int)
  | 0, _, _ => none
  | k + 1, x0, x10 => if x10 = true then (some 7) else ((rs_IsPrime.f k x0).bind fun bt101 => (if bt101.2 = 0 then (if bt101.1 = true then (some 0) else (some 7)) else (some 7)))
def pm_prime.f (k : Nat) (a0 : Int) : Option (Int) := if a0 < 2 then (pm_prime.j0 k a0 true) else (pm_prime.j0 k a0 (decide (a0 > 65521)))
def badC (p x : Int) : Bool := decide (x < 0) || decide (p ≤ x)
def pm_Check.g (a0 : Int) (l1 : List Int) : Int := if l1.length > 65 then 4 else if l1.any (badC a0) = true then 1 else if (l1.length : Int) > 0 then (if rd l1 (wrap64 ((l1.length : Int) - 1)) = 0 then 1 else 0) else 0
def pm_Check.f (k : Nat) (a0 : Int) (l1 : List Int) : Option Int := (pm_prime.f k a0).bind fun e => if e = 0 then some (pm_Check.g a0 l1) else some e
def r4IsPrime.l0 : Nat → Int → Int → Option (Bool)
  | 0, _, _ => none
  | k + 1, x0, x3 => if (wrap64 (x3 * x3)) ≤ x0 then (if x3 = 0 then (none) else (if (Int.tmod x0 x3) = 0 then (some false) else (r4IsPrime.l0 k x0 (wrap64 (x3 + 1))))) else (some (decide (x0 > 1)))
def r4IsPrime.f (k : Nat) (a0 : Int) : Option (Bool) := r4IsPrime.l0 k a0 2
def r9IsPrime.f (k : Nat) (a0 : Int) : Option (Bool) := if a0 ≥ 2 then (if a0 ≤ 65521 then ((r4IsPrime.f k a0).bind fun t101 => (some t101)) else (some false)) else (some false)
def r9Check.l0 : Nat → Int → List Int → Int → Option (Int)
  | 0, _, _, _ => none
  | k + 1, x0, x1, x5 => if x5 < (x1.length : Int) then (if 0 ≤ x5 then (if (rd x1 x5) < 0 then (some 1) else (if (rd x1 x5) ≥ x0 then (some 1) else (r9Check.l0 k x0 x1 (wrap64 (x5 + 1))))) else (none)) else (if (x1.length : Int) > 0 then (if 0 ≤ (wrap64 ((x1.length : Int) - 1)) then (if (wrap64 ((x1.length : Int) - 1)) < (x1.length : Int) then (if (rd x1 (wrap64 ((x1.length : Int) - 1))) = 0 then (some 1) else (some 0)) else (none)) else (none)) else (some 0))
def r9Check.f (k : Nat) (a0 : Int) (l1 : List Int) : Option (Int) := (r9IsPrime.f k a0).bind fun t101 => (if t101 = true then (if (l1.length : Int) > 65 then (some 4) else (r9Check.l0 k a0 l1 0)) else (some 7))
def r15Check.j0 : Nat → Bool → Int → List Int → Option (Int)
  | 0, _, _, _ => none
  | k + 1, x18, x102000, x102001 => if x18 = true then (some 1) else ((r9IsIrreducible.f k x102000 x102001).bind fun t104 => (if t104 = true then (some 0) else (some 8)))
def r15Check.f (k : Nat) (a0_0 : Int) (l0_1 : List Int) : Option (Int) := (r9Check.f k a0_0 l0_1).bind fun t102 => (if t102 = 0 then (if (l0_1.length : Int) > 17 then (some 4) else (if (l0_1.length : Int) < 2 then (r15Check.j0 k true a0_0 l0_1) else ((r9Lead.f l0_1).bind fun t103 => (r15Check.j0 k (t103 != 1) a0_0 l0_1)))) else (some t102))
def fi_element.f (k : Nat) (a0_0 : Int) (l0_1 : List Int) (l1 : List Int) : Option (Int) := (pm_Check.f k a0_0 l1).bind fun t102 => (if t102 = 0 then (if (l1.length : Int) ≥ (l0_1.length : Int) then (some 3) else (some 0)) else (some t102))
def r15Member.f (k : Nat) (a0_0 : Int) (l0_1 : List Int) (l1 : List Int) : Option (Int) := (r9Check.f k a0_0 l1).bind fun t102 => (if t102 = 0 then (if (l1.length : Int) ≥ (l0_1.length : Int) then (some 3) else (some t102)) else (some t102))
def r9Same.l0 : Nat → List Int → List Int → Int → Option (Bool)
  | 0, _, _, _ => none
  | k + 1, x0, x1, x5 => if x5 < (x0.length : Int) then (if 0 ≤ x5 then (if x5 < (x1.length : Int) then (if (rd x0 x5) = (rd x1 x5) then (r9Same.l0 k x0 x1 (wrap64 (x5 + 1))) else (some false)) else (none)) else (none)) else (some true)
def r9Same.f (k : Nat) (l0 : List Int) (l1 : List Int) : Option (Bool) := if (l0.length : Int) = (l1.length : Int) then (r9Same.l0 k l0 l1 0) else (some false)
def r15CheckElement.f (k : Nat) (a0_0 : Int) (l0_1 : List Int) (l1 : List Int) : Option (Int) := (r15Check.f k a0_0 l0_1).bind fun t102 => (if t102 = 0 then ((r15Member.f k a0_0 l0_1 l1).bind fun t103 => (some t103)) else ((r15Check.f k a0_0 l0_1).bind fun t104 => (some t104)))
def fi_Check.j0 : Nat → Bool → Int → List Int → Option (Int)
  | 0, _, _, _ => none
  | k + 1, x20, x102000, x102001 => if x20 = true then (some 1) else ((fp_Irreducible.f k x102000 x102001).bind fun t104 => (if t104 = true then (some 0) else (some 8)))
def fi_Check.f (k : Nat) (a0_0 : Int) (l0_1 : List Int) : Option (Int) := (pm_Check.f k a0_0 l0_1).bind fun t102 => (if t102 = 0 then (if (wrap64 ((l0_1.length : Int) - 1)) > 16 then (some 4) else (if (wrap64 ((l0_1.length : Int) - 1)) < 1 then (fi_Check.j0 k true a0_0 l0_1) else (if 0 ≤ (wrap64 ((l0_1.length : Int) - 1)) then (if (wrap64 ((l0_1.length : Int) - 1)) < (l0_1.length : Int) then (fi_Check.j0 k ((rd l0_1 (wrap64 ((l0_1.length : Int) - 1))) != 1) a0_0 l0_1) else (none)) else (none)))) else (some t102))
def fi_check.l0 : Nat → List (List Int) → Int → Int → Int → List Int → Option (Int)
  | 0, _, _, _, _, _ => none
  | k + 1, x14, x15, x16, x102000, x102001 => if x16 < x15 then (if 0 ≤ x16 then (if x16 < (x14.length : Int) then ((fi_element.f k x102000 x102001 (rd_L1 x14 x16)).bind fun t104 => (if t104 = 0 then (fi_check.l0 k x14 x15 (wrap64 (x16 + 1)) x102000 x102001) else (some t104))) else (none)) else (none)) else (some 0)
def fi_check.f (k : Nat) (a0_0 : Int) (l0_1 : List Int) (l1 : List (List Int)) : Option (Int) := (fi_Check.f k a0_0 l0_1).bind fun t102 => (if t102 = 0 then (fi_check.l0 k l1 (l1.length : Int) 0 a0_0 l0_1) else (some t102))
def fp_Xgcd.l0 : Nat → Int → List Int → List Int → List Int → List Int → List Int → List Int → Option (List Int × List Int × List Int)
  | 0, _, _, _, _, _, _, _ => none
  | k + 1, x0, x1, x2, x9, x10, x11, x12 => if (x10.length : Int) > 0 then ((fp_DivMod.f k x0 x9 x10).bind fun bt112 => ((fp_Mul.f k x0 bt112.1 x12).bind fun t118 => ((fp_Sub.f k x0 x11 t118).bind fun t121 => (fp_Xgcd.l0 k x0 x1 x2 x10 bt112.2 x12 t121)))) else (if 0 ≤ (wrap64 ((x9.length : Int) - 1)) then (if (wrap64 ((x9.length : Int) - 1)) < (x9.length : Int) then ((fp_Inv.f k x0 (rd x9 (wrap64 ((x9.length : Int) - 1)))).bind fun t125 => ((fp_Scale.f k x0 x9 t125).bind fun t126 => ((fp_DivMod.f k x0 x2 t126).bind fun bt129 => ((fp_Scale.f k x0 x11 t125).bind fun t135 => ((fp_Rem.f k x0 t135 bt129.1).bind fun t138 => ((fp_Mul.f k x0 t138 x1).bind fun t141 => ((fp_Sub.f k x0 t126 t141).bind fun t144 => ((fp_DivMod.f k x0 t144 x2).bind fun bt147 => (some (t126, t138, bt147.1)))))))))) else (none)) else (none))
def fp_Xgcd.f (k : Nat) (a0 : Int) (l1 : List Int) (l2 : List Int) : Option (List Int × List Int × List Int) := if (l2.length : Int) = 0 then (if (l1.length : Int) = 0 then (some (([] : List Int), ([] : List Int), ([] : List Int))) else ((fp_Monic.f k a0 l1).bind fun t101 => (if 0 ≤ (wrap64 ((l1.length : Int) - 1)) then (if (wrap64 ((l1.length : Int) - 1)) < (l1.length : Int) then ((fp_Inv.f k a0 (rd l1 (wrap64 ((l1.length : Int) - 1)))).bind fun t105 => (some (t101, (([t105] : List Int)), ([] : List Int)))) else (none)) else (none)))) else (fp_Xgcd.l0 k a0 l1 l2 l1 l2 (([1] : List Int)) ([] : List Int))
def gFInverse.f (k : Nat) (a0_0 : Int) (l0_1 : List Int) (l1 : List Int) : Option (List Int) := (fp_Xgcd.f k a0_0 l1 l0_1).bind fun bt102 => ((fp_Rem.f k a0_0 bt102.2.1 l0_1).bind fun t111 => (some t111))
def gFMul.f (k : Nat) (a0_0 : Int) (l0_1 : List Int) (l1 : List Int) (l2 : List Int) : Option (List Int) := (fp_MulMod.f k a0_0 l1 l2 l0_1).bind fun t102 => (some t102)
def fi_Mul.f (k : Nat) (a0_0 : Int) (l0_1 : List Int) (l1 : List Int) (l2 : List Int) : Option (List Int × Int) := (fi_check.f k a0_0 l0_1 (([l1, l2] : List (List Int)))).bind fun t105 => (if t105 = 0 then ((gFMul.f k a0_0 l0_1 l1 l2).bind fun t106 => (some (t106, 0))) else (some (([] : List Int), t105)))
def gFDegree.f (a0_0 : Int) (l0_1 : List Int) : Option (Int) := some (wrap64 ((l0_1.length : Int) - 1))
def gFSize.l0 : Nat → Int → Int → Int → Int → List Int → Option (Int × Bool)
  | 0, _, _, _, _, _ => none
  | k + 1, x4, x6, x7, x102000, x102001 => if x7 < x6 then (if (wrap64 (x4 * x102000)) > 2147483647 then (some (0, false)) else (gFSize.l0 k (wrap64 (x4 * x102000)) x6 (wrap64 (x7 + 1)) x102000 x102001)) else (some (x4, true))
def gFSize.f (k : Nat) (a0_0 : Int) (l0_1 : List Int) : Option (Int × Bool) := (gFDegree.f a0_0 l0_1).bind fun t102 => (gFSize.l0 k 1 t102 0 a0_0 l0_1)
def gf_IsOne.f (l0 : List Int) : Option (Bool) := if (l0.length : Int) = 1 then (if 0 < (l0.length : Int) then (some ((rd l0 0) == 1)) else (none)) else (some false)
def gFElement.l0 : Nat → Int → List Int → Int → List Int → Option (List Int)
  | 0, _, _, _, _ => none
  | k + 1, x1, x5, x102000, x102001 => if x1 > 0 then (if x102000 = 0 then (none) else (if x5.length < 17592186044416 then (gFElement.l0 k (wrap64 (Int.tdiv x1 x102000)) (x5 ++ [Int.tmod x1 x102000]) x102000 x102001) else (none))) else (some x5)
def gFElement.f (k : Nat) (a0_0 : Int) (l0_1 : List Int) (a1 : Int) : Option (List Int) := gFElement.l0 k a1 ([] : List Int) a0_0 l0_1
def r15Degree.f (a0_0 : Int) (l0_1 : List Int) : Option (Int) := some (wrap64 ((l0_1.length : Int) - 1))
def r15Size.l0 : Nat → Int → Int → Int → List Int → Option (Int)
  | 0, _, _, _, _ => none
  | k + 1, x3, x4, x102000, x102001 => (r15Degree.f x102000 x102001).bind fun t102 => (if x4 < t102 then (if x102000 = 0 then (none) else (if x3 > (wrap64 (Int.tdiv (2147483647 : Int) x102000)) then (some 0) else (r15Size.l0 k (wrap64 (x3 * x102000)) (wrap64 (x4 + 1)) x102000 x102001))) else (some x3))
def r15Size.f (k : Nat) (a0_0 : Int) (l0_1 : List Int) : Option (Int) := r15Size.l0 k 1 0 a0_0 l0_1
def r15Few.f (k : Nat) (a0_0 : Int) (l0_1 : List Int) (a1 : Int) : Option (Bool) := if (l0_1.length : Int) ≤ 17 then ((r15Check.f k a0_0 l0_1).bind fun t102 => (if t102 = 0 then ((r15Size.f k a0_0 l0_1).bind fun t103 => (if t103 > 0 then (some (decide (t103 ≤ a1))) else (some false))) else (some false))) else (some false)
def gFOne.f (a0_0 : Int) (l0_1 : List Int) : Option (List Int) := some (([1] : List Int))
def gFPow.l0 : Nat → List Int → Int → List Int → Int → List Int → Option (List Int)
  | 0, _, _, _, _, _ => none
  | k + 1, x1, x2, x7, x102000, x102001 => if x2 > 0 then (if (Go.bits .and .i64 x2 1) = 1 then ((gFMul.f k x102000 x102001 x7 x1).bind fun t105 => ((gFMul.f k x102000 x102001 x1 x1).bind fun t108 => (gFPow.l0 k t108 (x2 / 2) t105 x102000 x102001))) else ((gFMul.f k x102000 x102001 x1 x1).bind fun t111 => (gFPow.l0 k t111 (x2 / 2) x7 x102000 x102001))) else (some x7)
def gFPow.f (k : Nat) (a0_0 : Int) (l0_1 : List Int) (l1 : List Int) (a2 : Int) : Option (List Int) := (gFOne.f a0_0 l0_1).bind fun t102 => (gFPow.l0 k l1 a2 t102 a0_0 l0_1)
def fi_size.f (k : Nat) (a0_0 : Int) (l0_1 : List Int) (a1 : Int) : Option (Int × Int) := (gFSize.f k a0_0 l0_1).bind fun bt102 => (if bt102.2 = true then (if bt102.1 > a1 then (some (0, 5)) else (some (bt102.1, 0))) else (some (0, 5)))
def rs_Factor.f (k : Nat) (a0 : Int) : Option ((List (S134)) × Int) := (rs_bad.f (([a0] : List Int))).bind fun t104 => (if t104 = true then (some (([] : List (S134)), 3)) else ((rs_factor.f k a0).bind fun t105 => (some (t105, 0))))
def gFGenerates.l0 : Nat → List Int → Int → List (S134) → Int → Int → Int → List Int → Option (Bool)
  | 0, _, _, _, _, _, _, _ => none
  | k + 1, x1, x2, x17, x18, x19, x102000, x102001 => if x19 < x18 then (if 0 ≤ x19 then (if x19 < (x17.length : Int) then (if ((rd_T134 x17 x19).f0) = 0 then (none) else ((gFPow.f k x102000 x102001 x1 (wrap64 (Int.tdiv (wrap64 (x2 - 1)) ((rd_T134 x17 x19).f0)))).bind fun t108 => ((gf_IsOne.f t108).bind fun t111 => (if t111 = true then (some false) else (gFGenerates.l0 k x1 x2 x17 x18 (wrap64 (x19 + 1)) x102000 x102001))))) else (none)) else (none)) else (some (decide ((x1.length : Int) > 0)))
def gFGenerates.f (k : Nat) (a0_0 : Int) (l0_1 : List Int) (l1 : List Int) (a2 : Int) : Option (Bool) := (rs_Factor.f k (wrap64 (a2 - 1))).bind fun bt102 => (gFGenerates.l0 k l1 a2 bt102.1 (bt102.1.length : Int) 0 a0_0 l0_1)
def fi_Generator.l0 (kk : Nat) : Nat → Int → List Int → Int → Nat → Option (List Int × Int)
  | 0, _, _, _, _ => none
  | k + 1, p, l, q, i => if (i : Int) < q then (gFElement.f kk p l (i : Int)).bind fun a => (gFGenerates.f kk p l a q).bind fun b => if b = true then some (a, 0) else fi_Generator.l0 kk k p l q (i + 1) else some ([], 10)
def fi_Generator.f (k : Nat) (a0_0 : Int) (l0_1 : List Int) : Option (List Int × Int) := (fi_Check.f k a0_0 l0_1).bind fun e => if e = 0 then (fi_size.f k a0_0 l0_1 2147483647).bind fun r => if r.2 = 0 then (if 0 ≤ r.1 ∧ r.1 ≤ 4294967296 then fi_Generator.l0 k k a0_0 l0_1 r.1 0 else none) else some ([], r.2) else some ([], e)
def gFNumber.l0 : Nat → List Int → Int → Int → Int → List Int → Option (Int)
  | 0, _, _, _, _, _ => none
  | k + 1, x1, x5, x6, x102000, x102001 => if x6 ≥ 0 then (if 0 ≤ x6 then (if x6 < (x1.length : Int) then (gFNumber.l0 k x1 (wrap64 ((wrap64 (x5 * x102000)) + (rd x1 x6))) (wrap64 (x6 - 1)) x102000 x102001) else (none)) else (none)) else (some x5)
def gFNumber.f (k : Nat) (a0_0 : Int) (l0_1 : List Int) (l1 : List Int) : Option (Int) := gFNumber.l0 k l1 0 (wrap64 ((l1.length : Int) - 1)) a0_0 l0_1
def r15Mul.f (k : Nat) (a0_0 : Int) (l0_1 : List Int) (l1 : List Int) (l2 : List Int) : Option (List Int) := (r9MulMod.f k a0_0 l1 l2 l0_1).bind fun t102 => (some t102)
def r15MultiplicativeOrder.l0 : Nat → List Int → Int → List Int → Int → List Int → Option (Int)
  | 0, _, _, _, _, _ => none
  | k + 1, x1, x5, x6, x102000, x102001 => (r9Same.f k x6 (([1] : List Int))).bind fun t105 => (if t105 = true then (some x5) else ((r15Mul.f k x102000 x102001 x6 x1).bind fun t106 => (r15MultiplicativeOrder.l0 k x1 (wrap64 (x5 + 1)) t106 x102000 x102001)))
def r15MultiplicativeOrder.f (k : Nat) (a0_0 : Int) (l0_1 : List Int) (l1 : List Int) : Option (Int) := r15MultiplicativeOrder.l0 k l1 1 l1 a0_0 l0_1
def r15Element.l0 : Nat → Int → List Int → Int → List Int → Option (List Int)
  | 0, _, _, _, _ => none
  | k + 1, x1, x5, x102000, x102001 => if x1 > 0 then (if x102000 = 0 then (none) else (if x5.length < 17592186044416 then (r15Element.l0 k (wrap64 (Int.tdiv x1 x102000)) (x5 ++ [Int.tmod x1 x102000]) x102000 x102001) else (none))) else (some x5)
def r15Element.f (k : Nat) (a0_0 : Int) (l0_1 : List Int) (a1 : Int) : Option (List Int) := r15Element.l0 k a1 ([] : List Int) a0_0 l0_1
def dl_open.l0 : Nat → Int → List (List Int) → Int → Int → Int → List Int → Int → List Int → Option (Int × List Int × Int × Int)
  | 0, _, _, _, _, _, _, _, _ => none
  | k + 1, x1, x24, x25, x26, x102000, x102001, x104000, x104001 => if x26 < x25 then (if 0 ≤ x26 then (if x26 < (x24.length : Int) then ((pm_Check.f k x102000 (rd_L1 x24 x26)).bind fun t108 => (if t108 = 0 then (if ((rd_L1 x24 x26).length : Int) ≥ (x102001.length : Int) then (some (x104000, x104001, 0, 3)) else (dl_open.l0 k x1 x24 x25 (wrap64 (x26 + 1)) x102000 x102001 x104000 x104001)) else (some (x104000, x104001, 0, t108)))) else (none)) else (none)) else ((gFSize.f k x104000 x104001).bind fun bt105 => (if bt105.2 = true then (if bt105.1 > x1 then (some (x104000, x104001, 0, 5)) else (some (x104000, x104001, bt105.1, 0))) else (some (x104000, x104001, 0, 5))))
def dl_open.f (k : Nat) (a0_0 : Int) (l0_1 : List Int) (a1 : Int) (l2 : List (List Int)) : Option (Int × List Int × Int × Int) := (fi_Check.f k a0_0 l0_1).bind fun t104 => (if t104 = 0 then (dl_open.l0 k a1 l2 (l2.length : Int) 0 a0_0 l0_1 a0_0 l0_1) else (some (a0_0, l0_1, 0, t104)))
def r18CheckSmall.j0 : Nat → Int → Int → Int → List Int → Option (Int)
  | 0, _, _, _, _ => none
  | k + 1, x3, x9, x102000, x102001 => if x9 = 0 then ((r15Size.f k x102000 x102001).bind fun t104 => (if t104 = 0 then (some 5) else ((r15Size.f k x102000 x102001).bind fun t105 => (if t105 > x3 then (some 5) else (some x9))))) else (some x9)
def r18CheckSmall.f (k : Nat) (a0_0 : Int) (l0_1 : List Int) (l1 : List Int) (l2 : List Int) (a3 : Int) : Option (Int) := (r15CheckElement.f k a0_0 l0_1 l1).bind fun t102 => (if t102 = 0 then ((r15Member.f k a0_0 l0_1 l2).bind fun t103 => (r18CheckSmall.j0 k a3 t103 a0_0 l0_1)) else (r18CheckSmall.j0 k a3 t102 a0_0 l0_1))
def r18IsGenerator.f (k : Nat) (a0_0 : Int) (l0_1 : List Int) (l1 : List Int) : Option (Bool) := if (l1.length : Int) > 0 then ((r15MultiplicativeOrder.f k a0_0 l0_1 l1).bind fun t102 => ((r15Size.f k a0_0 l0_1).bind fun t103 => (some (t102 == (wrap64 (t103 - 1)))))) else (some false)
def r15Number.l0 : Nat → List Int → Int → Int → Int → List Int → Option (Int)
  | 0, _, _, _, _, _ => none
  | k + 1, x1, x5, x6, x102000, x102001 => if x6 ≥ 0 then (if 0 ≤ x6 then (if x6 < (x1.length : Int) then (r15Number.l0 k x1 (wrap64 ((wrap64 (x5 * x102000)) + (rd x1 x6))) (wrap64 (x6 - 1)) x102000 x102001) else (none)) else (none)) else (some x5)
def r15Number.f (k : Nat) (a0_0 : Int) (l0_1 : List Int) (l1 : List Int) : Option (Int) := r15Number.l0 k l1 0 (wrap64 ((l1.length : Int) - 1)) a0_0 l0_1
def r18Table.l0 : Nat → List Int → Int → List Int → List Int → Int → Int → List Int → Option (List Int)
  | 0, _, _, _, _, _, _, _ => none
  | k + 1, x1, x5, x6, x7, x8, x102000, x102001 => if x8 < (wrap64 (x5 - 1)) then ((r15Number.f k x102000 x102001 x7).bind fun t110 => (if 0 ≤ t110 then (if t110 < (x6.length : Int) then ((r15Mul.f k x102000 x102001 x7 x1).bind fun t112 => (r18Table.l0 k x1 x5 (x6.set (t110 : Int).toNat x8) t112 (wrap64 (x8 + 1)) x102000 x102001)) else (none)) else (none))) else (some x6)
def r18Table.f (k : Nat) (a0_0 : Int) (l0_1 : List Int) (l1 : List Int) : Option (List Int) := (r15Size.f k a0_0 l0_1).bind fun t102 => (if 0 ≤ t102 then (if (t102 : Int).toNat ≤ 35184372088832 then ((some (List.replicate (t102 : Int).toNat 0 : List Int)).bind fun y103 => (if 0 < (y103.length : Int) then (r18Table.l0 k l1 t102 (y103.set (0 : Int).toNat (-1)) (([1] : List Int)) 0 a0_0 l0_1) else (none))) else (none)) else (none))
def natural_Check.j0 : Nat → ByteArray → Bool → Option (Int)
  | 0, _, _ => none
  | k + 1, x0, x10 => if x10 = true then (some 1) else (if (x0.size : Int) > 1024 then (some 4) else (some 0))
def natural_Check.f (k : Nat) (a0 : ByteArray) : Option (Int) := if (a0.size : Int) > 0 then (if 0 < (a0.size : Int) then (natural_Check.j0 k a0 ((bt a0 0) == 0)) else (none)) else (natural_Check.j0 k a0 false)
def gFPowNat.f (k : Nat) (a0_0 : Int) (l0_1 : List Int) (l1 : List Int) (a2 : ByteArray) : Option (List Int) := (fp_PowMod.f k a0_0 l1 a2 l0_1).bind fun t102 => (some t102)
def fi_Pow.f (k : Nat) (a0_0 : Int) (l0_1 : List Int) (l1 : List Int) (a2 : ByteArray) : Option (List Int × Int) := (fi_check.f k a0_0 l0_1 (([l1] : List (List Int)))).bind fun t105 => (if t105 = 0 then ((natural_Check.f k a2).bind fun t106 => (if t106 = 0 then ((gFPowNat.f k a0_0 l0_1 l1 a2).bind fun t107 => (some (t107, 0))) else (some (([] : List Int), t106)))) else (some (([] : List Int), t105)))
def fi_Number.f (k : Nat) (a0_0 : Int) (l0_1 : List Int) (l1 : List Int) : Option (Int × Int) := (fi_check.f k a0_0 l0_1 (([l1] : List (List Int)))).bind fun t105 => (if t105 = 0 then ((fi_size.f k a0_0 l0_1 2147483647).bind fun bt106 => (if bt106.2 = 0 then ((gFNumber.f k a0_0 l0_1 l1).bind fun t108 => (some (t108, 0))) else (some (0, bt106.2)))) else (some (0, t105)))
def l18light.f (k : Nat) (a0_0 : Int) (l0_1 : List Int) : Option (Bool) := if (l0_1.length : Int) > 70 then (some false) else ((r15Check.f k a0_0 l0_1).bind fun t102 => (if t102 = 0 then ((r15Few.f k a0_0 l0_1 256).bind fun t103 => (if t103 = true then (some true) else ((r15Few.f k a0_0 l0_1 4096).bind fun t104 => (some (!t104))))) else (some true)))
def l18same.l0 : Nat → List Int → List Int → Int → Option (Bool)
  | 0, _, _, _ => none
  | k + 1, x0, x1, x5 => if x5 < (x0.length : Int) then (if 0 ≤ x5 then (if x5 < (x1.length : Int) then (if (rd x0 x5) = (rd x1 x5) then (l18same.l0 k x0 x1 (wrap64 (x5 + 1))) else (some false)) else (none)) else (none)) else (some true)
def l18same.f (k : Nat) (l0 : List Int) (l1 : List Int) : Option (Bool) := if (l0.length : Int) = (l1.length : Int) then (l18same.l0 k l0 l1 0) else (some false)
def gFAdd.f (k : Nat) (a0_0 : Int) (l0_1 : List Int) (l1 : List Int) (l2 : List Int) : Option (List Int) := (fp_Add.f k a0_0 l1 l2).bind fun t102 => (some t102)
def r15Add.f (k : Nat) (a0_0 : Int) (l0_1 : List Int) (l1 : List Int) (l2 : List Int) : Option (List Int) := (r9Add.f k a0_0 l1 l2).bind fun t102 => (some t102)
def r18Zech.l0 : Nat → List Int → List Int → List Int → List Int → Int → Int → List Int → Option (List Int)
  | 0, _, _, _, _, _, _, _ => none
  | k + 1, x1, x5, x6, x7, x8, x102000, x102001 => (r15Size.f k x102000 x102001).bind fun t108 => (if x8 < (wrap64 (t108 - 1)) then ((r15Add.f k x102000 x102001 x7 (([1] : List Int))).bind fun t112 => ((r15Number.f k x102000 x102001 t112).bind fun t115 => (if 0 ≤ t115 then (if t115 < (x6.length : Int) then (if x5.length < 17592186044416 then ((r15Mul.f k x102000 x102001 x7 x1).bind fun t120 => (r18Zech.l0 k x1 (x5 ++ [rd x6 t115]) x6 t120 (wrap64 (x8 + 1)) x102000 x102001)) else (none)) else (none)) else (none)))) else (some x5))
def r18Zech.f (k : Nat) (a0_0 : Int) (l0_1 : List Int) (l1 : List Int) : Option (List Int) := (r18Table.f k a0_0 l0_1 l1).bind fun t102 => (r18Zech.l0 k l1 ([] : List Int) t102 (([1] : List Int)) 0 a0_0 l0_1)
def r15Pow.f (k : Nat) (a0_0 : Int) (l0_1 : List Int) (l1 : List Int) (a2 : ByteArray) : Option (List Int) := (r9PowMod.f k a0_0 l1 a2 l0_1).bind fun t102 => (some t102)
def r18Power.f (k : Nat) (a0_0 : Int) (l0_1 : List Int) (l1 : List Int) (a2 : Int) : Option (List Int) := (r15Size.f k a0_0 l0_1).bind fun t102 => (if (wrap64 (t102 - 1)) = 0 then (none) else ((r1FromInt.f k (Int.tmod (wrap64 ((Int.tmod a2 (wrap64 (t102 - 1))) + (wrap64 (t102 - 1)))) (wrap64 (t102 - 1)))).bind fun t103 => ((r15Pow.f k a0_0 l0_1 l1 t103).bind fun t104 => (some t104))))
end Go.Proofs.YtillaipaanancaaGreat.Q
end
section
namespace Go.Proofs.YtillaipaanancaaGreat.Q
open Go.RowKit Go.Proofs.YtillaipaanancaaGreatW.PrintWords Go.Proofs.YtillaipaanancaaGreatW.PrintLast Go.Proofs.YtillaipaanancaaGreatW.PrintMore
attribute [local go_sem] max2_int min2_int max_two min_two max_three min_three max_four min_four   -- for this text's walks alone
set_option linter.unusedVariables false
set_option linter.unusedSimpArgs false
def cmp_isNaN_int.f (a0 : Int) : Option (Bool) := some (a0 != a0)
set_option maxHeartbeats 8000000 in
set_option maxRecDepth 100000 in
theorem cmp_isNaN_int.calls (a0 : Int) (r : Bool) (w : World) (h : cmp_isNaN_int.f a0 = some r) :
    Calls Tryz.prog 183 #[.int .i64 a0] w fun e w' => e = .returned (.bool r) ∧ Drawn0 w w' := by
  have H : (some (a0 != a0)) = some r := h
  clear h
  obtain rfl := Option.some.inj H
  go_enter Tryz.func183, Tryz.ntmps183
  go_wp2
  go_ret
  exact ⟨by first | rfl | (simp; done) | (simp [*]; done), by repeat (first | exact Drawn0.refl _ | apply Drawn0.step)⟩
end Go.Proofs.YtillaipaanancaaGreat.Q
end

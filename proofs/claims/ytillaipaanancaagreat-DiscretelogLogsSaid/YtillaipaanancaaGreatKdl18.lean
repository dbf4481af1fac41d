/- Machine side and arithmetic of the law, put together by a program of the session. No conditions. -/
import Derived.Test.YtillaipaanancaaGreatProg
import Derived.Below
import Derived.Deep.Draws
import Derived.Deep.AppendLies
import Derived.Maps.AppendAt
import Derived.OwnWalk
import Derived.Laws.BytesArg
import Derived.Laws.MakeOwn
import Derived.Laws.OwnMore
import Derived.Deep.OwnRows
import Derived.Tactics
import Derived.Lib.ConvBytes
import Derived.Laws.Slices
import Derived.WalkKit
import Derived.KernelRfl
import Derived.RowKit3
import Derived.Deep.LoopGhost
import Derived.Deep.QuietTactic
import Derived.BigQuiet
import Derived.WideLaws
import Derived.Deep.DeepCutAuto
import Derived.Deep.CutBlock
import Derived.Deep.RegionHeld3
import Derived.Laws.Rows
import Derived.Lib.AppendStr
import Derived.ArgAppend
import Derived.Laws.IdiomCopy
import Derived.OrdersHeld
import Derived.Laws.BitsLemmas
import Derived.RowKit
import Derived.Test.YtillaipaanancaaGreatKdl4
import Derived.Test.YtillaipaanancaaGreatKdl16
import Derived.Test.YtillaipaanancaaGreatKdl17
section
namespace Go.Proofs.YtillaipaanancaaGreat.Q
open Go.RowKit Go.Proofs.YtillaipaanancaaGreatW.PrintWords Go.Proofs.YtillaipaanancaaGreatW.PrintLast Go.Proofs.YtillaipaanancaaGreatW.PrintMore
attribute [local go_sem] max2_int min2_int max_two min_two max_three min_three max_four min_four   -- for this text's walks alone
set_option linter.unusedVariables false
set_option linter.unusedSimpArgs false
theorem info134 : (Tryz.prog.info? 134).map (fun i => (i.zero, i.size, i.bytes)) = some (some (.agg #[(.int .i64 0), (.int .i64 0)]), 2, 16) := by kernel_rfl
def rd_L1 (xs : List (List Int)) (i : Int) : (List Int) := xs.getD i.toNat ([] : List Int)
structure S134 where
 f0 : Int
 f1 : Int
def z134 : S134 := ⟨(0 : Int), (0 : Int)⟩
def k134 : Kd S134 := Kd.iso (Kd.pair (Kd.int .i64) (Kd.int .i64)) (fun x : S134 => (x.f0, x.f1))
theorem k134_openM {w : World} {base : Nat} {ok : Nat → Prop} {x : S134} {cs : List Value} (h : k134.M w base ok x cs) : cs = [.int .i64 x.f0, .int .i64 x.f1] := by
 obtain ⟨_, _, rfl, rfl, rfl⟩ := h
 exact rfl
theorem k134_mkM (w : World) (base : Nat) (ok : Nat → Prop) (x : S134)  : k134.M w base ok x [.int .i64 x.f0, .int .i64 x.f1] := ⟨[.int .i64 x.f0], [.int .i64 x.f1], rfl, rfl, rfl⟩
def rd_T134 (xs : List S134) (i : Int) : S134 := xs.getD i.toNat z134
end Go.Proofs.YtillaipaanancaaGreat.Q
end
section
namespace Go.Proofs.YtillaipaanancaaGreat.Q
open Go.RowKit Go.Proofs.YtillaipaanancaaGreatW.PrintWords Go.Proofs.YtillaipaanancaaGreatW.PrintLast Go.Proofs.YtillaipaanancaaGreatW.PrintMore
set_option linter.unusedVariables false
set_option linter.unusedSimpArgs false
def r9Trim.l0 : Nat → List Int → Option (List Int)
  | 0, _ => none
  | k + 1, x0 => if (x0.length : Int) > 0 then (if 0 ≤ (wrap64 ((x0.length : Int) - 1)) then (if (wrap64 ((x0.length : Int) - 1)) < (x0.length : Int) then (if (rd x0 (wrap64 ((x0.length : Int) - 1))) = 0 then (if (wrap64 ((x0.length : Int) - 1)) ≤ (x0.length : Int) then (r9Trim.l0 k (x0.take ((wrap64 ((x0.length : Int) - 1)) : Int).toNat)) else (none)) else (some x0)) else (none)) else (none)) else (some x0)
def r9Trim.f (k : Nat) (l0 : List Int) : Option (List Int) := r9Trim.l0 k l0
theorem r9Trim.mono_l : ∀ k, (∀ y0, LeO (r9Trim.l0 k y0) (r9Trim.l0 (k + 1) y0))
  | 0 => fun _ r h => by simp [r9Trim.l0] at h
  | k + 1 => by
    have ih0 := r9Trim.mono_l k
    · intro y0
      unfold r9Trim.l0
      repeat' first
      | (with_reducible exact ih0 _)
      | (with_reducible exact LeO.refl _)
      | (with_reducible exact LeO.none _)
      | (with_reducible refine LeO.ite ?_ ?_)
      | (with_reducible refine LeO.bind ?_ (fun _ => ?_))
      | exact ih0 _
      | exact LeO.none _
      | refine LeO.ite ?_ ?_
      | refine LeO.bind ?_ (fun _ => ?_)
theorem r9Trim.mono : ∀ a0 k, LeO (r9Trim.f k a0) (r9Trim.f (k + 1) a0) := by
  intro a0 k
  have ih0 := r9Trim.mono_l k
  unfold r9Trim.f
  repeat' first
      | (with_reducible exact ih0 _)
      | (with_reducible exact LeO.refl _)
      | (with_reducible exact LeO.none _)
      | (with_reducible refine LeO.ite ?_ ?_)
      | (with_reducible refine LeO.bind ?_ (fun _ => ?_))
      | exact ih0 _
      | exact LeO.none _
      | refine LeO.ite ?_ ?_
      | refine LeO.bind ?_ (fun _ => ?_)
def r9Copy.f (l0 : List Int) : Option (List Int) := (some (([] : List Int) : List Int)).bind fun y101 => (if y101.length + l0.length < 17592186044416 then (some (y101 ++ l0)) else (none))
def r4Mod.f (a0 : Int) (a1 : Int) : Option (Int) := if a1 = 0 then (none) else (some (Int.tmod (wrap64 ((Int.tmod a0 a1) + a1)) a1))
def r9Scale.l0 : Nat → Int → Int → List Int → Int → Option (List Int)
  | 0, _, _, _, _ => none
  | k + 1, x0, x2, x7, x8 => if x8 < (x7.length : Int) then (if 0 ≤ x8 then (if x0 = 0 then (none) else (r9Scale.l0 k x0 x2 (x7.set (x8 : Int).toNat (Int.tmod (wrap64 ((rd x7 x8) * x2)) x0)) (wrap64 (x8 + 1)))) else (none)) else ((r9Trim.f k x7).bind fun t107 => (some t107))
def r9Scale.f (k : Nat) (a0 : Int) (l1 : List Int) (a2 : Int) : Option (List Int) := (r4Mod.f a2 a0).bind fun t101 => ((r9Copy.f l1).bind fun t102 => (r9Scale.l0 k a0 t101 t102 0))
theorem r9Scale.mono_l : ∀ k, (∀ y0 y1 y2 y3, LeO (r9Scale.l0 k y0 y1 y2 y3) (r9Scale.l0 (k + 1) y0 y1 y2 y3))
  | 0 => fun _ _ _ _ r h => by simp [r9Scale.l0] at h
  | k + 1 => by
    have ih0 := r9Scale.mono_l k
    · intro y0 y1 y2 y3
      unfold r9Scale.l0
      repeat' first
      | (with_reducible exact ih0 _ _ _ _)
      | (with_reducible exact r9Trim.mono _ _)
      | (with_reducible exact LeO.refl _)
      | (with_reducible exact LeO.none _)
      | (with_reducible refine LeO.ite ?_ ?_)
      | (with_reducible refine LeO.bind ?_ (fun _ => ?_))
      | exact ih0 _ _ _ _
      | exact r9Trim.mono _ _
      | exact LeO.none _
      | refine LeO.ite ?_ ?_
      | refine LeO.bind ?_ (fun _ => ?_)
theorem r9Scale.mono : ∀ a0 a1 a2 k, LeO (r9Scale.f k a0 a1 a2) (r9Scale.f (k + 1) a0 a1 a2) := by
  intro a0 a1 a2 k
  have ih0 := r9Scale.mono_l k
  unfold r9Scale.f
  repeat' first
      | (with_reducible exact ih0 _ _ _ _)
      | (with_reducible exact r9Trim.mono _ _)
      | (with_reducible exact LeO.refl _)
      | (with_reducible exact LeO.none _)
      | (with_reducible refine LeO.ite ?_ ?_)
      | (with_reducible refine LeO.bind ?_ (fun _ => ?_))
      | exact ih0 _ _ _ _
      | exact r9Trim.mono _ _
      | exact LeO.none _
      | refine LeO.ite ?_ ?_
      | refine LeO.bind ?_ (fun _ => ?_)
def r9Add.l0 : Nat → Int → List Int → List Int → List Int → Int → Option (List Int)
  | 0, _, _, _, _, _ => none
  | k + 1, x0, x1, x2, x7, x8 => if x8 < (x7.length : Int) then (if x8 < (x1.length : Int) then (if 0 ≤ x8 then ((some (x7.set (x8 : Int).toNat (wrap64 ((rd x7 x8) + (rd x1 x8))) : List Int)).bind fun y109 => (if x8 < (x2.length : Int) then ((some (y109.set (x8 : Int).toNat (wrap64 ((rd y109 x8) + (rd x2 x8))) : List Int)).bind fun y112 => (if x0 = 0 then (none) else (r9Add.l0 k x0 x1 x2 (y112.set (x8 : Int).toNat (Int.tmod (rd y112 x8) x0)) (wrap64 (x8 + 1))))) else (if x0 = 0 then (none) else (r9Add.l0 k x0 x1 x2 (y109.set (x8 : Int).toNat (Int.tmod (rd y109 x8) x0)) (wrap64 (x8 + 1)))))) else (none)) else (if x8 < (x2.length : Int) then (if 0 ≤ x8 then ((some (x7.set (x8 : Int).toNat (wrap64 ((rd x7 x8) + (rd x2 x8))) : List Int)).bind fun y119 => (if x0 = 0 then (none) else (r9Add.l0 k x0 x1 x2 (y119.set (x8 : Int).toNat (Int.tmod (rd y119 x8) x0)) (wrap64 (x8 + 1))))) else (none)) else (if 0 ≤ x8 then (if x0 = 0 then (none) else (r9Add.l0 k x0 x1 x2 (x7.set (x8 : Int).toNat (Int.tmod (rd x7 x8) x0)) (wrap64 (x8 + 1)))) else (none)))) else ((r9Trim.f k x7).bind fun t104 => (some t104))
def r9Add.f (k : Nat) (a0 : Int) (l1 : List Int) (l2 : List Int) : Option (List Int) := if 0 ≤ (mx (l1.length : Int) (l2.length : Int)) then (if (mx (l1.length : Int) (l2.length : Int) : Int).toNat ≤ 35184372088832 then (r9Add.l0 k a0 l1 l2 (List.replicate (mx (l1.length : Int) (l2.length : Int) : Int).toNat 0) 0) else (none)) else (none)
theorem r9Add.mono_l : ∀ k, (∀ y0 y1 y2 y3 y4, LeO (r9Add.l0 k y0 y1 y2 y3 y4) (r9Add.l0 (k + 1) y0 y1 y2 y3 y4))
  | 0 => fun _ _ _ _ _ r h => by simp [r9Add.l0] at h
  | k + 1 => by
    have ih0 := r9Add.mono_l k
    · intro y0 y1 y2 y3 y4
      unfold r9Add.l0
      repeat' first
      | (with_reducible exact ih0 _ _ _ _ _)
      | (with_reducible exact r9Trim.mono _ _)
      | (with_reducible exact LeO.refl _)
      | (with_reducible exact LeO.none _)
      | (with_reducible refine LeO.ite ?_ ?_)
      | (with_reducible refine LeO.bind ?_ (fun _ => ?_))
      | exact ih0 _ _ _ _ _
      | exact r9Trim.mono _ _
      | exact LeO.none _
      | refine LeO.ite ?_ ?_
      | refine LeO.bind ?_ (fun _ => ?_)
theorem r9Add.mono : ∀ a0 a1 a2 k, LeO (r9Add.f k a0 a1 a2) (r9Add.f (k + 1) a0 a1 a2) := by
  intro a0 a1 a2 k
  have ih0 := r9Add.mono_l k
  unfold r9Add.f
  repeat' first
      | (with_reducible exact ih0 _ _ _ _ _)
      | (with_reducible exact r9Trim.mono _ _)
      | (with_reducible exact LeO.refl _)
      | (with_reducible exact LeO.none _)
      | (with_reducible refine LeO.ite ?_ ?_)
      | (with_reducible refine LeO.bind ?_ (fun _ => ?_))
      | exact ih0 _ _ _ _ _
      | exact r9Trim.mono _ _
      | exact LeO.none _
      | refine LeO.ite ?_ ?_
      | refine LeO.bind ?_ (fun _ => ?_)
def r9Sub.f (k : Nat) (a0 : Int) (l1 : List Int) (l2 : List Int) : Option (List Int) := (r9Scale.f k a0 l2 (-1)).bind fun t101 => ((r9Add.f k a0 l1 t101).bind fun t104 => (some t104))
theorem r9Sub.mono : ∀ a0 a1 a2 k, LeO (r9Sub.f k a0 a1 a2) (r9Sub.f (k + 1) a0 a1 a2) := by
  intro a0 a1 a2 k
  unfold r9Sub.f
  repeat' first
      | (with_reducible exact r9Add.mono _ _ _ _)
      | (with_reducible exact r9Scale.mono _ _ _ _)
      | (with_reducible exact LeO.refl _)
      | (with_reducible exact LeO.none _)
      | (with_reducible refine LeO.ite ?_ ?_)
      | (with_reducible refine LeO.bind ?_ (fun _ => ?_))
      | exact r9Add.mono _ _ _ _
      | exact r9Scale.mono _ _ _ _
      | exact LeO.none _
      | refine LeO.ite ?_ ?_
      | refine LeO.bind ?_ (fun _ => ?_)
def fp_at.f (l0 : List Int) (a1 : Int) : Option (Int) := if a1 < (l0.length : Int) then (if 0 ≤ a1 then (some (rd l0 a1)) else (none)) else (some 0)
def fp_Trim.l0 : Nat → List Int → Int → Option (List Int)
  | 0, _, _ => none
  | k + 1, x0, x3 => if x3 > 0 then (if 0 ≤ (wrap64 (x3 - 1)) then (if (wrap64 (x3 - 1)) < (x0.length : Int) then (if (rd x0 (wrap64 (x3 - 1))) = 0 then (fp_Trim.l0 k x0 (wrap64 (x3 - 1))) else (if 0 ≤ x3 then (if x3 ≤ (x0.length : Int) then (some (x0.take (x3 : Int).toNat)) else (none)) else (none))) else (none)) else (none)) else (if 0 ≤ x3 then (if x3 ≤ (x0.length : Int) then (some (x0.take (x3 : Int).toNat)) else (none)) else (none))
def fp_Trim.f (k : Nat) (l0 : List Int) : Option (List Int) := fp_Trim.l0 k l0 (l0.length : Int)
theorem fp_Trim.mono_l : ∀ k, (∀ y0 y1, LeO (fp_Trim.l0 k y0 y1) (fp_Trim.l0 (k + 1) y0 y1))
  | 0 => fun _ _ r h => by simp [fp_Trim.l0] at h
  | k + 1 => by
    have ih0 := fp_Trim.mono_l k
    · intro y0 y1
      unfold fp_Trim.l0
      repeat' first
      | (with_reducible exact ih0 _ _)
      | (with_reducible exact LeO.refl _)
      | (with_reducible exact LeO.none _)
      | (with_reducible refine LeO.ite ?_ ?_)
      | (with_reducible refine LeO.bind ?_ (fun _ => ?_))
      | exact ih0 _ _
      | exact LeO.none _
      | refine LeO.ite ?_ ?_
      | refine LeO.bind ?_ (fun _ => ?_)
theorem fp_Trim.mono : ∀ a0 k, LeO (fp_Trim.f k a0) (fp_Trim.f (k + 1) a0) := by
  intro a0 k
  have ih0 := fp_Trim.mono_l k
  unfold fp_Trim.f
  repeat' first
      | (with_reducible exact ih0 _ _)
      | (with_reducible exact LeO.refl _)
      | (with_reducible exact LeO.none _)
      | (with_reducible refine LeO.ite ?_ ?_)
      | (with_reducible refine LeO.bind ?_ (fun _ => ?_))
      | exact ih0 _ _
      | exact LeO.none _
      | refine LeO.ite ?_ ?_
      | refine LeO.bind ?_ (fun _ => ?_)
def fp_Sub.l0 : Nat → Int → List Int → List Int → List Int → Int → Int → Option (List Int)
  | 0, _, _, _, _, _, _ => none
  | k + 1, x0, x1, x2, x7, x16, x17 => if x17 < x16 then ((fp_at.f x1 x17).bind fun t104 => ((fp_at.f x2 x17).bind fun t105 => (if x0 = 0 then (none) else (if 0 ≤ x17 then (if x17 < (x7.length : Int) then (fp_Sub.l0 k x0 x1 x2 (x7.set (x17 : Int).toNat (Int.tmod (wrap64 ((wrap64 (t104 + x0)) - t105)) x0)) x16 (wrap64 (x17 + 1))) else (none)) else (none))))) else ((fp_Trim.f k x7).bind fun t107 => (some t107))
def fp_Sub.f (k : Nat) (a0 : Int) (l1 : List Int) (l2 : List Int) : Option (List Int) := if 0 ≤ (mx (l1.length : Int) (l2.length : Int)) then (if (mx (l1.length : Int) (l2.length : Int) : Int).toNat ≤ 35184372088832 then ((some (List.replicate (mx (l1.length : Int) (l2.length : Int) : Int).toNat 0 : List Int)).bind fun y101 => (fp_Sub.l0 k a0 l1 l2 y101 (y101.length : Int) 0)) else (none)) else (none)
theorem fp_Sub.mono_l : ∀ k, (∀ y0 y1 y2 y3 y4 y5, LeO (fp_Sub.l0 k y0 y1 y2 y3 y4 y5) (fp_Sub.l0 (k + 1) y0 y1 y2 y3 y4 y5))
  | 0 => fun _ _ _ _ _ _ r h => by simp [fp_Sub.l0] at h
  | k + 1 => by
    have ih0 := fp_Sub.mono_l k
    · intro y0 y1 y2 y3 y4 y5
      unfold fp_Sub.l0
      repeat' first
      | (with_reducible exact ih0 _ _ _ _ _ _)
      | (with_reducible exact fp_Trim.mono _ _)
      | (with_reducible exact LeO.refl _)
      | (with_reducible exact LeO.none _)
      | (with_reducible refine LeO.ite ?_ ?_)
      | (with_reducible refine LeO.bind ?_ (fun _ => ?_))
      | exact ih0 _ _ _ _ _ _
      | exact fp_Trim.mono _ _
      | exact LeO.none _
      | refine LeO.ite ?_ ?_
      | refine LeO.bind ?_ (fun _ => ?_)
theorem fp_Sub.mono : ∀ a0 a1 a2 k, LeO (fp_Sub.f k a0 a1 a2) (fp_Sub.f (k + 1) a0 a1 a2) := by
  intro a0 a1 a2 k
  have ih0 := fp_Sub.mono_l k
  unfold fp_Sub.f
  repeat' first
      | (with_reducible exact ih0 _ _ _ _ _ _)
      | (with_reducible exact fp_Trim.mono _ _)
      | (with_reducible exact LeO.refl _)
      | (with_reducible exact LeO.none _)
      | (with_reducible refine LeO.ite ?_ ?_)
      | (with_reducible refine LeO.bind ?_ (fun _ => ?_))
      | exact ih0 _ _ _ _ _ _
      | exact fp_Trim.mono _ _
      | exact LeO.none _
      | refine LeO.ite ?_ ?_
      | refine LeO.bind ?_ (fun _ => ?_)
def fp_Scale.l0 : Nat → Int → Int → List Int → List Int → Int → Int → Option (List Int)
  | 0, _, _, _, _, _, _ => none
  | k + 1, x0, x2, x7, x13, x14, x15 => if x15 < x14 then (if 0 ≤ x15 then (if x15 < (x13.length : Int) then (if x0 = 0 then (none) else (if x15 < (x7.length : Int) then (fp_Scale.l0 k x0 x2 (x7.set (x15 : Int).toNat (Int.tmod (wrap64 ((rd x13 x15) * x2)) x0)) x13 x14 (wrap64 (x15 + 1))) else (none))) else (none)) else (none)) else ((fp_Trim.f k x7).bind fun t106 => (some t106))
def fp_Scale.f (k : Nat) (a0 : Int) (l1 : List Int) (a2 : Int) : Option (List Int) := if 0 ≤ (l1.length : Int) then (if ((l1.length : Int) : Int).toNat ≤ 35184372088832 then (fp_Scale.l0 k a0 a2 (List.replicate ((l1.length : Int) : Int).toNat 0) l1 (l1.length : Int) 0) else (none)) else (none)
theorem fp_Scale.mono_l : ∀ k, (∀ y0 y1 y2 y3 y4 y5, LeO (fp_Scale.l0 k y0 y1 y2 y3 y4 y5) (fp_Scale.l0 (k + 1) y0 y1 y2 y3 y4 y5))
  | 0 => fun _ _ _ _ _ _ r h => by simp [fp_Scale.l0] at h
  | k + 1 => by
    have ih0 := fp_Scale.mono_l k
    · intro y0 y1 y2 y3 y4 y5
      unfold fp_Scale.l0
      repeat' first
      | (with_reducible exact ih0 _ _ _ _ _ _)
      | (with_reducible exact fp_Trim.mono _ _)
      | (with_reducible exact LeO.refl _)
      | (with_reducible exact LeO.none _)
      | (with_reducible refine LeO.ite ?_ ?_)
      | (with_reducible refine LeO.bind ?_ (fun _ => ?_))
      | exact ih0 _ _ _ _ _ _
      | exact fp_Trim.mono _ _
      | exact LeO.none _
      | refine LeO.ite ?_ ?_
      | refine LeO.bind ?_ (fun _ => ?_)
theorem fp_Scale.mono : ∀ a0 a1 a2 k, LeO (fp_Scale.f k a0 a1 a2) (fp_Scale.f (k + 1) a0 a1 a2) := by
  intro a0 a1 a2 k
  have ih0 := fp_Scale.mono_l k
  unfold fp_Scale.f
  repeat' first
      | (with_reducible exact ih0 _ _ _ _ _ _)
      | (with_reducible exact fp_Trim.mono _ _)
      | (with_reducible exact LeO.refl _)
      | (with_reducible exact LeO.none _)
      | (with_reducible refine LeO.ite ?_ ?_)
      | (with_reducible refine LeO.bind ?_ (fun _ => ?_))
      | exact ih0 _ _ _ _ _ _
      | exact fp_Trim.mono _ _
      | exact LeO.none _
      | refine LeO.ite ?_ ?_
      | refine LeO.bind ?_ (fun _ => ?_)
def fp_Mod.f (a0 : Int) (a1 : Int) : Option (Int) := if a0 = 0 then (none) else (if (Int.tmod a1 a0) < 0 then (some (wrap64 ((Int.tmod a1 a0) + a0))) else (some (Int.tmod a1 a0)))
def fp_Add.l0 : Nat → Int → List Int → List Int → List Int → Int → Int → Option (List Int)
  | 0, _, _, _, _, _, _ => none
  | k + 1, x0, x1, x2, x7, x16, x17 => if x17 < x16 then ((fp_at.f x1 x17).bind fun t104 => ((fp_at.f x2 x17).bind fun t105 => (if x0 = 0 then (none) else (if 0 ≤ x17 then (if x17 < (x7.length : Int) then (fp_Add.l0 k x0 x1 x2 (x7.set (x17 : Int).toNat (Int.tmod (wrap64 (t104 + t105)) x0)) x16 (wrap64 (x17 + 1))) else (none)) else (none))))) else ((fp_Trim.f k x7).bind fun t107 => (some t107))
def fp_Add.f (k : Nat) (a0 : Int) (l1 : List Int) (l2 : List Int) : Option (List Int) := if 0 ≤ (mx (l1.length : Int) (l2.length : Int)) then (if (mx (l1.length : Int) (l2.length : Int) : Int).toNat ≤ 35184372088832 then ((some (List.replicate (mx (l1.length : Int) (l2.length : Int) : Int).toNat 0 : List Int)).bind fun y101 => (fp_Add.l0 k a0 l1 l2 y101 (y101.length : Int) 0)) else (none)) else (none)
theorem fp_Add.mono_l : ∀ k, (∀ y0 y1 y2 y3 y4 y5, LeO (fp_Add.l0 k y0 y1 y2 y3 y4 y5) (fp_Add.l0 (k + 1) y0 y1 y2 y3 y4 y5))
  | 0 => fun _ _ _ _ _ _ r h => by simp [fp_Add.l0] at h
  | k + 1 => by
    have ih0 := fp_Add.mono_l k
    · intro y0 y1 y2 y3 y4 y5
      unfold fp_Add.l0
      repeat' first
      | (with_reducible exact ih0 _ _ _ _ _ _)
      | (with_reducible exact fp_Trim.mono _ _)
      | (with_reducible exact LeO.refl _)
      | (with_reducible exact LeO.none _)
      | (with_reducible refine LeO.ite ?_ ?_)
      | (with_reducible refine LeO.bind ?_ (fun _ => ?_))
      | exact ih0 _ _ _ _ _ _
      | exact fp_Trim.mono _ _
      | exact LeO.none _
      | refine LeO.ite ?_ ?_
      | refine LeO.bind ?_ (fun _ => ?_)
theorem fp_Add.mono : ∀ a0 a1 a2 k, LeO (fp_Add.f k a0 a1 a2) (fp_Add.f (k + 1) a0 a1 a2) := by
  intro a0 a1 a2 k
  have ih0 := fp_Add.mono_l k
  unfold fp_Add.f
  repeat' first
      | (with_reducible exact ih0 _ _ _ _ _ _)
      | (with_reducible exact fp_Trim.mono _ _)
      | (with_reducible exact LeO.refl _)
      | (with_reducible exact LeO.none _)
      | (with_reducible refine LeO.ite ?_ ?_)
      | (with_reducible refine LeO.bind ?_ (fun _ => ?_))
      | exact ih0 _ _ _ _ _ _
      | exact fp_Trim.mono _ _
      | exact LeO.none _
      | refine LeO.ite ?_ ?_
      | refine LeO.bind ?_ (fun _ => ?_)
def fp_Inv.l0 : Nat → Int → Int → Int → Int → Int → Option (Int)
  | 0, _, _, _, _, _ => none
  | k + 1, x0, x5, x6, x7, x8 => if x6 > 0 then (if x6 = 0 then (none) else (fp_Inv.l0 k x0 x6 (wrap64 (x5 - (wrap64 ((wrap64 (Int.tdiv x5 x6)) * x6)))) x8 (wrap64 (x7 - (wrap64 ((wrap64 (Int.tdiv x5 x6)) * x8)))))) else ((fp_Mod.f x0 x7).bind fun t101 => (some t101))
def fp_Inv.f (k : Nat) (a0 : Int) (a1 : Int) : Option (Int) := fp_Inv.l0 k a0 a0 a1 0 1
theorem fp_Inv.mono_l : ∀ k, (∀ y0 y1 y2 y3 y4, LeO (fp_Inv.l0 k y0 y1 y2 y3 y4) (fp_Inv.l0 (k + 1) y0 y1 y2 y3 y4))
  | 0 => fun _ _ _ _ _ r h => by simp [fp_Inv.l0] at h
  | k + 1 => by
    have ih0 := fp_Inv.mono_l k
    · intro y0 y1 y2 y3 y4
      unfold fp_Inv.l0
      repeat' first
      | (with_reducible exact ih0 _ _ _ _ _)
      | (with_reducible exact LeO.refl _)
      | (with_reducible exact LeO.none _)
      | (with_reducible refine LeO.ite ?_ ?_)
      | (with_reducible refine LeO.bind ?_ (fun _ => ?_))
      | exact ih0 _ _ _ _ _
      | exact LeO.none _
      | refine LeO.ite ?_ ?_
      | refine LeO.bind ?_ (fun _ => ?_)
theorem fp_Inv.mono : ∀ a0 a1 k, LeO (fp_Inv.f k a0 a1) (fp_Inv.f (k + 1) a0 a1) := by
  intro a0 a1 k
  have ih0 := fp_Inv.mono_l k
  unfold fp_Inv.f
  repeat' first
      | (with_reducible exact ih0 _ _ _ _ _)
      | (with_reducible exact LeO.refl _)
      | (with_reducible exact LeO.none _)
      | (with_reducible refine LeO.ite ?_ ?_)
      | (with_reducible refine LeO.bind ?_ (fun _ => ?_))
      | exact ih0 _ _ _ _ _
      | exact LeO.none _
      | refine LeO.ite ?_ ?_
      | refine LeO.bind ?_ (fun _ => ?_)
mutual
def fp_DivMod.l0 : Nat → Int → List Int → List Int → Int → List Int → Int → Int → Option (List Int × List Int)
  | 0, _, _, _, _, _, _, _ => none
  | k + 1, x0, x2, x8, x9, x10, x11, x12 => if x12 ≥ 0 then (if 0 ≤ (wrap64 ((wrap64 (x12 + x9)) - 1)) then (if (wrap64 ((wrap64 (x12 + x9)) - 1)) < (x8.length : Int) then (if x0 = 0 then (none) else (if 0 ≤ x12 then (if x12 < (x10.length : Int) then (fp_DivMod.l1 k x0 x2 x8 x9 (x10.set (x12 : Int).toNat (Int.tmod (wrap64 ((rd x8 (wrap64 ((wrap64 (x12 + x9)) - 1))) * x11)) x0)) x11 x12 (Int.tmod (wrap64 ((rd x8 (wrap64 ((wrap64 (x12 + x9)) - 1))) * x11)) x0) x2 (x2.length : Int) 0) else (none)) else (none))) else (none)) else (none)) else ((fp_Trim.f k x10).bind fun t112 => (if 0 ≤ (wrap64 (x9 - 1)) then (if (wrap64 (x9 - 1)) ≤ (x8.length : Int) then ((fp_Trim.f k (x8.take ((wrap64 (x9 - 1)) : Int).toNat)).bind fun t119 => (some (t112, t119))) else (none)) else (none)))
def fp_DivMod.l1 : Nat → Int → List Int → List Int → Int → List Int → Int → Int → Int → List Int → Int → Int → Option (List Int × List Int)
  | 0, _, _, _, _, _, _, _, _, _, _, _ => none
  | k + 1, x0, x2, x8, x9, x10, x11, x12, x13, x62, x63, x64 => if x64 < x63 then (if 0 ≤ x64 then (if x64 < (x62.length : Int) then (if 0 ≤ (wrap64 (x12 + x64)) then (if (wrap64 (x12 + x64)) < (x8.length : Int) then ((fp_Mod.f x0 (wrap64 ((rd x8 (wrap64 (x12 + x64))) - (wrap64 (x13 * (rd x62 x64)))))).bind fun t126 => (fp_DivMod.l1 k x0 x2 (x8.set ((wrap64 (x12 + x64)) : Int).toNat t126) x9 x10 x11 x12 x13 x62 x63 (wrap64 (x64 + 1)))) else (none)) else (none)) else (none)) else (none)) else (fp_DivMod.l0 k x0 x2 x8 x9 x10 x11 (wrap64 (x12 - 1)))
end
def fp_DivMod.f (k : Nat) (a0 : Int) (l1 : List Int) (l2 : List Int) : Option (List Int × List Int) := (some (([] : List Int) : List Int)).bind fun y101 => (if y101.length + l1.length < 17592186044416 then ((some (y101 ++ l1 : List Int)).bind fun y104 => (if (l1.length : Int) < (l2.length : Int) then (some (([] : List Int), y104)) else (if 0 ≤ (wrap64 ((wrap64 ((l1.length : Int) - (l2.length : Int))) + 1)) then (if (wrap64 ((wrap64 ((l1.length : Int) - (l2.length : Int))) + 1) : Int).toNat ≤ 35184372088832 then (if 0 ≤ (wrap64 ((l2.length : Int) - 1)) then (if (wrap64 ((l2.length : Int) - 1)) < (l2.length : Int) then ((fp_Inv.f k a0 (rd l2 (wrap64 ((l2.length : Int) - 1)))).bind fun t111 => (fp_DivMod.l0 k a0 l2 y104 (l2.length : Int) (List.replicate (wrap64 ((wrap64 ((l1.length : Int) - (l2.length : Int))) + 1) : Int).toNat 0) t111 (wrap64 ((l1.length : Int) - (l2.length : Int))))) else (none)) else (none)) else (none)) else (none)))) else (none))
theorem fp_DivMod.mono_l : ∀ k, (∀ y0 y1 y2 y3 y4 y5 y6, LeO (fp_DivMod.l0 k y0 y1 y2 y3 y4 y5 y6) (fp_DivMod.l0 (k + 1) y0 y1 y2 y3 y4 y5 y6)) ∧ (∀ y0 y1 y2 y3 y4 y5 y6 y7 y8 y9 y10, LeO (fp_DivMod.l1 k y0 y1 y2 y3 y4 y5 y6 y7 y8 y9 y10) (fp_DivMod.l1 (k + 1) y0 y1 y2 y3 y4 y5 y6 y7 y8 y9 y10))
  | 0 => ⟨fun _ _ _ _ _ _ _ r h => by simp [fp_DivMod.l0] at h, fun _ _ _ _ _ _ _ _ _ _ _ r h => by simp [fp_DivMod.l1] at h⟩
  | k + 1 => by
    obtain ⟨ih0, ih1⟩ := fp_DivMod.mono_l k
    refine ⟨?_, ?_⟩
    · intro y0 y1 y2 y3 y4 y5 y6
      unfold fp_DivMod.l0
      repeat' first
      | (with_reducible exact ih0 _ _ _ _ _ _ _)
      | (with_reducible exact ih1 _ _ _ _ _ _ _ _ _ _ _)
      | (with_reducible exact fp_Inv.mono _ _ _)
      | (with_reducible exact fp_Trim.mono _ _)
      | (with_reducible exact LeO.refl _)
      | (with_reducible exact LeO.none _)
      | (with_reducible refine LeO.ite ?_ ?_)
      | (with_reducible refine LeO.bind ?_ (fun _ => ?_))
      | exact ih0 _ _ _ _ _ _ _
      | exact ih1 _ _ _ _ _ _ _ _ _ _ _
      | exact fp_Inv.mono _ _ _
      | exact fp_Trim.mono _ _
      | exact LeO.none _
      | refine LeO.ite ?_ ?_
      | refine LeO.bind ?_ (fun _ => ?_)
    · intro y0 y1 y2 y3 y4 y5 y6 y7 y8 y9 y10
      unfold fp_DivMod.l1
      repeat' first
      | (with_reducible exact ih0 _ _ _ _ _ _ _)
      | (with_reducible exact ih1 _ _ _ _ _ _ _ _ _ _ _)
      | (with_reducible exact fp_Inv.mono _ _ _)
      | (with_reducible exact fp_Trim.mono _ _)
      | (with_reducible exact LeO.refl _)
      | (with_reducible exact LeO.none _)
      | (with_reducible refine LeO.ite ?_ ?_)
      | (with_reducible refine LeO.bind ?_ (fun _ => ?_))
      | exact ih0 _ _ _ _ _ _ _
      | exact ih1 _ _ _ _ _ _ _ _ _ _ _
      | exact fp_Inv.mono _ _ _
      | exact fp_Trim.mono _ _
      | exact LeO.none _
      | refine LeO.ite ?_ ?_
      | refine LeO.bind ?_ (fun _ => ?_)
theorem fp_DivMod.mono : ∀ a0 a1 a2 k, LeO (fp_DivMod.f k a0 a1 a2) (fp_DivMod.f (k + 1) a0 a1 a2) := by
  intro a0 a1 a2 k
  obtain ⟨ih0, ih1⟩ := fp_DivMod.mono_l k
  unfold fp_DivMod.f
  repeat' first
      | (with_reducible exact ih0 _ _ _ _ _ _ _)
      | (with_reducible exact ih1 _ _ _ _ _ _ _ _ _ _ _)
      | (with_reducible exact fp_Inv.mono _ _ _)
      | (with_reducible exact fp_Trim.mono _ _)
      | (with_reducible exact LeO.refl _)
      | (with_reducible exact LeO.none _)
      | (with_reducible refine LeO.ite ?_ ?_)
      | (with_reducible refine LeO.bind ?_ (fun _ => ?_))
      | exact ih0 _ _ _ _ _ _ _
      | exact ih1 _ _ _ _ _ _ _ _ _ _ _
      | exact fp_Inv.mono _ _ _
      | exact fp_Trim.mono _ _
      | exact LeO.none _
      | refine LeO.ite ?_ ?_
      | refine LeO.bind ?_ (fun _ => ?_)
def fp_Rem.f (k : Nat) (a0 : Int) (l1 : List Int) (l2 : List Int) : Option (List Int) := (fp_DivMod.f k a0 l1 l2).bind fun bt101 => (some bt101.2)
theorem fp_Rem.mono : ∀ a0 a1 a2 k, LeO (fp_Rem.f k a0 a1 a2) (fp_Rem.f (k + 1) a0 a1 a2) := by
  intro a0 a1 a2 k
  unfold fp_Rem.f
  repeat' first
      | (with_reducible exact fp_DivMod.mono _ _ _ _)
      | (with_reducible exact LeO.refl _)
      | (with_reducible exact LeO.none _)
      | (with_reducible refine LeO.ite ?_ ?_)
      | (with_reducible refine LeO.bind ?_ (fun _ => ?_))
      | exact fp_DivMod.mono _ _ _ _
      | exact LeO.none _
      | refine LeO.ite ?_ ?_
      | refine LeO.bind ?_ (fun _ => ?_)
mutual
def fp_Mul.j0 : Nat → Int → List Int → List Int → Bool → Option (List Int)
  | 0, _, _, _, _ => none
  | k + 1, x0, x1, x2, x19 => if x19 = true then (some ([] : List Int)) else (if 0 ≤ (wrap64 ((wrap64 ((x1.length : Int) + (x2.length : Int))) - 1)) then (if (wrap64 ((wrap64 ((x1.length : Int) + (x2.length : Int))) - 1) : Int).toNat ≤ 35184372088832 then (fp_Mul.l0 k x0 x2 (List.replicate (wrap64 ((wrap64 ((x1.length : Int) + (x2.length : Int))) - 1) : Int).toNat 0) x1 (x1.length : Int) 0) else (none)) else (none))
def fp_Mul.l0 : Nat → Int → List Int → List Int → List Int → Int → Int → Option (List Int)
  | 0, _, _, _, _, _, _ => none
  | k + 1, x0, x2, x7, x27, x28, x29 => if x29 < x28 then (if 0 ≤ x29 then (if x29 < (x27.length : Int) then (fp_Mul.l1 k x0 x2 x7 x29 (rd x27 x29) x27 x28 x29 x2 (x2.length : Int) 0) else (none)) else (none)) else ((fp_Trim.f k x7).bind fun t104 => (some t104))
def fp_Mul.l1 : Nat → Int → List Int → List Int → Int → Int → List Int → Int → Int → List Int → Int → Int → Option (List Int)
  | 0, _, _, _, _, _, _, _, _, _, _, _ => none
  | k + 1, x0, x2, x7, x8, x9, x27, x28, x29, x34, x35, x36 => if x36 < x35 then (if 0 ≤ x36 then (if x36 < (x34.length : Int) then (if 0 ≤ (wrap64 (x8 + x36)) then (if (wrap64 (x8 + x36)) < (x7.length : Int) then (if x0 = 0 then (none) else (fp_Mul.l1 k x0 x2 (x7.set ((wrap64 (x8 + x36)) : Int).toNat (Int.tmod (wrap64 ((rd x7 (wrap64 (x8 + x36))) + (wrap64 (x9 * (rd x34 x36))))) x0)) x8 x9 x27 x28 x29 x34 x35 (wrap64 (x36 + 1)))) else (none)) else (none)) else (none)) else (none)) else (fp_Mul.l0 k x0 x2 x7 x27 x28 (wrap64 (x29 + 1)))
end
def fp_Mul.f (k : Nat) (a0 : Int) (l1 : List Int) (l2 : List Int) : Option (List Int) := if (l1.length : Int) = 0 then (fp_Mul.j0 k a0 l1 l2 true) else (fp_Mul.j0 k a0 l1 l2 ((l2.length : Int) == 0))
theorem fp_Mul.mono_l : ∀ k, (∀ y0 y1 y2 y3, LeO (fp_Mul.j0 k y0 y1 y2 y3) (fp_Mul.j0 (k + 1) y0 y1 y2 y3)) ∧ (∀ y0 y1 y2 y3 y4 y5, LeO (fp_Mul.l0 k y0 y1 y2 y3 y4 y5) (fp_Mul.l0 (k + 1) y0 y1 y2 y3 y4 y5)) ∧ (∀ y0 y1 y2 y3 y4 y5 y6 y7 y8 y9 y10, LeO (fp_Mul.l1 k y0 y1 y2 y3 y4 y5 y6 y7 y8 y9 y10) (fp_Mul.l1 (k + 1) y0 y1 y2 y3 y4 y5 y6 y7 y8 y9 y10))
  | 0 => ⟨fun _ _ _ _ r h => by simp [fp_Mul.j0] at h, fun _ _ _ _ _ _ r h => by simp [fp_Mul.l0] at h, fun _ _ _ _ _ _ _ _ _ _ _ r h => by simp [fp_Mul.l1] at h⟩
  | k + 1 => by
    obtain ⟨ih0, ih1, ih2⟩ := fp_Mul.mono_l k
    refine ⟨?_, ?_, ?_⟩
    · intro y0 y1 y2 y3
      unfold fp_Mul.j0
      repeat' first
      | (with_reducible exact ih0 _ _ _ _)
      | (with_reducible exact ih1 _ _ _ _ _ _)
      | (with_reducible exact ih2 _ _ _ _ _ _ _ _ _ _ _)
      | (with_reducible exact fp_Trim.mono _ _)
      | (with_reducible exact LeO.refl _)
      | (with_reducible exact LeO.none _)
      | (with_reducible refine LeO.ite ?_ ?_)
      | (with_reducible refine LeO.bind ?_ (fun _ => ?_))
      | exact ih0 _ _ _ _
      | exact ih1 _ _ _ _ _ _
      | exact ih2 _ _ _ _ _ _ _ _ _ _ _
      | exact fp_Trim.mono _ _
      | exact LeO.none _
      | refine LeO.ite ?_ ?_
      | refine LeO.bind ?_ (fun _ => ?_)
    · intro y0 y1 y2 y3 y4 y5
      unfold fp_Mul.l0
      repeat' first
      | (with_reducible exact ih0 _ _ _ _)
      | (with_reducible exact ih1 _ _ _ _ _ _)
      | (with_reducible exact ih2 _ _ _ _ _ _ _ _ _ _ _)
      | (with_reducible exact fp_Trim.mono _ _)
      | (with_reducible exact LeO.refl _)
      | (with_reducible exact LeO.none _)
      | (with_reducible refine LeO.ite ?_ ?_)
      | (with_reducible refine LeO.bind ?_ (fun _ => ?_))
      | exact ih0 _ _ _ _
      | exact ih1 _ _ _ _ _ _
      | exact ih2 _ _ _ _ _ _ _ _ _ _ _
      | exact fp_Trim.mono _ _
      | exact LeO.none _
      | refine LeO.ite ?_ ?_
      | refine LeO.bind ?_ (fun _ => ?_)
    · intro y0 y1 y2 y3 y4 y5 y6 y7 y8 y9 y10
      unfold fp_Mul.l1
      repeat' first
      | (with_reducible exact ih0 _ _ _ _)
      | (with_reducible exact ih1 _ _ _ _ _ _)
      | (with_reducible exact ih2 _ _ _ _ _ _ _ _ _ _ _)
      | (with_reducible exact fp_Trim.mono _ _)
      | (with_reducible exact LeO.refl _)
      | (with_reducible exact LeO.none _)
      | (with_reducible refine LeO.ite ?_ ?_)
      | (with_reducible refine LeO.bind ?_ (fun _ => ?_))
      | exact ih0 _ _ _ _
      | exact ih1 _ _ _ _ _ _
      | exact ih2 _ _ _ _ _ _ _ _ _ _ _
      | exact fp_Trim.mono _ _
      | exact LeO.none _
      | refine LeO.ite ?_ ?_
      | refine LeO.bind ?_ (fun _ => ?_)
theorem fp_Mul.mono : ∀ a0 a1 a2 k, LeO (fp_Mul.f k a0 a1 a2) (fp_Mul.f (k + 1) a0 a1 a2) := by
  intro a0 a1 a2 k
  obtain ⟨ih0, ih1, ih2⟩ := fp_Mul.mono_l k
  unfold fp_Mul.f
  repeat' first
      | (with_reducible exact ih0 _ _ _ _)
      | (with_reducible exact ih1 _ _ _ _ _ _)
      | (with_reducible exact ih2 _ _ _ _ _ _ _ _ _ _ _)
      | (with_reducible exact fp_Trim.mono _ _)
      | (with_reducible exact LeO.refl _)
      | (with_reducible exact LeO.none _)
      | (with_reducible refine LeO.ite ?_ ?_)
      | (with_reducible refine LeO.bind ?_ (fun _ => ?_))
      | exact ih0 _ _ _ _
      | exact ih1 _ _ _ _ _ _
      | exact ih2 _ _ _ _ _ _ _ _ _ _ _
      | exact fp_Trim.mono _ _
      | exact LeO.none _
      | refine LeO.ite ?_ ?_
      | refine LeO.bind ?_ (fun _ => ?_)
def fp_MulMod.f (k : Nat) (a0 : Int) (l1 : List Int) (l2 : List Int) (l3 : List Int) : Option (List Int) := (fp_Mul.f k a0 l1 l2).bind fun t101 => ((fp_Rem.f k a0 t101 l3).bind fun t104 => (some t104))
theorem fp_MulMod.mono : ∀ a0 a1 a2 a3 k, LeO (fp_MulMod.f k a0 a1 a2 a3) (fp_MulMod.f (k + 1) a0 a1 a2 a3) := by
  intro a0 a1 a2 a3 k
  unfold fp_MulMod.f
  repeat' first
      | (with_reducible exact fp_Mul.mono _ _ _ _)
      | (with_reducible exact fp_Rem.mono _ _ _ _)
      | (with_reducible exact LeO.refl _)
      | (with_reducible exact LeO.none _)
      | (with_reducible refine LeO.ite ?_ ?_)
      | (with_reducible refine LeO.bind ?_ (fun _ => ?_))
      | exact fp_Mul.mono _ _ _ _
      | exact fp_Rem.mono _ _ _ _
      | exact LeO.none _
      | refine LeO.ite ?_ ?_
      | refine LeO.bind ?_ (fun _ => ?_)
mutual
def r9Mul.j0 : Nat → Int → List Int → List Int → Bool → Option (List Int)
  | 0, _, _, _, _ => none
  | k + 1, x0, x1, x2, x17 => if x17 = true then (some ([] : List Int)) else (if 0 ≤ (wrap64 ((wrap64 ((x1.length : Int) + (x2.length : Int))) - 1)) then (if (wrap64 ((wrap64 ((x1.length : Int) + (x2.length : Int))) - 1) : Int).toNat ≤ 35184372088832 then (r9Mul.l0 k x0 x1 x2 (List.replicate (wrap64 ((wrap64 ((x1.length : Int) + (x2.length : Int))) - 1) : Int).toNat 0) 0) else (none)) else (none))
def r9Mul.l0 : Nat → Int → List Int → List Int → List Int → Int → Option (List Int)
  | 0, _, _, _, _, _ => none
  | k + 1, x0, x1, x2, x7, x8 => if x8 < (x1.length : Int) then (r9Mul.l1 k x0 x1 x2 x7 x8 0) else ((r9Trim.f k x7).bind fun t104 => (some t104))
def r9Mul.l1 : Nat → Int → List Int → List Int → List Int → Int → Int → Option (List Int)
  | 0, _, _, _, _, _, _ => none
  | k + 1, x0, x1, x2, x7, x8, x9 => if x9 < (x2.length : Int) then (if 0 ≤ (wrap64 (x8 + x9)) then (if (wrap64 (x8 + x9)) < (x7.length : Int) then (if 0 ≤ x8 then (if x8 < (x1.length : Int) then (if 0 ≤ x9 then (if x0 = 0 then (none) else (r9Mul.l1 k x0 x1 x2 (x7.set ((wrap64 (x8 + x9)) : Int).toNat (Int.tmod (wrap64 ((rd x7 (wrap64 (x8 + x9))) + (wrap64 ((rd x1 x8) * (rd x2 x9))))) x0)) x8 (wrap64 (x9 + 1)))) else (none)) else (none)) else (none)) else (none)) else (none)) else (r9Mul.l0 k x0 x1 x2 x7 (wrap64 (x8 + 1)))
end
def r9Mul.f (k : Nat) (a0 : Int) (l1 : List Int) (l2 : List Int) : Option (List Int) := if (l1.length : Int) = 0 then (r9Mul.j0 k a0 l1 l2 true) else (r9Mul.j0 k a0 l1 l2 ((l2.length : Int) == 0))
theorem r9Mul.mono_l : ∀ k, (∀ y0 y1 y2 y3, LeO (r9Mul.j0 k y0 y1 y2 y3) (r9Mul.j0 (k + 1) y0 y1 y2 y3)) ∧ (∀ y0 y1 y2 y3 y4, LeO (r9Mul.l0 k y0 y1 y2 y3 y4) (r9Mul.l0 (k + 1) y0 y1 y2 y3 y4)) ∧ (∀ y0 y1 y2 y3 y4 y5, LeO (r9Mul.l1 k y0 y1 y2 y3 y4 y5) (r9Mul.l1 (k + 1) y0 y1 y2 y3 y4 y5))
  | 0 => ⟨fun _ _ _ _ r h => by simp [r9Mul.j0] at h, fun _ _ _ _ _ r h => by simp [r9Mul.l0] at h, fun _ _ _ _ _ _ r h => by simp [r9Mul.l1] at h⟩
  | k + 1 => by
    obtain ⟨ih0, ih1, ih2⟩ := r9Mul.mono_l k
    refine ⟨?_, ?_, ?_⟩
    · intro y0 y1 y2 y3
      unfold r9Mul.j0
      repeat' first
      | (with_reducible exact ih0 _ _ _ _)
      | (with_reducible exact ih1 _ _ _ _ _)
      | (with_reducible exact ih2 _ _ _ _ _ _)
      | (with_reducible exact r9Trim.mono _ _)
      | (with_reducible exact LeO.refl _)
      | (with_reducible exact LeO.none _)
      | (with_reducible refine LeO.ite ?_ ?_)
      | (with_reducible refine LeO.bind ?_ (fun _ => ?_))
      | exact ih0 _ _ _ _
      | exact ih1 _ _ _ _ _
      | exact ih2 _ _ _ _ _ _
      | exact r9Trim.mono _ _
      | exact LeO.none _
      | refine LeO.ite ?_ ?_
      | refine LeO.bind ?_ (fun _ => ?_)
    · intro y0 y1 y2 y3 y4
      unfold r9Mul.l0
      repeat' first
      | (with_reducible exact ih0 _ _ _ _)
      | (with_reducible exact ih1 _ _ _ _ _)
      | (with_reducible exact ih2 _ _ _ _ _ _)
      | (with_reducible exact r9Trim.mono _ _)
      | (with_reducible exact LeO.refl _)
      | (with_reducible exact LeO.none _)
      | (with_reducible refine LeO.ite ?_ ?_)
      | (with_reducible refine LeO.bind ?_ (fun _ => ?_))
      | exact ih0 _ _ _ _
      | exact ih1 _ _ _ _ _
      | exact ih2 _ _ _ _ _ _
      | exact r9Trim.mono _ _
      | exact LeO.none _
      | refine LeO.ite ?_ ?_
      | refine LeO.bind ?_ (fun _ => ?_)
    · intro y0 y1 y2 y3 y4 y5
      unfold r9Mul.l1
      repeat' first
      | (with_reducible exact ih0 _ _ _ _)
      | (with_reducible exact ih1 _ _ _ _ _)
      | (with_reducible exact ih2 _ _ _ _ _ _)
      | (with_reducible exact r9Trim.mono _ _)
      | (with_reducible exact LeO.refl _)
      | (with_reducible exact LeO.none _)
      | (with_reducible refine LeO.ite ?_ ?_)
      | (with_reducible refine LeO.bind ?_ (fun _ => ?_))
      | exact ih0 _ _ _ _
      | exact ih1 _ _ _ _ _
      | exact ih2 _ _ _ _ _ _
      | exact r9Trim.mono _ _
      | exact LeO.none _
      | refine LeO.ite ?_ ?_
      | refine LeO.bind ?_ (fun _ => ?_)
theorem r9Mul.mono : ∀ a0 a1 a2 k, LeO (r9Mul.f k a0 a1 a2) (r9Mul.f (k + 1) a0 a1 a2) := by
  intro a0 a1 a2 k
  obtain ⟨ih0, ih1, ih2⟩ := r9Mul.mono_l k
  unfold r9Mul.f
  repeat' first
      | (with_reducible exact ih0 _ _ _ _)
      | (with_reducible exact ih1 _ _ _ _ _)
      | (with_reducible exact ih2 _ _ _ _ _ _)
      | (with_reducible exact r9Trim.mono _ _)
      | (with_reducible exact LeO.refl _)
      | (with_reducible exact LeO.none _)
      | (with_reducible refine LeO.ite ?_ ?_)
      | (with_reducible refine LeO.bind ?_ (fun _ => ?_))
      | exact ih0 _ _ _ _
      | exact ih1 _ _ _ _ _
      | exact ih2 _ _ _ _ _ _
      | exact r9Trim.mono _ _
      | exact LeO.none _
      | refine LeO.ite ?_ ?_
      | refine LeO.bind ?_ (fun _ => ?_)
def r4Inverse.l0 : Nat → Int → Int → Int → Int → Int → Option (Int)
  | 0, _, _, _, _, _ => none
  | k + 1, x1, x5, x6, x7, x8 => if x6 > 0 then (if x6 = 0 then (none) else (r4Inverse.l0 k x1 x6 (wrap64 (x5 - (wrap64 ((wrap64 (Int.tdiv x5 x6)) * x6)))) x8 (wrap64 (x7 - (wrap64 ((wrap64 (Int.tdiv x5 x6)) * x8)))))) else ((r4Mod.f x7 x1).bind fun t102 => (some t102))
def r4Inverse.f (k : Nat) (a0 : Int) (a1 : Int) : Option (Int) := (r4Mod.f a0 a1).bind fun t101 => (r4Inverse.l0 k a1 a1 t101 0 1)
theorem r4Inverse.mono_l : ∀ k, (∀ y0 y1 y2 y3 y4, LeO (r4Inverse.l0 k y0 y1 y2 y3 y4) (r4Inverse.l0 (k + 1) y0 y1 y2 y3 y4))
  | 0 => fun _ _ _ _ _ r h => by simp [r4Inverse.l0] at h
  | k + 1 => by
    have ih0 := r4Inverse.mono_l k
    · intro y0 y1 y2 y3 y4
      unfold r4Inverse.l0
      repeat' first
      | (with_reducible exact ih0 _ _ _ _ _)
      | (with_reducible exact LeO.refl _)
      | (with_reducible exact LeO.none _)
      | (with_reducible refine LeO.ite ?_ ?_)
      | (with_reducible refine LeO.bind ?_ (fun _ => ?_))
      | exact ih0 _ _ _ _ _
      | exact LeO.none _
      | refine LeO.ite ?_ ?_
      | refine LeO.bind ?_ (fun _ => ?_)
theorem r4Inverse.mono : ∀ a0 a1 k, LeO (r4Inverse.f k a0 a1) (r4Inverse.f (k + 1) a0 a1) := by
  intro a0 a1 k
  have ih0 := r4Inverse.mono_l k
  unfold r4Inverse.f
  repeat' first
      | (with_reducible exact ih0 _ _ _ _ _)
      | (with_reducible exact LeO.refl _)
      | (with_reducible exact LeO.none _)
      | (with_reducible refine LeO.ite ?_ ?_)
      | (with_reducible refine LeO.bind ?_ (fun _ => ?_))
      | exact ih0 _ _ _ _ _
      | exact LeO.none _
      | refine LeO.ite ?_ ?_
      | refine LeO.bind ?_ (fun _ => ?_)
mutual
def r9DivMod.l0 : Nat → Int → List Int → List Int → Int → List Int → Int → Int → Option (List Int × List Int)
  | 0, _, _, _, _, _, _, _ => none
  | k + 1, x0, x2, x8, x9, x10, x11, x12 => if x12 ≥ 0 then (if 0 ≤ (wrap64 (x12 + x9)) then (if (wrap64 (x12 + x9)) < (x8.length : Int) then (if x0 = 0 then (none) else (if 0 ≤ x12 then (if x12 < (x10.length : Int) then (r9DivMod.l1 k x0 x2 x8 x9 (x10.set (x12 : Int).toNat (Int.tmod (wrap64 ((rd x8 (wrap64 (x12 + x9))) * x11)) x0)) x11 x12 (Int.tmod (wrap64 ((rd x8 (wrap64 (x12 + x9))) * x11)) x0) 0) else (none)) else (none))) else (none)) else (none)) else ((r9Trim.f k x10).bind fun t109 => ((r9Trim.f k x8).bind fun t112 => (some (t109, t112))))
def r9DivMod.l1 : Nat → Int → List Int → List Int → Int → List Int → Int → Int → Int → Int → Option (List Int × List Int)
  | 0, _, _, _, _, _, _, _, _, _ => none
  | k + 1, x0, x2, x8, x9, x10, x11, x12, x13, x14 => if x14 ≤ x9 then (if 0 ≤ (wrap64 (x12 + x14)) then (if (wrap64 (x12 + x14)) < (x8.length : Int) then (if 0 ≤ x14 then (if x14 < (x2.length : Int) then (if x0 = 0 then (none) else (r9DivMod.l1 k x0 x2 (x8.set ((wrap64 (x12 + x14)) : Int).toNat (Int.tmod (wrap64 ((rd x8 (wrap64 (x12 + x14))) + (wrap64 ((wrap64 (x0 - x13)) * (rd x2 x14))))) x0)) x9 x10 x11 x12 x13 (wrap64 (x14 + 1)))) else (none)) else (none)) else (none)) else (none)) else (r9DivMod.l0 k x0 x2 x8 x9 x10 x11 (wrap64 (x12 - 1)))
end
def r9DivMod.f (k : Nat) (a0 : Int) (l1 : List Int) (l2 : List Int) : Option (List Int × List Int) := (r9Copy.f l1).bind fun t101 => (if 0 ≤ (mx 0 (wrap64 ((l1.length : Int) - (wrap64 ((l2.length : Int) - 1))))) then (if (mx 0 (wrap64 ((l1.length : Int) - (wrap64 ((l2.length : Int) - 1)))) : Int).toNat ≤ 35184372088832 then ((some (List.replicate (mx 0 (wrap64 ((l1.length : Int) - (wrap64 ((l2.length : Int) - 1)))) : Int).toNat 0 : List Int)).bind fun y104 => (if 0 ≤ (wrap64 ((l2.length : Int) - 1)) then (if (wrap64 ((l2.length : Int) - 1)) < (l2.length : Int) then ((r4Inverse.f k (rd l2 (wrap64 ((l2.length : Int) - 1))) a0).bind fun t108 => (r9DivMod.l0 k a0 l2 t101 (wrap64 ((l2.length : Int) - 1)) y104 t108 (wrap64 ((y104.length : Int) - 1)))) else (none)) else (none))) else (none)) else (none))
theorem r9DivMod.mono_l : ∀ k, (∀ y0 y1 y2 y3 y4 y5 y6, LeO (r9DivMod.l0 k y0 y1 y2 y3 y4 y5 y6) (r9DivMod.l0 (k + 1) y0 y1 y2 y3 y4 y5 y6)) ∧ (∀ y0 y1 y2 y3 y4 y5 y6 y7 y8, LeO (r9DivMod.l1 k y0 y1 y2 y3 y4 y5 y6 y7 y8) (r9DivMod.l1 (k + 1) y0 y1 y2 y3 y4 y5 y6 y7 y8))
  | 0 => ⟨fun _ _ _ _ _ _ _ r h => by simp [r9DivMod.l0] at h, fun _ _ _ _ _ _ _ _ _ r h => by simp [r9DivMod.l1] at h⟩
  | k + 1 => by
    obtain ⟨ih0, ih1⟩ := r9DivMod.mono_l k
    refine ⟨?_, ?_⟩
    · intro y0 y1 y2 y3 y4 y5 y6
      unfold r9DivMod.l0
      repeat' first
      | (with_reducible exact ih0 _ _ _ _ _ _ _)
      | (with_reducible exact ih1 _ _ _ _ _ _ _ _ _)
      | (with_reducible exact r4Inverse.mono _ _ _)
      | (with_reducible exact r9Trim.mono _ _)
      | (with_reducible exact LeO.refl _)
      | (with_reducible exact LeO.none _)
      | (with_reducible refine LeO.ite ?_ ?_)
      | (with_reducible refine LeO.bind ?_ (fun _ => ?_))
      | exact ih0 _ _ _ _ _ _ _
      | exact ih1 _ _ _ _ _ _ _ _ _
      | exact r4Inverse.mono _ _ _
      | exact r9Trim.mono _ _
      | exact LeO.none _
      | refine LeO.ite ?_ ?_
      | refine LeO.bind ?_ (fun _ => ?_)
    · intro y0 y1 y2 y3 y4 y5 y6 y7 y8
      unfold r9DivMod.l1
      repeat' first
      | (with_reducible exact ih0 _ _ _ _ _ _ _)
      | (with_reducible exact ih1 _ _ _ _ _ _ _ _ _)
      | (with_reducible exact r4Inverse.mono _ _ _)
      | (with_reducible exact r9Trim.mono _ _)
      | (with_reducible exact LeO.refl _)
      | (with_reducible exact LeO.none _)
      | (with_reducible refine LeO.ite ?_ ?_)
      | (with_reducible refine LeO.bind ?_ (fun _ => ?_))
      | exact ih0 _ _ _ _ _ _ _
      | exact ih1 _ _ _ _ _ _ _ _ _
      | exact r4Inverse.mono _ _ _
      | exact r9Trim.mono _ _
      | exact LeO.none _
      | refine LeO.ite ?_ ?_
      | refine LeO.bind ?_ (fun _ => ?_)
theorem r9DivMod.mono : ∀ a0 a1 a2 k, LeO (r9DivMod.f k a0 a1 a2) (r9DivMod.f (k + 1) a0 a1 a2) := by
  intro a0 a1 a2 k
  obtain ⟨ih0, ih1⟩ := r9DivMod.mono_l k
  unfold r9DivMod.f
  repeat' first
      | (with_reducible exact ih0 _ _ _ _ _ _ _)
      | (with_reducible exact ih1 _ _ _ _ _ _ _ _ _)
      | (with_reducible exact r4Inverse.mono _ _ _)
      | (with_reducible exact r9Trim.mono _ _)
      | (with_reducible exact LeO.refl _)
      | (with_reducible exact LeO.none _)
      | (with_reducible refine LeO.ite ?_ ?_)
      | (with_reducible refine LeO.bind ?_ (fun _ => ?_))
      | exact ih0 _ _ _ _ _ _ _
      | exact ih1 _ _ _ _ _ _ _ _ _
      | exact r4Inverse.mono _ _ _
      | exact r9Trim.mono _ _
      | exact LeO.none _
      | refine LeO.ite ?_ ?_
      | refine LeO.bind ?_ (fun _ => ?_)
def r9Mod.f (k : Nat) (a0 : Int) (l1 : List Int) (l2 : List Int) : Option (List Int) := (r9DivMod.f k a0 l1 l2).bind fun bt101 => (some bt101.2)
theorem r9Mod.mono : ∀ a0 a1 a2 k, LeO (r9Mod.f k a0 a1 a2) (r9Mod.f (k + 1) a0 a1 a2) := by
  intro a0 a1 a2 k
  unfold r9Mod.f
  repeat' first
      | (with_reducible exact r9DivMod.mono _ _ _ _)
      | (with_reducible exact LeO.refl _)
      | (with_reducible exact LeO.none _)
      | (with_reducible refine LeO.ite ?_ ?_)
      | (with_reducible refine LeO.bind ?_ (fun _ => ?_))
      | exact r9DivMod.mono _ _ _ _
      | exact LeO.none _
      | refine LeO.ite ?_ ?_
      | refine LeO.bind ?_ (fun _ => ?_)
def r9MulMod.f (k : Nat) (a0 : Int) (l1 : List Int) (l2 : List Int) (l3 : List Int) : Option (List Int) := (r9Mul.f k a0 l1 l2).bind fun t101 => ((r9Mod.f k a0 t101 l3).bind fun t104 => (some t104))
theorem r9MulMod.mono : ∀ a0 a1 a2 a3 k, LeO (r9MulMod.f k a0 a1 a2 a3) (r9MulMod.f (k + 1) a0 a1 a2 a3) := by
  intro a0 a1 a2 a3 k
  unfold r9MulMod.f
  repeat' first
      | (with_reducible exact r9Mod.mono _ _ _ _)
      | (with_reducible exact r9Mul.mono _ _ _ _)
      | (with_reducible exact LeO.refl _)
      | (with_reducible exact LeO.none _)
      | (with_reducible refine LeO.ite ?_ ?_)
      | (with_reducible refine LeO.bind ?_ (fun _ => ?_))
      | exact r9Mod.mono _ _ _ _
      | exact r9Mul.mono _ _ _ _
      | exact LeO.none _
      | refine LeO.ite ?_ ?_
      | refine LeO.bind ?_ (fun _ => ?_)
mutual
def r9PowMod.l0 : Nat → Int → List Int → ByteArray → List Int → List Int → Int → Option (List Int)
  | 0, _, _, _, _, _, _ => none
  | k + 1, x0, x1, x2, x3, x9, x10 => if x10 < (x2.size : Int) then (r9PowMod.l1 k x0 x1 x2 x3 x9 x10 7) else (some x9)
def r9PowMod.l1 : Nat → Int → List Int → ByteArray → List Int → List Int → Int → Int → Option (List Int)
  | 0, _, _, _, _, _, _, _ => none
  | k + 1, x0, x1, x2, x3, x9, x10, x11 => if x11 ≥ 0 then ((r9MulMod.f k x0 x9 x9 x3).bind fun t110 => (if 0 ≤ x10 then (if x10 < (x2.size : Int) then (if 0 ≤ x11 then (if (Int.tmod (shr .u8 (bt x2 x10) x11) 2) = 1 then ((r9MulMod.f k x0 t110 x1 x3).bind fun t113 => (r9PowMod.l1 k x0 x1 x2 x3 t113 x10 (wrap64 (x11 - 1)))) else (r9PowMod.l1 k x0 x1 x2 x3 t110 x10 (wrap64 (x11 - 1)))) else (none)) else (none)) else (none))) else (r9PowMod.l0 k x0 x1 x2 x3 x9 (wrap64 (x10 + 1)))
end
def r9PowMod.f (k : Nat) (a0 : Int) (l1 : List Int) (a2 : ByteArray) (l3 : List Int) : Option (List Int) := (r9Mod.f k a0 (([1] : List Int)) l3).bind fun t104 => ((r9Mod.f k a0 l1 l3).bind fun t107 => (r9PowMod.l0 k a0 t107 a2 l3 t104 0))
theorem r9PowMod.mono_l : ∀ k, (∀ y0 y1 y2 y3 y4 y5, LeO (r9PowMod.l0 k y0 y1 y2 y3 y4 y5) (r9PowMod.l0 (k + 1) y0 y1 y2 y3 y4 y5)) ∧ (∀ y0 y1 y2 y3 y4 y5 y6, LeO (r9PowMod.l1 k y0 y1 y2 y3 y4 y5 y6) (r9PowMod.l1 (k + 1) y0 y1 y2 y3 y4 y5 y6))
  | 0 => ⟨fun _ _ _ _ _ _ r h => by simp [r9PowMod.l0] at h, fun _ _ _ _ _ _ _ r h => by simp [r9PowMod.l1] at h⟩
  | k + 1 => by
    obtain ⟨ih0, ih1⟩ := r9PowMod.mono_l k
    refine ⟨?_, ?_⟩
    · intro y0 y1 y2 y3 y4 y5
      unfold r9PowMod.l0
      repeat' first
      | (with_reducible exact ih0 _ _ _ _ _ _)
      | (with_reducible exact ih1 _ _ _ _ _ _ _)
      | (with_reducible exact r9Mod.mono _ _ _ _)
      | (with_reducible exact r9MulMod.mono _ _ _ _ _)
      | (with_reducible exact LeO.refl _)
      | (with_reducible exact LeO.none _)
      | (with_reducible refine LeO.ite ?_ ?_)
      | (with_reducible refine LeO.bind ?_ (fun _ => ?_))
      | exact ih0 _ _ _ _ _ _
      | exact ih1 _ _ _ _ _ _ _
      | exact r9Mod.mono _ _ _ _
      | exact r9MulMod.mono _ _ _ _ _
      | exact LeO.none _
      | refine LeO.ite ?_ ?_
      | refine LeO.bind ?_ (fun _ => ?_)
    · intro y0 y1 y2 y3 y4 y5 y6
      unfold r9PowMod.l1
      repeat' first
      | (with_reducible exact ih0 _ _ _ _ _ _)
      | (with_reducible exact ih1 _ _ _ _ _ _ _)
      | (with_reducible exact r9Mod.mono _ _ _ _)
      | (with_reducible exact r9MulMod.mono _ _ _ _ _)
      | (with_reducible exact LeO.refl _)
      | (with_reducible exact LeO.none _)
      | (with_reducible refine LeO.ite ?_ ?_)
      | (with_reducible refine LeO.bind ?_ (fun _ => ?_))
      | exact ih0 _ _ _ _ _ _
      | exact ih1 _ _ _ _ _ _ _
      | exact r9Mod.mono _ _ _ _
      | exact r9MulMod.mono _ _ _ _ _
      | exact LeO.none _
      | refine LeO.ite ?_ ?_
      | refine LeO.bind ?_ (fun _ => ?_)
theorem r9PowMod.mono : ∀ a0 a1 a2 a3 k, LeO (r9PowMod.f k a0 a1 a2 a3) (r9PowMod.f (k + 1) a0 a1 a2 a3) := by
  intro a0 a1 a2 a3 k
  obtain ⟨ih0, ih1⟩ := r9PowMod.mono_l k
  unfold r9PowMod.f
  repeat' first
      | (with_reducible exact ih0 _ _ _ _ _ _)
      | (with_reducible exact ih1 _ _ _ _ _ _ _)
      | (with_reducible exact r9Mod.mono _ _ _ _)
      | (with_reducible exact r9MulMod.mono _ _ _ _ _)
      | (with_reducible exact LeO.refl _)
      | (with_reducible exact LeO.none _)
      | (with_reducible refine LeO.ite ?_ ?_)
      | (with_reducible refine LeO.bind ?_ (fun _ => ?_))
      | exact ih0 _ _ _ _ _ _
      | exact ih1 _ _ _ _ _ _ _
      | exact r9Mod.mono _ _ _ _
      | exact r9MulMod.mono _ _ _ _ _
      | exact LeO.none _
      | refine LeO.ite ?_ ?_
      | refine LeO.bind ?_ (fun _ => ?_)
mutual
def fp_PowMod.l0 : Nat → Int → ByteArray → List Int → List Int → List Int → Int → Int → Option (List Int)
  | 0, _, _, _, _, _, _, _ => none
  | k + 1, x0, x2, x3, x9, x10, x22, x23 => if x23 < x22 then (fp_PowMod.l1 k x0 x2 x3 x9 x10 x23 7 x22 x23) else (some x9)
def fp_PowMod.l1 : Nat → Int → ByteArray → List Int → List Int → List Int → Int → Int → Int → Int → Option (List Int)
  | 0, _, _, _, _, _, _, _, _, _ => none
  | k + 1, x0, x2, x3, x9, x10, x11, x12, x22, x23 => if x12 ≥ 0 then ((fp_MulMod.f k x0 x9 x9 x3).bind fun t110 => (if 0 ≤ x11 then (if x11 < (x2.size : Int) then (if 0 ≤ x12 then (if (Go.bits .and .u8 (shr .u8 (bt x2 x11) x12) 1) = 1 then ((fp_MulMod.f k x0 t110 x10 x3).bind fun t113 => (fp_PowMod.l1 k x0 x2 x3 t113 x10 x11 (wrap64 (x12 - 1)) x22 x23)) else (fp_PowMod.l1 k x0 x2 x3 t110 x10 x11 (wrap64 (x12 - 1)) x22 x23)) else (none)) else (none)) else (none))) else (fp_PowMod.l0 k x0 x2 x3 x9 x10 x22 (wrap64 (x23 + 1)))
end
def fp_PowMod.f (k : Nat) (a0 : Int) (l1 : List Int) (a2 : ByteArray) (l3 : List Int) : Option (List Int) := (fp_Rem.f k a0 (([1] : List Int)) l3).bind fun t104 => ((fp_Rem.f k a0 l1 l3).bind fun t107 => (fp_PowMod.l0 k a0 a2 l3 t104 t107 (a2.size : Int) 0))
theorem fp_PowMod.mono_l : ∀ k, (∀ y0 y1 y2 y3 y4 y5 y6, LeO (fp_PowMod.l0 k y0 y1 y2 y3 y4 y5 y6) (fp_PowMod.l0 (k + 1) y0 y1 y2 y3 y4 y5 y6)) ∧ (∀ y0 y1 y2 y3 y4 y5 y6 y7 y8, LeO (fp_PowMod.l1 k y0 y1 y2 y3 y4 y5 y6 y7 y8) (fp_PowMod.l1 (k + 1) y0 y1 y2 y3 y4 y5 y6 y7 y8))
  | 0 => ⟨fun _ _ _ _ _ _ _ r h => by simp [fp_PowMod.l0] at h, fun _ _ _ _ _ _ _ _ _ r h => by simp [fp_PowMod.l1] at h⟩
  | k + 1 => by
    obtain ⟨ih0, ih1⟩ := fp_PowMod.mono_l k
    refine ⟨?_, ?_⟩
    · intro y0 y1 y2 y3 y4 y5 y6
      unfold fp_PowMod.l0
      repeat' first
      | (with_reducible exact ih0 _ _ _ _ _ _ _)
      | (with_reducible exact ih1 _ _ _ _ _ _ _ _ _)
      | (with_reducible exact fp_MulMod.mono _ _ _ _ _)
      | (with_reducible exact fp_Rem.mono _ _ _ _)
      | (with_reducible exact LeO.refl _)
      | (with_reducible exact LeO.none _)
      | (with_reducible refine LeO.ite ?_ ?_)
      | (with_reducible refine LeO.bind ?_ (fun _ => ?_))
      | exact ih0 _ _ _ _ _ _ _
      | exact ih1 _ _ _ _ _ _ _ _ _
      | exact fp_MulMod.mono _ _ _ _ _
      | exact fp_Rem.mono _ _ _ _
      | exact LeO.none _
      | refine LeO.ite ?_ ?_
      | refine LeO.bind ?_ (fun _ => ?_)
    · intro y0 y1 y2 y3 y4 y5 y6 y7 y8
      unfold fp_PowMod.l1
      repeat' first
      | (with_reducible exact ih0 _ _ _ _ _ _ _)
      | (with_reducible exact ih1 _ _ _ _ _ _ _ _ _)
      | (with_reducible exact fp_MulMod.mono _ _ _ _ _)
      | (with_reducible exact fp_Rem.mono _ _ _ _)
      | (with_reducible exact LeO.refl _)
      | (with_reducible exact LeO.none _)
      | (with_reducible refine LeO.ite ?_ ?_)
      | (with_reducible refine LeO.bind ?_ (fun _ => ?_))
      | exact ih0 _ _ _ _ _ _ _
      | exact ih1 _ _ _ _ _ _ _ _ _
      | exact fp_MulMod.mono _ _ _ _ _
      | exact fp_Rem.mono _ _ _ _
      | exact LeO.none _
      | refine LeO.ite ?_ ?_
      | refine LeO.bind ?_ (fun _ => ?_)
theorem fp_PowMod.mono : ∀ a0 a1 a2 a3 k, LeO (fp_PowMod.f k a0 a1 a2 a3) (fp_PowMod.f (k + 1) a0 a1 a2 a3) := by
  intro a0 a1 a2 a3 k
  obtain ⟨ih0, ih1⟩ := fp_PowMod.mono_l k
  unfold fp_PowMod.f
  repeat' first
      | (with_reducible exact ih0 _ _ _ _ _ _ _)
      | (with_reducible exact ih1 _ _ _ _ _ _ _ _ _)
      | (with_reducible exact fp_MulMod.mono _ _ _ _ _)
      | (with_reducible exact fp_Rem.mono _ _ _ _)
      | (with_reducible exact LeO.refl _)
      | (with_reducible exact LeO.none _)
      | (with_reducible refine LeO.ite ?_ ?_)
      | (with_reducible refine LeO.bind ?_ (fun _ => ?_))
      | exact ih0 _ _ _ _ _ _ _
      | exact ih1 _ _ _ _ _ _ _ _ _
      | exact fp_MulMod.mono _ _ _ _ _
      | exact fp_Rem.mono _ _ _ _
      | exact LeO.none _
      | refine LeO.ite ?_ ?_
      | refine LeO.bind ?_ (fun _ => ?_)
def r9Lead.f (l0 : List Int) : Option (Int) := if (l0.length : Int) = 0 then (some 0) else (if 0 ≤ (wrap64 ((l0.length : Int) - 1)) then (if (wrap64 ((l0.length : Int) - 1)) < (l0.length : Int) then (some (rd l0 (wrap64 ((l0.length : Int) - 1)))) else (none)) else (none))
def r9Monic.f (k : Nat) (a0 : Int) (l1 : List Int) : Option (List Int) := if (l1.length : Int) = 0 then (some ([] : List Int)) else ((r9Lead.f l1).bind fun t101 => ((r4Inverse.f k t101 a0).bind fun t102 => ((r9Scale.f k a0 l1 t102).bind fun t103 => (some t103))))
theorem r9Monic.mono : ∀ a0 a1 k, LeO (r9Monic.f k a0 a1) (r9Monic.f (k + 1) a0 a1) := by
  intro a0 a1 k
  unfold r9Monic.f
  repeat' first
      | (with_reducible exact r4Inverse.mono _ _ _)
      | (with_reducible exact r9Scale.mono _ _ _ _)
      | (with_reducible exact LeO.refl _)
      | (with_reducible exact LeO.none _)
      | (with_reducible refine LeO.ite ?_ ?_)
      | (with_reducible refine LeO.bind ?_ (fun _ => ?_))
      | exact r4Inverse.mono _ _ _
      | exact r9Scale.mono _ _ _ _
      | exact LeO.none _
      | refine LeO.ite ?_ ?_
      | refine LeO.bind ?_ (fun _ => ?_)
def r9Gcd.l0 : Nat → Int → List Int → List Int → Option (List Int)
  | 0, _, _, _ => none
  | k + 1, x0, x1, x2 => if (x2.length : Int) > 0 then ((r9Mod.f k x0 x1 x2).bind fun t101 => (r9Gcd.l0 k x0 x2 t101)) else ((r9Monic.f k x0 x1).bind fun t104 => (some t104))
def r9Gcd.f (k : Nat) (a0 : Int) (l1 : List Int) (l2 : List Int) : Option (List Int) := r9Gcd.l0 k a0 l1 l2
theorem r9Gcd.mono_l : ∀ k, (∀ y0 y1 y2, LeO (r9Gcd.l0 k y0 y1 y2) (r9Gcd.l0 (k + 1) y0 y1 y2))
  | 0 => fun _ _ _ r h => by simp [r9Gcd.l0] at h
  | k + 1 => by
    have ih0 := r9Gcd.mono_l k
    · intro y0 y1 y2
      unfold r9Gcd.l0
      repeat' first
      | (with_reducible exact ih0 _ _ _)
      | (with_reducible exact r9Mod.mono _ _ _ _)
      | (with_reducible exact r9Monic.mono _ _ _)
      | (with_reducible exact LeO.refl _)
      | (with_reducible exact LeO.none _)
      | (with_reducible refine LeO.ite ?_ ?_)
      | (with_reducible refine LeO.bind ?_ (fun _ => ?_))
      | exact ih0 _ _ _
      | exact r9Mod.mono _ _ _ _
      | exact r9Monic.mono _ _ _
      | exact LeO.none _
      | refine LeO.ite ?_ ?_
      | refine LeO.bind ?_ (fun _ => ?_)
theorem r9Gcd.mono : ∀ a0 a1 a2 k, LeO (r9Gcd.f k a0 a1 a2) (r9Gcd.f (k + 1) a0 a1 a2) := by
  intro a0 a1 a2 k
  have ih0 := r9Gcd.mono_l k
  unfold r9Gcd.f
  repeat' first
      | (with_reducible exact ih0 _ _ _)
      | (with_reducible exact r9Mod.mono _ _ _ _)
      | (with_reducible exact r9Monic.mono _ _ _)
      | (with_reducible exact LeO.refl _)
      | (with_reducible exact LeO.none _)
      | (with_reducible refine LeO.ite ?_ ?_)
      | (with_reducible refine LeO.bind ?_ (fun _ => ?_))
      | exact ih0 _ _ _
      | exact r9Mod.mono _ _ _ _
      | exact r9Monic.mono _ _ _
      | exact LeO.none _
      | refine LeO.ite ?_ ?_
      | refine LeO.bind ?_ (fun _ => ?_)
mutual
def r1pack.l0 : Nat → List Int → List Int → Int → Option (ByteArray)
  | 0, _, _, _ => none
  | k + 1, x0, x3, x4 => if x4 ≥ 0 then (r1pack.l1 k x0 x3 x4 24) else (some (strOfNums x3))
def r1pack.l1 : Nat → List Int → List Int → Int → Int → Option (ByteArray)
  | 0, _, _, _, _ => none
  | k + 1, x0, x3, x4, x5 => if x5 ≥ 0 then (if 0 ≤ x4 then (if x4 < (x0.length : Int) then (if 0 ≤ x5 then (if (x3.length : Int) > 0 then (if x3.length < 140737488355328 then (r1pack.l1 k x0 (x3 ++ [(shr .u64 (rd x0 x4) x5) % 256]) x4 (wrap64 (x5 - 8))) else (none)) else (if ((shr .u64 (rd x0 x4) x5) % 256) > 0 then (if x3.length < 140737488355328 then (r1pack.l1 k x0 (x3 ++ [(shr .u64 (rd x0 x4) x5) % 256]) x4 (wrap64 (x5 - 8))) else (none)) else (r1pack.l1 k x0 x3 x4 (wrap64 (x5 - 8))))) else (none)) else (none)) else (none)) else (r1pack.l0 k x0 x3 (wrap64 (x4 - 1)))
end
def r1pack.f (k : Nat) (l0 : List Int) : Option (ByteArray) := r1pack.l0 k l0 ([] : List Int) (wrap64 ((l0.length : Int) - 1))
theorem r1pack.mono_l : ∀ k, (∀ y0 y1 y2, LeO (r1pack.l0 k y0 y1 y2) (r1pack.l0 (k + 1) y0 y1 y2)) ∧ (∀ y0 y1 y2 y3, LeO (r1pack.l1 k y0 y1 y2 y3) (r1pack.l1 (k + 1) y0 y1 y2 y3))
  | 0 => ⟨fun _ _ _ r h => by simp [r1pack.l0] at h, fun _ _ _ _ r h => by simp [r1pack.l1] at h⟩
  | k + 1 => by
    obtain ⟨ih0, ih1⟩ := r1pack.mono_l k
    refine ⟨?_, ?_⟩
    · intro y0 y1 y2
      unfold r1pack.l0
      repeat' first
      | (with_reducible exact ih0 _ _ _)
      | (with_reducible exact ih1 _ _ _ _)
      | (with_reducible exact LeO.refl _)
      | (with_reducible exact LeO.none _)
      | (with_reducible refine LeO.ite ?_ ?_)
      | (with_reducible refine LeO.bind ?_ (fun _ => ?_))
      | exact ih0 _ _ _
      | exact ih1 _ _ _ _
      | exact LeO.none _
      | refine LeO.ite ?_ ?_
      | refine LeO.bind ?_ (fun _ => ?_)
    · intro y0 y1 y2 y3
      unfold r1pack.l1
      repeat' first
      | (with_reducible exact ih0 _ _ _)
      | (with_reducible exact ih1 _ _ _ _)
      | (with_reducible exact LeO.refl _)
      | (with_reducible exact LeO.none _)
      | (with_reducible refine LeO.ite ?_ ?_)
      | (with_reducible refine LeO.bind ?_ (fun _ => ?_))
      | exact ih0 _ _ _
      | exact ih1 _ _ _ _
      | exact LeO.none _
      | refine LeO.ite ?_ ?_
      | refine LeO.bind ?_ (fun _ => ?_)
theorem r1pack.mono : ∀ a0 k, LeO (r1pack.f k a0) (r1pack.f (k + 1) a0) := by
  intro a0 k
  obtain ⟨ih0, ih1⟩ := r1pack.mono_l k
  unfold r1pack.f
  repeat' first
      | (with_reducible exact ih0 _ _ _)
      | (with_reducible exact ih1 _ _ _ _)
      | (with_reducible exact LeO.refl _)
      | (with_reducible exact LeO.none _)
      | (with_reducible refine LeO.ite ?_ ?_)
      | (with_reducible refine LeO.bind ?_ (fun _ => ?_))
      | exact ih0 _ _ _
      | exact ih1 _ _ _ _
      | exact LeO.none _
      | refine LeO.ite ?_ ?_
      | refine LeO.bind ?_ (fun _ => ?_)
def fp_Power.f (k : Nat) (a0 : Int) (l1 : List Int) (l2 : List Int) : Option (List Int) := (fp_PowMod.f k a0 l1 (strOfNums (([(a0 / 256) % 256, (a0) % 256] : List Int))) l2).bind fun t104 => (some t104)
theorem fp_Power.mono : ∀ a0 a1 a2 k, LeO (fp_Power.f k a0 a1 a2) (fp_Power.f (k + 1) a0 a1 a2) := by
  intro a0 a1 a2 k
  unfold fp_Power.f
  repeat' first
      | (with_reducible exact fp_PowMod.mono _ _ _ _ _)
      | (with_reducible exact LeO.refl _)
      | (with_reducible exact LeO.none _)
      | (with_reducible refine LeO.ite ?_ ?_)
      | (with_reducible refine LeO.bind ?_ (fun _ => ?_))
      | exact fp_PowMod.mono _ _ _ _ _
      | exact LeO.none _
      | refine LeO.ite ?_ ?_
      | refine LeO.bind ?_ (fun _ => ?_)
def fp_Monic.f (k : Nat) (a0 : Int) (l1 : List Int) : Option (List Int) := if (l1.length : Int) = 0 then (some ([] : List Int)) else (if 0 ≤ (wrap64 ((l1.length : Int) - 1)) then (if (wrap64 ((l1.length : Int) - 1)) < (l1.length : Int) then ((fp_Inv.f k a0 (rd l1 (wrap64 ((l1.length : Int) - 1)))).bind fun t102 => ((fp_Scale.f k a0 l1 t102).bind fun t103 => (some t103))) else (none)) else (none))
theorem fp_Monic.mono : ∀ a0 a1 k, LeO (fp_Monic.f k a0 a1) (fp_Monic.f (k + 1) a0 a1) := by
  intro a0 a1 k
  unfold fp_Monic.f
  repeat' first
      | (with_reducible exact fp_Inv.mono _ _ _)
      | (with_reducible exact fp_Scale.mono _ _ _ _)
      | (with_reducible exact LeO.refl _)
      | (with_reducible exact LeO.none _)
      | (with_reducible refine LeO.ite ?_ ?_)
      | (with_reducible refine LeO.bind ?_ (fun _ => ?_))
      | exact fp_Inv.mono _ _ _
      | exact fp_Scale.mono _ _ _ _
      | exact LeO.none _
      | refine LeO.ite ?_ ?_
      | refine LeO.bind ?_ (fun _ => ?_)
def fp_Gcd.l0 : Nat → Int → List Int → List Int → Option (List Int)
  | 0, _, _, _ => none
  | k + 1, x0, x1, x2 => if (x2.length : Int) > 0 then ((fp_Rem.f k x0 x1 x2).bind fun t101 => (fp_Gcd.l0 k x0 x2 t101)) else ((fp_Monic.f k x0 x1).bind fun t104 => (some t104))
def fp_Gcd.f (k : Nat) (a0 : Int) (l1 : List Int) (l2 : List Int) : Option (List Int) := fp_Gcd.l0 k a0 l1 l2
theorem fp_Gcd.mono_l : ∀ k, (∀ y0 y1 y2, LeO (fp_Gcd.l0 k y0 y1 y2) (fp_Gcd.l0 (k + 1) y0 y1 y2))
  | 0 => fun _ _ _ r h => by simp [fp_Gcd.l0] at h
  | k + 1 => by
    have ih0 := fp_Gcd.mono_l k
    · intro y0 y1 y2
      unfold fp_Gcd.l0
      repeat' first
      | (with_reducible exact ih0 _ _ _)
      | (with_reducible exact fp_Monic.mono _ _ _)
      | (with_reducible exact fp_Rem.mono _ _ _ _)
      | (with_reducible exact LeO.refl _)
      | (with_reducible exact LeO.none _)
      | (with_reducible refine LeO.ite ?_ ?_)
      | (with_reducible refine LeO.bind ?_ (fun _ => ?_))
      | exact ih0 _ _ _
      | exact fp_Monic.mono _ _ _
      | exact fp_Rem.mono _ _ _ _
      | exact LeO.none _
      | refine LeO.ite ?_ ?_
      | refine LeO.bind ?_ (fun _ => ?_)
theorem fp_Gcd.mono : ∀ a0 a1 a2 k, LeO (fp_Gcd.f k a0 a1 a2) (fp_Gcd.f (k + 1) a0 a1 a2) := by
  intro a0 a1 a2 k
  have ih0 := fp_Gcd.mono_l k
  unfold fp_Gcd.f
  repeat' first
      | (with_reducible exact ih0 _ _ _)
      | (with_reducible exact fp_Monic.mono _ _ _)
      | (with_reducible exact fp_Rem.mono _ _ _ _)
      | (with_reducible exact LeO.refl _)
      | (with_reducible exact LeO.none _)
      | (with_reducible refine LeO.ite ?_ ?_)
      | (with_reducible refine LeO.bind ?_ (fun _ => ?_))
      | exact ih0 _ _ _
      | exact fp_Monic.mono _ _ _
      | exact fp_Rem.mono _ _ _ _
      | exact LeO.none _
      | refine LeO.ite ?_ ?_
      | refine LeO.bind ?_ (fun _ => ?_)
def fp_Irreducible.l0 : Nat → Int → List Int → Int → List Int → List Int → Int → Option (Bool)
  | 0, _, _, _, _, _, _ => none
  | k + 1, x0, x1, x5, x6, x7, x8 => if x8 ≤ x5 then ((fp_Power.f k x0 x7 x1).bind fun t107 => ((fp_Rem.f k x0 x6 x1).bind fun t110 => ((fp_Sub.f k x0 t107 t110).bind fun t113 => (if x8 = x5 then (some ((t113.length : Int) == 0)) else (if x8 = 0 then (none) else (if (Int.tmod x5 x8) = 0 then ((fp_Gcd.f k x0 t113 x1).bind fun t116 => (if (t116.length : Int) = 1 then (fp_Irreducible.l0 k x0 x1 x5 x6 t107 (wrap64 (x8 + 1))) else (some false))) else (fp_Irreducible.l0 k x0 x1 x5 x6 t107 (wrap64 (x8 + 1))))))))) else (some false)
def fp_Irreducible.f (k : Nat) (a0 : Int) (l1 : List Int) : Option (Bool) := if (wrap64 ((l1.length : Int) - 1)) < 1 then (some false) else ((some (([0, 1] : List Int) : List Int)).bind fun y101 => ((fp_Rem.f k a0 y101 l1).bind fun t104 => (fp_Irreducible.l0 k a0 l1 (wrap64 ((l1.length : Int) - 1)) y101 t104 1)))
theorem fp_Irreducible.mono_l : ∀ k, (∀ y0 y1 y2 y3 y4 y5, LeO (fp_Irreducible.l0 k y0 y1 y2 y3 y4 y5) (fp_Irreducible.l0 (k + 1) y0 y1 y2 y3 y4 y5))
  | 0 => fun _ _ _ _ _ _ r h => by simp [fp_Irreducible.l0] at h
  | k + 1 => by
    have ih0 := fp_Irreducible.mono_l k
    · intro y0 y1 y2 y3 y4 y5
      unfold fp_Irreducible.l0
      repeat' first
      | (with_reducible exact ih0 _ _ _ _ _ _)
      | (with_reducible exact fp_Gcd.mono _ _ _ _)
      | (with_reducible exact fp_Power.mono _ _ _ _)
      | (with_reducible exact fp_Rem.mono _ _ _ _)
      | (with_reducible exact fp_Sub.mono _ _ _ _)
      | (with_reducible exact LeO.refl _)
      | (with_reducible exact LeO.none _)
      | (with_reducible refine LeO.ite ?_ ?_)
      | (with_reducible refine LeO.bind ?_ (fun _ => ?_))
      | exact ih0 _ _ _ _ _ _
      | exact fp_Gcd.mono _ _ _ _
      | exact fp_Power.mono _ _ _ _
      | exact fp_Rem.mono _ _ _ _
      | exact fp_Sub.mono _ _ _ _
      | exact LeO.none _
      | refine LeO.ite ?_ ?_
      | refine LeO.bind ?_ (fun _ => ?_)
theorem fp_Irreducible.mono : ∀ a0 a1 k, LeO (fp_Irreducible.f k a0 a1) (fp_Irreducible.f (k + 1) a0 a1) := by
  intro a0 a1 k
  have ih0 := fp_Irreducible.mono_l k
  unfold fp_Irreducible.f
  repeat' first
      | (with_reducible exact ih0 _ _ _ _ _ _)
      | (with_reducible exact fp_Gcd.mono _ _ _ _)
      | (with_reducible exact fp_Power.mono _ _ _ _)
      | (with_reducible exact fp_Rem.mono _ _ _ _)
      | (with_reducible exact fp_Sub.mono _ _ _ _)
      | (with_reducible exact LeO.refl _)
      | (with_reducible exact LeO.none _)
      | (with_reducible refine LeO.ite ?_ ?_)
      | (with_reducible refine LeO.bind ?_ (fun _ => ?_))
      | exact ih0 _ _ _ _ _ _
      | exact fp_Gcd.mono _ _ _ _
      | exact fp_Power.mono _ _ _ _
      | exact fp_Rem.mono _ _ _ _
      | exact fp_Sub.mono _ _ _ _
      | exact LeO.none _
      | refine LeO.ite ?_ ?_
      | refine LeO.bind ?_ (fun _ => ?_)
def r1Of.f (k : Nat) (a0 : Int) : Option (ByteArray) := (r1pack.f k (([Go.bits .and .u64 a0 4294967295, a0 / 4294967296] : List Int))).bind fun t104 => (some t104)
theorem r1Of.mono : ∀ a0 k, LeO (r1Of.f k a0) (r1Of.f (k + 1) a0) := by
  intro a0 k
  unfold r1Of.f
  repeat' first
      | (with_reducible exact r1pack.mono _ _)
      | (with_reducible exact LeO.refl _)
      | (with_reducible exact LeO.none _)
      | (with_reducible refine LeO.ite ?_ ?_)
      | (with_reducible refine LeO.bind ?_ (fun _ => ?_))
      | exact r1pack.mono _ _
      | exact LeO.none _
      | refine LeO.ite ?_ ?_
      | refine LeO.bind ?_ (fun _ => ?_)
def r1FromInt.f (k : Nat) (a0 : Int) : Option (ByteArray) := (r1Of.f k (IntKind.u64.wrap (a0))).bind fun t101 => (some t101)
theorem r1FromInt.mono : ∀ a0 k, LeO (r1FromInt.f k a0) (r1FromInt.f (k + 1) a0) := by
  intro a0 k
  unfold r1FromInt.f
  repeat' first
      | (with_reducible exact r1Of.mono _ _)
      | (with_reducible exact LeO.refl _)
      | (with_reducible exact LeO.none _)
      | (with_reducible refine LeO.ite ?_ ?_)
      | (with_reducible refine LeO.bind ?_ (fun _ => ?_))
      | exact r1Of.mono _ _
      | exact LeO.none _
      | refine LeO.ite ?_ ?_
      | refine LeO.bind ?_ (fun _ => ?_)
def r9X.f  : Option (List Int) := some (([0, 1] : List Int))
def r9IsIrreducible.l0 : Nat → Int → List Int → List Int → Int → Option (Bool)
  | 0, _, _, _, _ => none
  | k + 1, x0, x1, x5, x6 => if (wrap64 (2 * x6)) ≤ (wrap64 ((x1.length : Int) - 1)) then ((r1FromInt.f k x0).bind fun t107 => ((r9PowMod.f k x0 x5 t107 x1).bind fun t108 => ((r9X.f).bind fun t111 => ((r9Sub.f k x0 t108 t111).bind fun t114 => ((r9Gcd.f k x0 t114 x1).bind fun t117 => (if (t117.length : Int) = 1 then (r9IsIrreducible.l0 k x0 x1 t108 (wrap64 (x6 + 1))) else (some false))))))) else (some true)
def r9IsIrreducible.f (k : Nat) (a0 : Int) (l1 : List Int) : Option (Bool) := if (l1.length : Int) < 2 then (some false) else ((r9X.f).bind fun t101 => ((r9Mod.f k a0 t101 l1).bind fun t104 => (r9IsIrreducible.l0 k a0 l1 t104 1)))
theorem r9IsIrreducible.mono_l : ∀ k, (∀ y0 y1 y2 y3, LeO (r9IsIrreducible.l0 k y0 y1 y2 y3) (r9IsIrreducible.l0 (k + 1) y0 y1 y2 y3))
  | 0 => fun _ _ _ _ r h => by simp [r9IsIrreducible.l0] at h
  | k + 1 => by
    have ih0 := r9IsIrreducible.mono_l k
    · intro y0 y1 y2 y3
      unfold r9IsIrreducible.l0
      repeat' first
      | (with_reducible exact ih0 _ _ _ _)
      | (with_reducible exact r1FromInt.mono _ _)
      | (with_reducible exact r9Gcd.mono _ _ _ _)
      | (with_reducible exact r9Mod.mono _ _ _ _)
      | (with_reducible exact r9PowMod.mono _ _ _ _ _)
      | (with_reducible exact r9Sub.mono _ _ _ _)
      | (with_reducible exact LeO.refl _)
      | (with_reducible exact LeO.none _)
      | (with_reducible refine LeO.ite ?_ ?_)
      | (with_reducible refine LeO.bind ?_ (fun _ => ?_))
      | exact ih0 _ _ _ _
      | exact r1FromInt.mono _ _
      | exact r9Gcd.mono _ _ _ _
      | exact r9Mod.mono _ _ _ _
      | exact r9PowMod.mono _ _ _ _ _
      | exact r9Sub.mono _ _ _ _
      | exact LeO.none _
      | refine LeO.ite ?_ ?_
      | refine LeO.bind ?_ (fun _ => ?_)
theorem r9IsIrreducible.mono : ∀ a0 a1 k, LeO (r9IsIrreducible.f k a0 a1) (r9IsIrreducible.f (k + 1) a0 a1) := by
  intro a0 a1 k
  have ih0 := r9IsIrreducible.mono_l k
  unfold r9IsIrreducible.f
  repeat' first
      | (with_reducible exact ih0 _ _ _ _)
      | (with_reducible exact r1FromInt.mono _ _)
      | (with_reducible exact r9Gcd.mono _ _ _ _)
      | (with_reducible exact r9Mod.mono _ _ _ _)
      | (with_reducible exact r9PowMod.mono _ _ _ _ _)
      | (with_reducible exact r9Sub.mono _ _ _ _)
      | (with_reducible exact LeO.refl _)
      | (with_reducible exact LeO.none _)
      | (with_reducible refine LeO.ite ?_ ?_)
      | (with_reducible refine LeO.bind ?_ (fun _ => ?_))
      | exact ih0 _ _ _ _
      | exact r1FromInt.mono _ _
      | exact r9Gcd.mono _ _ _ _
      | exact r9Mod.mono _ _ _ _
      | exact r9PowMod.mono _ _ _ _ _
      | exact r9Sub.mono _ _ _ _
      | exact LeO.none _
      | refine LeO.ite ?_ ?_
      | refine LeO.bind ?_ (fun _ => ?_)
def badP (n : Int) : Bool := decide (n < 1) || decide (2147483647 < n)
def rs_bad.f (a0 : List Int) : Option Bool := some (a0.any badP)
end Go.Proofs.YtillaipaanancaaGreat.Q
end
section
namespace Go.Proofs.YtillaipaanancaaGreat.Q
open Go.RowKit Go.Proofs.YtillaipaanancaaGreatW.PrintWords Go.Proofs.YtillaipaanancaaGreatW.PrintLast Go.Proofs.YtillaipaanancaaGreatW.PrintMore
attribute [local go_sem] max2_int min2_int max_two min_two max_three min_three max_four min_four   -- for this text's walks alone
set_option linter.unusedVariables false
set_option linter.unusedSimpArgs false
def TInv (w0 w : World) (Bn Bo : Nat) (n : Int) (xs : List S134) : Prop :=
  w0.heap.size ≤ Bn ∧ w0.heap.size ≤ Bo ∧ w.heap[Bn]? = some (.cells #[.int .i64 n] 3 (0, 0)) ∧ (∃ v, w.heap[Bo]? = some (.cells #[v] 130 (0, 0)) ∧ Kd.R k134 134 w w0.heap.size (fun _ => True) v xs) ∧ Below w0.heap.size w0 w
theorem TInv.drewN {w0 w : World} {Bn Bo : Nat} {n : Int} {xs : List S134} (h : TInv w0 w Bn Bo n xs) (m : Nat) : TInv w0 (w.drewN m) Bn Bo n xs := by
  obtain ⟨h1, h2, h3, ⟨v, h4, h5⟩, h6⟩ := h
  exact ⟨h1, h2, h3, ⟨v, h4, Kd.R_drewN h5 m⟩, pw_below_drewN h6 m⟩
theorem TInv.ne {w0 w : World} {Bn Bo : Nat} {n : Int} {xs : List S134} (h : TInv w0 w Bn Bo n xs) : Bo ≠ Bn := by
  obtain ⟨h1, h2, h3, ⟨v, h4, h5⟩, h6⟩ := h
  rintro rfl
  rw [h3] at h4
  injection h4 with h4
  injection h4 with _ h4
  exact absurd h4 (by decide)
theorem TInv.setN {w0 w : World} {Bn Bo : Nat} {n : Int} {xs : List S134} (h : TInv w0 w Bn Bo n xs) (m : Int) : TInv w0 (w.setCell ⟨Bn, 0, none⟩ (.int .i64 m)) Bn Bo m xs := by
  have hne := h.ne
  obtain ⟨h1, h2, h3, ⟨v, h4, h5⟩, h6⟩ := h
  exact ⟨h1, h2, one_setCell h3, ⟨v, by rw [Below.heap_setCell _ _ _ _ hne]; exact h4, Kd.R_set h5 h3 (by intro q hq; simp [k134, Kd.iso, Kd.pair, Kd.int, Kd.scalar] at hq; omega) 0 _⟩, h6.setCell h1 _⟩
theorem TInv.append {w0 w w1 : World} {Bn Bo : Nat} {n : Int} {xs ys : List S134} {v v1 : Value} (h1 : w0.heap.size ≤ Bn) (h2 : w0.heap.size ≤ Bo) (h3 : w.heap[Bn]? = some (.cells #[.int .i64 n] 3 (0, 0))) (h4 : w.heap[Bo]? = some (.cells #[v] 130 (0, 0))) (h5 : Kd.R k134 134 w w0.heap.size (fun _ => True) v xs)
    (ho : Kd.R k134 134 w1 w0.heap.size (fun _ => True) v1 ys) (hb : Below w0.heap.size w0 w1) (hg : w.grownBy w1 v.ownBlock) :
    w1.heap[Bo]? = some (.cells #[v] 130 (0, 0)) ∧ TInv w0 (w1.setCell ⟨Bo, 0, none⟩ v1) Bn Bo n ys := by
  have hne : Bo ≠ Bn := by
    rintro rfl
    rw [h3] at h4
    injection h4 with h4
    injection h4 with _ h4
    exact absurd h4 (by decide)
  have e1 : w1.heap[Bn]? = some (.cells #[.int .i64 n] 3 (0, 0)) := (hg.block Bn (lt_of_block h3) (Kd.R_ne h5 h3 (by decide))).trans h3
  have e2 : w1.heap[Bo]? = some (.cells #[v] 130 (0, 0)) := (hg.block Bo (lt_of_block h4) (Kd.R_ne h5 h4 (by decide))).trans h4
  exact ⟨e2, h1, h2, by rw [Below.heap_setCell _ _ _ _ (fun e => hne e.symm)]; exact e1, ⟨v1, one_setCell e2, Kd.R_set ho e2 (by intro q hq; simp [k134, Kd.iso, Kd.pair, Kd.int, Kd.scalar] at hq; omega) 0 _⟩, hb.setCell h2 _⟩
def tryL : Nat → Int → Int → Int → Option (Int × Int)
  | 0, _, _, _ => none
  | k + 1, d, n, c => if d = 0 then none else if Int.tmod n d = 0 then tryL k d (wrap64 (Int.tdiv n d)) (wrap64 (c + 1)) else some (n, c)
def tryF (k : Nat) (d n : Int) (xs : List S134) : Option (Int × List S134) := (tryL k d n 0).bind fun r => if r.2 > 0 then (if xs.length < 8796093022208 then some (r.1, xs ++ [⟨d, r.2⟩]) else none) else some (r.1, xs)
set_option maxHeartbeats 8000000 in
set_option maxRecDepth 100000 in
theorem try_calls (k : Nat) (d n n' : Int) (xs xs' : List S134) (Bn Bo : Nat) (w0 w : World) (hI : TInv w0 w Bn Bo n xs) (h : tryF k d n xs = some (n', xs')) :
    Calls Tryz.prog 176 #[.int .i64 d, .pointer (some ⟨Bn, 0, none⟩), .pointer (some ⟨Bo, 0, none⟩)] w fun e w' => e = .returned (.tuple #[]) ∧ TInv w0 w' Bn Bo n' xs' := by
  have hu134 := Tryz.underlying134
  obtain ⟨⟨m, cnt⟩, hL, hE⟩ := Option.bind_eq_some_iff.mp h
  clear h
  have HL := Aside0.mk hL
  have HE := Aside0.mk hE
  have HI := Aside0.mk hI
  clear hL hE hI
  go_enter Tryz.func176, Tryz.ntmps176
  go_wp2
  repeat (go_quiet (fail); try go_wp2)
  go_loopg [4] k (fun kq v4 w' => ∃ (c n1 : Int), v4 = .int .i64 c ∧ Aside0 (tryL kq d n1 c = some (m, cnt)) ∧ Aside0 (TInv w0 w' Bn Bo n1 xs))
  case atStart => exact ⟨0, n, (by first | rfl | (simp; done) | (simp [*]; done)), HL, ⟨by (with_reducible repeat (first | exact HI.out | apply TInv.drewN))⟩⟩
  case round =>
    clear HL HI
    obtain ⟨c, n1, rfl, HA, HI⟩ := hrel
    cases gk with
    | zero => exact absurd HA.out (by simp [tryL])
    | succ k1 =>
      have H := HA.out
      clear HA
      simp only [tryL] at H
      have hcell := cell_of_one HI.out.2.2.1
      have hfree := free_of_one HI.out.2.2.1
      by_cases c1 : d = 0
      · rw [if_pos c1] at H; cases H
      · rw [if_neg c1] at H
        have c1b0 : (d == 0) = false := beq_eq_false_iff_ne.mpr c1
        have c1b1 : (d != 0) = true := bne_iff_ne.mpr c1
        by_cases c2 : Int.tmod n1 d = 0
        · rw [if_pos c2] at H
          have c2b0 : (Int.tmod n1 d == 0) = true := beq_iff_eq.mpr c2
          have c2b1 : (Int.tmod n1 d != 0) = false := bne_eq_false_iff_eq.mpr c2
          clear c2
          have H' := Aside0.mk H
          clear H
          go_wp2
          repeat (go_quiet (fail); try go_wp2)
          go_roundg k1
          case measure => omega
          case rel => exact ⟨(wrap64 (c + 1)), (wrap64 (Int.tdiv n1 d)), (by first | rfl | (simp; done) | (simp [*]; done)), H', ⟨by (with_reducible repeat (first | exact HI.out | apply TInv.drewN | apply TInv.setN))⟩⟩
        · rw [if_neg c2] at H
          have c2b0 : (Int.tmod n1 d == 0) = false := beq_eq_false_iff_ne.mpr c2
          have c2b1 : (Int.tmod n1 d != 0) = true := bne_iff_ne.mpr c2
          clear c2
          obtain ⟨rfl, rfl⟩ : n1 = m ∧ c = cnt := by injection H with H; injection H with H1 H2; exact ⟨H1, H2⟩
          clear H
          have HE2 := HE.out
          clear HE
          obtain ⟨h1, h2, h3, ⟨v, h4, h5⟩, h6⟩ := HI.out
          have hcell2 := cell_of_one h4
          have hfree2 := free_of_one h4
          have hso := h6.size
          by_cases c3 : c > 0
          · rw [if_pos c3] at HE2
            have c3b0 : decide (0 < c) = true := decide_eq_true c3
            clear c3
            by_cases c4 : xs.length < 8796093022208
            · rw [if_pos c4] at HE2
              obtain ⟨rfl, rfl⟩ : n1 = n' ∧ xs ++ [⟨d, c⟩] = xs' := by injection HE2 with H; injection H with H1 H2; exact ⟨H1, H2⟩
              clear HE2
              have LM := Aside0.mk c4
              have H3 := Aside0.mk h3
              have H4 := Aside0.mk h4
              have H5 := Aside0.mk h5
              have H6 := Aside0.mk h6
              have H1 := Aside0.mk h1
              have H2 := Aside0.mk h2
              clear c4 h3 h4 h5 h6 h1 h2 HI hso
              go_wp2_with (first | ((with_reducible refine gate_builtin (b := .append) (xs := #[.tmp 16, .tmp 20]) rfl ?_); at_builtin; refine Kd.R_append k134 (w0 := w0) w0.heap.size rfl (.tmp 16) (.tmp 20) 130 134 (.agg #[(.int .i64 0), (.int .i64 0)]) 16 rfl Tryz.underlying130 info134 rfl (by decide) (by omega) v xs (⟨d, c⟩ : S134) [.int .i64 d, .int .i64 c] (fun _ => True) (fun _ => False) rfl rfl ?aP (fun _ hk => hk.elim) ?aF ?aO ?aB ?aS ?aL ?_; (case aP => exact k134_mkM _ _ _ (⟨d, c⟩ : S134)); (case aB => exact H6.out); (case aF => exact (fun _ _ => trivial)); (case aO => exact H5.out); (case aS => exact H6.out.size); (case aL => have := LM.out; omega); intro v255 w9 ho hb hg hat; obtain ⟨A1, cc1, rfl⟩ := Kd.R_slice ho; obtain ⟨he2, hT⟩ := TInv.append H1.out H2.out H3.out H4.out H5.out ho hb hg; have HT := Aside0.mk hT; clear hT ho hb hg hat; have hcell9 := cell_of_one he2; have hfree9 := free_of_one he2; clear he2))
              go_end0
              have HT2 := HT.out
              rw [List.length_append, List.length_singleton] at HT2
              exact ⟨rfl, HT2⟩
            · rw [if_neg c4] at HE2; cases HE2
          · rw [if_neg c3] at HE2
            have c3b0 : decide (0 < c) = false := decide_eq_false c3
            obtain ⟨rfl, rfl⟩ : n1 = n' ∧ xs = xs' := by injection HE2 with H; injection H with H1 H2; exact ⟨H1, H2⟩
            clear HE2
            clear c3 h1 h2 h3 h4 h5 h6
            go_wp2
            repeat (go_quiet (fail); try go_wp2)
            go_end0
            exact ⟨rfl, by (with_reducible repeat (first | exact HI.out | apply TInv.drewN))⟩
def rs_factor.l0 (kk : Nat) : Nat → Int → List S134 → Int → Option (List S134)
  | 0, _, _, _ => none
  | k + 1, n, xs, d => if wrap64 (d * d) ≤ n then (tryF kk d n xs).bind fun r => rs_factor.l0 kk k r.1 r.2 (wrap64 (d + 2)) else if n > 1 then (tryF kk n n xs).bind fun r => some r.2 else some xs
def rs_factor.f (k : Nat) (a0 : Int) : Option (List S134) := (tryF k 2 a0 []).bind fun r => rs_factor.l0 k k r.1 r.2 3
theorem tryL_mono : ∀ k d n c, LeO (tryL k d n c) (tryL (k + 1) d n c)
  | 0 => fun _ _ _ r h => by simp [tryL] at h
  | k + 1 => by
    intro d n c
    have ih0 := tryL_mono k
    unfold tryL
    repeat' first
      | (with_reducible exact ih0 _ _ _)
      | (with_reducible exact LeO.refl _)
      | (with_reducible refine LeO.ite ?_ ?_)
theorem tryF_mono (k : Nat) (d n : Int) (xs : List S134) : LeO (tryF k d n xs) (tryF (k + 1) d n xs) := LeO.bind (tryL_mono k d n 0) (fun _ => LeO.refl _)
theorem rs_factor.mono_l (kk : Nat) : ∀ k n xs d, LeO (rs_factor.l0 kk k n xs d) (rs_factor.l0 (kk + 1) (k + 1) n xs d)
  | 0 => fun _ _ _ r h => by simp [rs_factor.l0] at h
  | k + 1 => by
    intro n xs d
    have ih0 := rs_factor.mono_l kk k
    have ih1 := tryF_mono kk
    unfold rs_factor.l0
    repeat' first
      | (with_reducible exact ih0 _ _ _)
      | (with_reducible exact ih1 _ _ _)
      | (with_reducible exact LeO.refl _)
      | (with_reducible refine LeO.ite ?_ ?_)
      | (with_reducible refine LeO.bind ?_ (fun _ => ?_))
theorem rs_factor.mono (a0 : Int) (k : Nat) : LeO (rs_factor.f k a0) (rs_factor.f (k + 1) a0) := LeO.bind (tryF_mono k 2 a0 []) (fun _ => rs_factor.mono_l k k _ _ _)
set_option maxHeartbeats 8000000 in
set_option maxRecDepth 100000 in
theorem rs_factor.calls (k : Nat) (a0 : Int) (r : List S134) (w : World) (h : rs_factor.f k a0 = some r) :
    Calls Tryz.prog 143 #[.int .i64 a0] w fun e w' => ∃ v0_ : Value, e = .returned (v0_) ∧ Kd.R k134 134 w' w.heap.size (fun _ => True) v0_ r ∧ Below w.heap.size w w' := by
  have hu134 := Tryz.underlying134
  obtain ⟨⟨n1, xs1⟩, hF, hL⟩ := Option.bind_eq_some_iff.mp h
  clear h
  have HF := Aside0.mk hF
  have HL := Aside0.mk hL
  clear hF hL
  have hmf : ∀ (fn : Fn) (first cap : Array Value) (w : World), (Instr.makeFunc fn first cap).run Tryz.prog w = .ok (.func fn first cap) w := fun _ _ _ _ => rfl
  have hI0 : Aside0 (TInv w ((w.alloc (Obj.cells #[Value.int IntKind.i64 a0] 3)).alloc (Obj.cells #[Value.slice none 0 0] 130)) w.heap.size (w.heap.size + 1) a0 []) := by
    refine ⟨Nat.le_refl _, Nat.le_succ _, ?_, ⟨.slice none 0 0, ?_, Kd.R_nil _ _ _ _ _⟩, below_alloc (below_alloc (Below.refl _ _) _) _⟩
    · rw [Below.heap_alloc _ _ _ (by simp)]; exact heap_alloc_new w _
    · have := heap_alloc_new (w.alloc (Obj.cells #[Value.int IntKind.i64 a0] 3)) (Obj.cells #[Value.slice none 0 0] 130)
      simpa using this
  go_enter Tryz.func143, Tryz.ntmps143
  go_wp2_with (first | (go_at_call 176; refine (try_calls k 2 a0 n1 [] xs1 w.heap.size (w.heap.size + 1) w _ hI0.out HF.out).mono ?_; rintro e w1 ⟨rfl, hT⟩; have HT := Aside0.mk hT; clear hT))
  clear hI0 HF
  go_loopg [5] k (fun kq v5 w' => ∃ (n : Int) (xs : List S134) (d : Int), v5 = .int .i64 d ∧ Aside0 (rs_factor.l0 k kq n xs d = some r) ∧ Aside0 (TInv w w' w.heap.size (w.heap.size + 1) n xs))
  case atStart => exact ⟨n1, xs1, 3, (by first | rfl | (simp; done) | (simp [*]; done)), HL, HT⟩
  case round =>
    clear HL HT
    obtain ⟨n, xs, d, rfl, HA, HI⟩ := hrel
    cases gk with
    | zero => exact absurd HA.out (by simp [rs_factor.l0])
    | succ k1 =>
      have H := HA.out
      clear HA
      simp only [rs_factor.l0] at H
      have hcell := cell_of_one HI.out.2.2.1
      by_cases c1 : wrap64 (d * d) ≤ n
      · rw [if_pos c1] at H
        obtain ⟨⟨n2, xs2⟩, hF2, hL2⟩ := Option.bind_eq_some_iff.mp H
        have HF2 := Aside0.mk hF2
        have H' := Aside0.mk hL2
        clear H hF2 hL2
        have c1b0 : decide (wrap64 (d * d) ≤ n) = true := decide_eq_true c1
        clear c1
        go_wp2_with (first | (go_at_call 176; refine (try_calls k d n n2 xs xs2 w.heap.size (w.heap.size + 1) w _ (by (with_reducible repeat (first | exact HI.out | apply TInv.drewN))) HF2.out).mono ?_; rintro e w1 ⟨rfl, hT⟩; have HT := Aside0.mk hT; clear hT))
        go_roundg k1
        case measure => omega
        case rel => exact ⟨n2, xs2, (wrap64 (d + 2)), (by first | rfl | (simp; done) | (simp [*]; done)), H', HT⟩
      · rw [if_neg c1] at H
        have c1b0 : decide (wrap64 (d * d) ≤ n) = false := decide_eq_false c1
        clear c1
        by_cases c2 : n > 1
        · rw [if_pos c2] at H
          obtain ⟨⟨n2, xs2⟩, hF2, hL2⟩ := Option.bind_eq_some_iff.mp H
          obtain rfl := Option.some.inj hL2
          have HF2 := Aside0.mk hF2
          clear H hF2 hL2
          have c2b0 : decide (1 < n) = true := decide_eq_true c2
          clear c2
          go_wp2_with (first | (go_at_call 176; refine (try_calls k n n n2 xs xs2 w.heap.size (w.heap.size + 1) w _ (by (with_reducible repeat (first | exact HI.out | apply TInv.drewN))) HF2.out).mono ?_; rintro e w1 ⟨rfl, hT⟩; obtain ⟨h1, h2, h3, ⟨v, h4, h5⟩, h6⟩ := hT; obtain ⟨A1, cc1, rfl⟩ := Kd.R_slice h5; have HR := Aside0.mk h5; have HB := Aside0.mk h6; have hcell2 := cell_of_one h4; clear h1 h2 h3 h4 h5 h6))
          go_ret
          exact ⟨_, rfl, HR.out, HB.out⟩
        · rw [if_neg c2] at H
          obtain rfl := Option.some.inj H
          clear H
          have c2b0 : decide (1 < n) = false := decide_eq_false c2
          clear c2
          obtain ⟨h1, h2, h3, ⟨v, h4, h5⟩, h6⟩ := HI.out
          obtain ⟨A1, cc1, rfl⟩ := Kd.R_slice h5
          have HR := Aside0.mk h5
          have HB := Aside0.mk h6
          have hcell2 := cell_of_one h4
          clear h1 h2 h3 h4 h5 h6
          go_wp2
          go_ret
          exact ⟨_, rfl, HR.out, HB.out⟩
end Go.Proofs.YtillaipaanancaaGreat.Q
end

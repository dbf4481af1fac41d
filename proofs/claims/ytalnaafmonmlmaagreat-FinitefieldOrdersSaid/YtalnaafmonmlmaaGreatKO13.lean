/- Machine side and arithmetic of the law, put together by a program of the session. No conditions. -/
import Derived.Test.YtalnaafmonmlmaaGreatKO12
section
namespace Go.Proofs.YtalnaafmonmlmaaGreat.Q
open Go.RowKit Go.Proofs.YtalnaafmonmlmaaGreatW.PrintWords Go.Proofs.YtalnaafmonmlmaaGreatW.PrintLast Go.Proofs.YtalnaafmonmlmaaGreatW.PrintMore
set_option linter.unusedVariables false
set_option linter.unusedSimpArgs false
def r9Eval.l0 : Nat → Int → List Int → Int → Int → Int → Option (Int)
  | 0, _, _, _, _, _ => none
  | k + 1, x0, x1, x2, x7, x8 => if x8 ≥ 0 then (if 0 ≤ x8 then (if x8 < (x1.length : Int) then (if x0 = 0 then (none) else (r9Eval.l0 k x0 x1 x2 (Int.tmod (wrap64 ((wrap64 (x7 * x2)) + (rd x1 x8))) x0) (wrap64 (x8 - 1)))) else (none)) else (none)) else (some x7)
def r9Eval.f (k : Nat) (a0 : Int) (l1 : List Int) (a2 : Int) : Option (Int) := (r4Mod.f a2 a0).bind fun t101 => (r9Eval.l0 k a0 l1 t101 0 (wrap64 ((l1.length : Int) - 1)))
theorem r9Eval.mono_l : ∀ k, (∀ y0 y1 y2 y3 y4, LeO (r9Eval.l0 k y0 y1 y2 y3 y4) (r9Eval.l0 (k + 1) y0 y1 y2 y3 y4))
  | 0 => fun _ _ _ _ _ r h => by simp [r9Eval.l0] at h
  | k + 1 => by
    have ih0 := r9Eval.mono_l k
    · intro y0 y1 y2 y3 y4
      unfold r9Eval.l0
      repeat' first
      | (with_reducible exact ih0 _ _ _ _ _)
      | (with_reducible exact LeO.refl _)
      | (with_reducible exact LeO.none _)
      | (with_reducible refine LeO.ite ?_ ?_)
      | (with_reducible refine LeO.bind ?_ (fun _ => ?_))
      | exact ih0 _ _ _ _ _
      | exact LeO.none _
      | refine LeO.ite ?_ ?_
      | refine LeO.bind ?_ (fun _ => ?_)
theorem r9Eval.mono : ∀ a0 a1 a2 k, LeO (r9Eval.f k a0 a1 a2) (r9Eval.f (k + 1) a0 a1 a2) := by
  intro a0 a1 a2 k
  have ih0 := r9Eval.mono_l k
  unfold r9Eval.f
  repeat' first
      | (with_reducible exact ih0 _ _ _ _ _)
      | (with_reducible exact LeO.refl _)
      | (with_reducible exact LeO.none _)
      | (with_reducible refine LeO.ite ?_ ?_)
      | (with_reducible refine LeO.bind ?_ (fun _ => ?_))
      | exact ih0 _ _ _ _ _
      | exact LeO.none _
      | refine LeO.ite ?_ ?_
      | refine LeO.bind ?_ (fun _ => ?_)
mutual
def r15MinPoly.l0 : Nat → List (List Int) → List (List Int) → Int → Int → List Int → Option (List Int)
  | 0, _, _, _, _, _ => none
  | k + 1, x5, x6, x7, x102000, x102001 => if x7 < (x6.length : Int) then (if 0 ≤ (wrap64 ((x5.length : Int) + 1)) then (if (wrap64 ((x5.length : Int) + 1) : Int).toNat ≤ 11728124029610 then (r15MinPoly.l1 k x5 x6 x7 (List.replicate (wrap64 ((x5.length : Int) + 1) : Int).toNat []) 0 x102000 x102001) else (none)) else (none)) else (r15MinPoly.l2 k x5 ([] : List Int) 0 x102000 x102001)
def r15MinPoly.l1 : Nat → List (List Int) → List (List Int) → Int → List (List Int) → Int → Int → List Int → Option (List Int)
  | 0, _, _, _, _, _, _, _ => none
  | k + 1, x5, x6, x7, x8, x9, x102000, x102001 => if x9 < (x5.length : Int) then (if 0 ≤ (wrap64 (x9 + 1)) then (if (wrap64 (x9 + 1)) < (x8.length : Int) then (if 0 ≤ x9 then ((r15Add.f k x102000 x102001 (rd_L1 x8 (wrap64 (x9 + 1))) (rd_L1 x5 x9)).bind fun t116 => ((some (x8.set ((wrap64 (x9 + 1)) : Int).toNat t116 : List (List Int))).bind fun y119 => (if x9 < (x8.length : Int) then (if 0 ≤ x7 then (if x7 < (x6.length : Int) then ((r15Mul.f k x102000 x102001 (rd_L1 x5 x9) (rd_L1 x6 x7)).bind fun t123 => ((r15Sub.f k x102000 x102001 (rd_L1 y119 x9) t123).bind fun t126 => (r15MinPoly.l1 k x5 x6 x7 (y119.set (x9 : Int).toNat t126) (wrap64 (x9 + 1)) x102000 x102001))) else (none)) else (none)) else (none)))) else (none)) else (none)) else (none)) else (r15MinPoly.l0 k x8 x6 (wrap64 (x7 + 1)) x102000 x102001)
def r15MinPoly.l2 : Nat → List (List Int) → List Int → Int → Int → List Int → Option (List Int)
  | 0, _, _, _, _, _ => none
  | k + 1, x5, x10, x11, x102000, x102001 => if x11 < (x5.length : Int) then (if 0 ≤ x11 then ((r9Eval.f k x102000 (rd_L1 x5 x11) 0).bind fun t131 => (if x10.length < 17592186044416 then (r15MinPoly.l2 k x5 (x10 ++ [t131]) (wrap64 (x11 + 1)) x102000 x102001) else (none))) else (none)) else (some x10)
end
def r15MinPoly.f (k : Nat) (a0_0 : Int) (l0_1 : List Int) (l1 : List Int) : Option (List Int) := (r15Conjugates.f k a0_0 l0_1 l1).bind fun t108 => (r15MinPoly.l0 k (([(([1] : List Int))] : List (List Int))) t108 0 a0_0 l0_1)
theorem r15MinPoly.mono_l : ∀ k, (∀ y0 y1 y2 y3 y4, LeO (r15MinPoly.l0 k y0 y1 y2 y3 y4) (r15MinPoly.l0 (k + 1) y0 y1 y2 y3 y4)) ∧ (∀ y0 y1 y2 y3 y4 y5 y6, LeO (r15MinPoly.l1 k y0 y1 y2 y3 y4 y5 y6) (r15MinPoly.l1 (k + 1) y0 y1 y2 y3 y4 y5 y6)) ∧ (∀ y0 y1 y2 y3 y4, LeO (r15MinPoly.l2 k y0 y1 y2 y3 y4) (r15MinPoly.l2 (k + 1) y0 y1 y2 y3 y4))
  | 0 => ⟨fun _ _ _ _ _ r h => by simp [r15MinPoly.l0] at h, fun _ _ _ _ _ _ _ r h => by simp [r15MinPoly.l1] at h, fun _ _ _ _ _ r h => by simp [r15MinPoly.l2] at h⟩
  | k + 1 => by
    obtain ⟨ih0, ih1, ih2⟩ := r15MinPoly.mono_l k
    refine ⟨?_, ?_, ?_⟩
    · intro y0 y1 y2 y3 y4
      unfold r15MinPoly.l0
      repeat' first
      | (with_reducible exact ih0 _ _ _ _ _)
      | (with_reducible exact ih1 _ _ _ _ _ _ _)
      | (with_reducible exact ih2 _ _ _ _ _)
      | (with_reducible exact r9Eval.mono _ _ _ _)
      | (with_reducible exact r15Add.mono _ _ _ _ _)
      | (with_reducible exact r15Conjugates.mono _ _ _ _)
      | (with_reducible exact r15Mul.mono _ _ _ _ _)
      | (with_reducible exact r15Sub.mono _ _ _ _ _)
      | (with_reducible exact LeO.refl _)
      | (with_reducible exact LeO.none _)
      | (with_reducible refine LeO.ite ?_ ?_)
      | (with_reducible refine LeO.bind ?_ (fun _ => ?_))
      | exact ih0 _ _ _ _ _
      | exact ih1 _ _ _ _ _ _ _
      | exact ih2 _ _ _ _ _
      | exact r9Eval.mono _ _ _ _
      | exact r15Add.mono _ _ _ _ _
      | exact r15Conjugates.mono _ _ _ _
      | exact r15Mul.mono _ _ _ _ _
      | exact r15Sub.mono _ _ _ _ _
      | exact LeO.none _
      | refine LeO.ite ?_ ?_
      | refine LeO.bind ?_ (fun _ => ?_)
    · intro y0 y1 y2 y3 y4 y5 y6
      unfold r15MinPoly.l1
      repeat' first
      | (with_reducible exact ih0 _ _ _ _ _)
      | (with_reducible exact ih1 _ _ _ _ _ _ _)
      | (with_reducible exact ih2 _ _ _ _ _)
      | (with_reducible exact r9Eval.mono _ _ _ _)
      | (with_reducible exact r15Add.mono _ _ _ _ _)
      | (with_reducible exact r15Conjugates.mono _ _ _ _)
      | (with_reducible exact r15Mul.mono _ _ _ _ _)
      | (with_reducible exact r15Sub.mono _ _ _ _ _)
      | (with_reducible exact LeO.refl _)
      | (with_reducible exact LeO.none _)
      | (with_reducible refine LeO.ite ?_ ?_)
      | (with_reducible refine LeO.bind ?_ (fun _ => ?_))
      | exact ih0 _ _ _ _ _
      | exact ih1 _ _ _ _ _ _ _
      | exact ih2 _ _ _ _ _
      | exact r9Eval.mono _ _ _ _
      | exact r15Add.mono _ _ _ _ _
      | exact r15Conjugates.mono _ _ _ _
      | exact r15Mul.mono _ _ _ _ _
      | exact r15Sub.mono _ _ _ _ _
      | exact LeO.none _
      | refine LeO.ite ?_ ?_
      | refine LeO.bind ?_ (fun _ => ?_)
    · intro y0 y1 y2 y3 y4
      unfold r15MinPoly.l2
      repeat' first
      | (with_reducible exact ih0 _ _ _ _ _)
      | (with_reducible exact ih1 _ _ _ _ _ _ _)
      | (with_reducible exact ih2 _ _ _ _ _)
      | (with_reducible exact r9Eval.mono _ _ _ _)
      | (with_reducible exact r15Add.mono _ _ _ _ _)
      | (with_reducible exact r15Conjugates.mono _ _ _ _)
      | (with_reducible exact r15Mul.mono _ _ _ _ _)
      | (with_reducible exact r15Sub.mono _ _ _ _ _)
      | (with_reducible exact LeO.refl _)
      | (with_reducible exact LeO.none _)
      | (with_reducible refine LeO.ite ?_ ?_)
      | (with_reducible refine LeO.bind ?_ (fun _ => ?_))
      | exact ih0 _ _ _ _ _
      | exact ih1 _ _ _ _ _ _ _
      | exact ih2 _ _ _ _ _
      | exact r9Eval.mono _ _ _ _
      | exact r15Add.mono _ _ _ _ _
      | exact r15Conjugates.mono _ _ _ _
      | exact r15Mul.mono _ _ _ _ _
      | exact r15Sub.mono _ _ _ _ _
      | exact LeO.none _
      | refine LeO.ite ?_ ?_
      | refine LeO.bind ?_ (fun _ => ?_)
theorem r15MinPoly.mono : ∀ a0 a1 a2 k, LeO (r15MinPoly.f k a0 a1 a2) (r15MinPoly.f (k + 1) a0 a1 a2) := by
  intro a0 a1 a2 k
  obtain ⟨ih0, ih1, ih2⟩ := r15MinPoly.mono_l k
  unfold r15MinPoly.f
  repeat' first
      | (with_reducible exact ih0 _ _ _ _ _)
      | (with_reducible exact ih1 _ _ _ _ _ _ _)
      | (with_reducible exact ih2 _ _ _ _ _)
      | (with_reducible exact r9Eval.mono _ _ _ _)
      | (with_reducible exact r15Add.mono _ _ _ _ _)
      | (with_reducible exact r15Conjugates.mono _ _ _ _)
      | (with_reducible exact r15Mul.mono _ _ _ _ _)
      | (with_reducible exact r15Sub.mono _ _ _ _ _)
      | (with_reducible exact LeO.refl _)
      | (with_reducible exact LeO.none _)
      | (with_reducible refine LeO.ite ?_ ?_)
      | (with_reducible refine LeO.bind ?_ (fun _ => ?_))
      | exact ih0 _ _ _ _ _
      | exact ih1 _ _ _ _ _ _ _
      | exact ih2 _ _ _ _ _
      | exact r9Eval.mono _ _ _ _
      | exact r15Add.mono _ _ _ _ _
      | exact r15Conjugates.mono _ _ _ _
      | exact r15Mul.mono _ _ _ _ _
      | exact r15Sub.mono _ _ _ _ _
      | exact LeO.none _
      | refine LeO.ite ?_ ?_
      | refine LeO.bind ?_ (fun _ => ?_)
def r9Compare.l0 : Nat → List Int → List Int → Int → Option (Int)
  | 0, _, _, _ => none
  | k + 1, x0, x1, x5 => if x5 < (x0.length : Int) then (if 0 ≤ x5 then (if x5 < (x1.length : Int) then (if (rd x0 x5) < (rd x1 x5) then (some (-1)) else (if (rd x0 x5) > (rd x1 x5) then (some 1) else (r9Compare.l0 k x0 x1 (wrap64 (x5 + 1))))) else (none)) else (none)) else (some 0)
def r9Compare.f (k : Nat) (l0 : List Int) (l1 : List Int) : Option (Int) := if (l0.length : Int) = (l1.length : Int) then (r9Compare.l0 k l0 l1 0) else (if (l0.length : Int) < (l1.length : Int) then (some (-1)) else (some 1))
theorem r9Compare.mono_l : ∀ k, (∀ y0 y1 y2, LeO (r9Compare.l0 k y0 y1 y2) (r9Compare.l0 (k + 1) y0 y1 y2))
  | 0 => fun _ _ _ r h => by simp [r9Compare.l0] at h
  | k + 1 => by
    have ih0 := r9Compare.mono_l k
    · intro y0 y1 y2
      unfold r9Compare.l0
      repeat' first
      | (with_reducible exact ih0 _ _ _)
      | (with_reducible exact LeO.refl _)
      | (with_reducible exact LeO.none _)
      | (with_reducible refine LeO.ite ?_ ?_)
      | (with_reducible refine LeO.bind ?_ (fun _ => ?_))
      | exact ih0 _ _ _
      | exact LeO.none _
      | refine LeO.ite ?_ ?_
      | refine LeO.bind ?_ (fun _ => ?_)
theorem r9Compare.mono : ∀ a0 a1 k, LeO (r9Compare.f k a0 a1) (r9Compare.f (k + 1) a0 a1) := by
  intro a0 a1 k
  have ih0 := r9Compare.mono_l k
  unfold r9Compare.f
  repeat' first
      | (with_reducible exact ih0 _ _ _)
      | (with_reducible exact LeO.refl _)
      | (with_reducible exact LeO.none _)
      | (with_reducible refine LeO.ite ?_ ?_)
      | (with_reducible refine LeO.bind ?_ (fun _ => ?_))
      | exact ih0 _ _ _
      | exact LeO.none _
      | refine LeO.ite ?_ ?_
      | refine LeO.bind ?_ (fun _ => ?_)
def r15SquareRoot.l0 : Nat → List Int → List Int → Bool → Int → Int → Int → List Int → Option (List Int × Bool)
  | 0, _, _, _, _, _, _, _ => none
  | k + 1, x1, x6, x7, x8, x9, x102000, x102001 => if x9 < x8 then ((r15Element.f k x102000 x102001 x9).bind fun t103 => ((r15Mul.f k x102000 x102001 t103 t103).bind fun t106 => ((r9Same.f k t106 x1).bind fun t109 => (if t109 = true then (if x7 = true then ((r9Compare.f k t103 x6).bind fun t110 => (if t110 < 0 then (r15SquareRoot.l0 k x1 t103 true x8 (wrap64 (x9 + 1)) x102000 x102001) else (r15SquareRoot.l0 k x1 x6 x7 x8 (wrap64 (x9 + 1)) x102000 x102001))) else (r15SquareRoot.l0 k x1 t103 true x8 (wrap64 (x9 + 1)) x102000 x102001)) else (r15SquareRoot.l0 k x1 x6 x7 x8 (wrap64 (x9 + 1)) x102000 x102001))))) else (some (x6, x7))
def r15SquareRoot.f (k : Nat) (a0_0 : Int) (l0_1 : List Int) (l1 : List Int) : Option (List Int × Bool) := (r15Size.f k a0_0 l0_1).bind fun t102 => (r15SquareRoot.l0 k l1 ([] : List Int) false t102 0 a0_0 l0_1)
theorem r15SquareRoot.mono_l : ∀ k, (∀ y0 y1 y2 y3 y4 y5 y6, LeO (r15SquareRoot.l0 k y0 y1 y2 y3 y4 y5 y6) (r15SquareRoot.l0 (k + 1) y0 y1 y2 y3 y4 y5 y6))
  | 0 => fun _ _ _ _ _ _ _ r h => by simp [r15SquareRoot.l0] at h
  | k + 1 => by
    have ih0 := r15SquareRoot.mono_l k
    · intro y0 y1 y2 y3 y4 y5 y6
      unfold r15SquareRoot.l0
      repeat' first
      | (with_reducible exact ih0 _ _ _ _ _ _ _)
      | (with_reducible exact r9Compare.mono _ _ _)
      | (with_reducible exact r9Same.mono _ _ _)
      | (with_reducible exact r15Element.mono _ _ _ _)
      | (with_reducible exact r15Mul.mono _ _ _ _ _)
      | (with_reducible exact r15Size.mono _ _ _)
      | (with_reducible exact LeO.refl _)
      | (with_reducible exact LeO.none _)
      | (with_reducible refine LeO.ite ?_ ?_)
      | (with_reducible refine LeO.bind ?_ (fun _ => ?_))
      | exact ih0 _ _ _ _ _ _ _
      | exact r9Compare.mono _ _ _
      | exact r9Same.mono _ _ _
      | exact r15Element.mono _ _ _ _
      | exact r15Mul.mono _ _ _ _ _
      | exact r15Size.mono _ _ _
      | exact LeO.none _
      | refine LeO.ite ?_ ?_
      | refine LeO.bind ?_ (fun _ => ?_)
theorem r15SquareRoot.mono : ∀ a0 a1 a2 k, LeO (r15SquareRoot.f k a0 a1 a2) (r15SquareRoot.f (k + 1) a0 a1 a2) := by
  intro a0 a1 a2 k
  have ih0 := r15SquareRoot.mono_l k
  unfold r15SquareRoot.f
  repeat' first
      | (with_reducible exact ih0 _ _ _ _ _ _ _)
      | (with_reducible exact r9Compare.mono _ _ _)
      | (with_reducible exact r9Same.mono _ _ _)
      | (with_reducible exact r15Element.mono _ _ _ _)
      | (with_reducible exact r15Mul.mono _ _ _ _ _)
      | (with_reducible exact r15Size.mono _ _ _)
      | (with_reducible exact LeO.refl _)
      | (with_reducible exact LeO.none _)
      | (with_reducible refine LeO.ite ?_ ?_)
      | (with_reducible refine LeO.bind ?_ (fun _ => ?_))
      | exact ih0 _ _ _ _ _ _ _
      | exact r9Compare.mono _ _ _
      | exact r9Same.mono _ _ _
      | exact r15Element.mono _ _ _ _
      | exact r15Mul.mono _ _ _ _ _
      | exact r15Size.mono _ _ _
      | exact LeO.none _
      | refine LeO.ite ?_ ?_
      | refine LeO.bind ?_ (fun _ => ?_)
def l15right.f (k : Nat) (l0 : List Int) (a1 : Int) (a2 : Int) (l3 : List Int) : Option (Bool) := if a2 = 0 then ((r9Same.f k l0 l3).bind fun t101 => (if t101 = true then (some (a1 == 0)) else (some false))) else (if (l0.length : Int) = 0 then (some (a1 == a2)) else (some false))
theorem l15right.mono : ∀ a0 a1 a2 a3 k, LeO (l15right.f k a0 a1 a2 a3) (l15right.f (k + 1) a0 a1 a2 a3) := by
  intro a0 a1 a2 a3 k
  unfold l15right.f
  repeat' first
      | (with_reducible exact r9Same.mono _ _ _)
      | (with_reducible exact LeO.refl _)
      | (with_reducible exact LeO.none _)
      | (with_reducible refine LeO.ite ?_ ?_)
      | (with_reducible refine LeO.bind ?_ (fun _ => ?_))
      | exact r9Same.mono _ _ _
      | exact LeO.none _
      | refine LeO.ite ?_ ?_
      | refine LeO.bind ?_ (fun _ => ?_)
def l15short.f (a0_0 : Int) (l0_1 : List Int) (l1 : List Int) (l2 : List Int) : Option (Bool) := if (l0_1.length : Int) ≤ 70 then (if (l1.length : Int) ≤ 70 then (some (decide ((l2.length : Int) ≤ 70))) else (some false)) else (some false)
mutual
def lw.j0 : Nat → List Int → Bool → Int → List Int → Option (Bool)
  | 0, _, _, _, _ => none
  | k + 1, x1, x35, x102000, x102001 => if x35 = true then ((l15awake.f k).bind fun t106 => (some t106)) else ((fi_Order.f k x102000 x102001 x1).bind fun bt107 => ((fi_Generator.f k x102000 x102001).bind fun bt109 => ((fi_MinPoly.f k x102000 x102001 x1).bind fun bt113 => ((fi_SquareRoot.f k x102000 x102001 x1).bind fun bt117 => ((r15Check.f k x102000 x102001).bind fun t121 => ((r15CheckElement.f k x102000 x102001 x1).bind fun t122 => (if t121 = 0 then ((r15Generator.f k x102000 x102001).bind fun t123 => ((l15right.f k bt109.1 bt109.2 0 t123).bind fun t126 => (if t126 = true then (lw.j1 k x1 bt107.1 bt107.2 bt113.1 bt113.2 bt117.1 bt117.2 t122 x102000 x102001) else (none)))) else ((l15right.f k bt109.1 bt109.2 t121 ([] : List Int)).bind fun t127 => (if t127 = true then (lw.j1 k x1 bt107.1 bt107.2 bt113.1 bt113.2 bt117.1 bt117.2 t122 x102000 x102001) else (none))))))))))
def lw.j1 : Nat → List Int → Int → Int → List Int → Int → List Int → Int → Int → Int → List Int → Option (Bool)
  | 0, _, _, _, _, _, _, _, _, _, _ => none
  | k + 1, x1, x5, x6, x9, x10, x11, x12, x14, x102000, x102001 => if x14 = 0 then (if (x1.length : Int) = 0 then (if x5 = 0 then (if x6 = 6 then (lw.j2 k x1 x9 x10 x11 x12 x102000 x102001) else (none)) else (none)) else ((r15MultiplicativeOrder.f k x102000 x102001 x1).bind fun t130 => (if x5 = t130 then (if x6 = 0 then (lw.j2 k x1 x9 x10 x11 x12 x102000 x102001) else (none)) else (none)))) else (if x5 = 0 then (if x6 = x14 then ((l15right.f k x9 x10 x14 ([] : List Int)).bind fun t128 => (if t128 = true then ((l15right.f k x11 x12 x14 ([] : List Int)).bind fun t129 => (some t129)) else (none))) else (none)) else (none))
def lw.j2 : Nat → List Int → List Int → Int → List Int → Int → Int → List Int → Option (Bool)
  | 0, _, _, _, _, _, _, _ => none
  | k + 1, x1, x9, x10, x11, x12, x102000, x102001 => (r15SquareRoot.f k x102000 x102001 x1).bind fun bt131 => (if bt131.2 = true then ((r15MinPoly.f k x102000 x102001 x1).bind fun t135 => ((l15right.f k x9 x10 0 t135).bind fun t138 => (if t138 = true then ((l15right.f k x11 x12 0 bt131.1).bind fun t139 => (some t139)) else (none)))) else ((r15MinPoly.f k x102000 x102001 x1).bind fun t140 => ((l15right.f k x9 x10 0 t140).bind fun t143 => (if t143 = true then ((l15right.f k x11 x12 26 bt131.1).bind fun t144 => (some t144)) else (none)))))
end
def lw.f (k : Nat) (a0_0 : Int) (l0_1 : List Int) (l1 : List Int) : Option (Bool) := (l15awake.f k).bind fun t102 => (if t102 = true then ((l15short.f a0_0 l0_1 l1 ([] : List Int)).bind fun t103 => (if t103 = true then ((r15Check.f k a0_0 l0_1).bind fun t104 => (if t104 = 0 then ((r15Few.f k a0_0 l0_1 256).bind fun t105 => (lw.j0 k l1 (!t105) a0_0 l0_1)) else (lw.j0 k l1 false a0_0 l0_1))) else (lw.j0 k l1 true a0_0 l0_1))) else (lw.j0 k l1 true a0_0 l0_1))
theorem lw.mono_l : ∀ k, (∀ y0 y1 y2 y3, LeO (lw.j0 k y0 y1 y2 y3) (lw.j0 (k + 1) y0 y1 y2 y3)) ∧ (∀ y0 y1 y2 y3 y4 y5 y6 y7 y8 y9, LeO (lw.j1 k y0 y1 y2 y3 y4 y5 y6 y7 y8 y9) (lw.j1 (k + 1) y0 y1 y2 y3 y4 y5 y6 y7 y8 y9)) ∧ (∀ y0 y1 y2 y3 y4 y5 y6, LeO (lw.j2 k y0 y1 y2 y3 y4 y5 y6) (lw.j2 (k + 1) y0 y1 y2 y3 y4 y5 y6))
  | 0 => ⟨fun _ _ _ _ r h => by simp [lw.j0] at h, fun _ _ _ _ _ _ _ _ _ _ r h => by simp [lw.j1] at h, fun _ _ _ _ _ _ _ r h => by simp [lw.j2] at h⟩
  | k + 1 => by
    obtain ⟨ih0, ih1, ih2⟩ := lw.mono_l k
    refine ⟨?_, ?_, ?_⟩
    · intro y0 y1 y2 y3
      unfold lw.j0
      repeat' first
      | (with_reducible exact ih0 _ _ _ _)
      | (with_reducible exact ih1 _ _ _ _ _ _ _ _ _ _)
      | (with_reducible exact ih2 _ _ _ _ _ _ _)
      | (with_reducible exact fi_Generator.mono _ _ _)
      | (with_reducible exact fi_MinPoly.mono _ _ _ _)
      | (with_reducible exact fi_Order.mono _ _ _ _)
      | (with_reducible exact fi_SquareRoot.mono _ _ _ _)
      | (with_reducible exact l15awake.mono _)
      | (with_reducible exact l15right.mono _ _ _ _ _)
      | (with_reducible exact r15Check.mono _ _ _)
      | (with_reducible exact r15CheckElement.mono _ _ _ _)
      | (with_reducible exact r15Few.mono _ _ _ _)
      | (with_reducible exact r15Generator.mono _ _ _)
      | (with_reducible exact r15MinPoly.mono _ _ _ _)
      | (with_reducible exact r15MultiplicativeOrder.mono _ _ _ _)
      | (with_reducible exact r15SquareRoot.mono _ _ _ _)
      | (with_reducible exact LeO.refl _)
      | (with_reducible exact LeO.none _)
      | (with_reducible refine LeO.ite ?_ ?_)
      | (with_reducible refine LeO.bind ?_ (fun _ => ?_))
      | exact ih0 _ _ _ _
      | exact ih1 _ _ _ _ _ _ _ _ _ _
      | exact ih2 _ _ _ _ _ _ _
      | exact fi_Generator.mono _ _ _
      | exact fi_MinPoly.mono _ _ _ _
      | exact fi_Order.mono _ _ _ _
      | exact fi_SquareRoot.mono _ _ _ _
      | exact l15awake.mono _
      | exact l15right.mono _ _ _ _ _
      | exact r15Check.mono _ _ _
      | exact r15CheckElement.mono _ _ _ _
      | exact r15Few.mono _ _ _ _
      | exact r15Generator.mono _ _ _
      | exact r15MinPoly.mono _ _ _ _
      | exact r15MultiplicativeOrder.mono _ _ _ _
      | exact r15SquareRoot.mono _ _ _ _
      | exact LeO.none _
      | refine LeO.ite ?_ ?_
      | refine LeO.bind ?_ (fun _ => ?_)
    · intro y0 y1 y2 y3 y4 y5 y6 y7 y8 y9
      unfold lw.j1
      repeat' first
      | (with_reducible exact ih0 _ _ _ _)
      | (with_reducible exact ih1 _ _ _ _ _ _ _ _ _ _)
      | (with_reducible exact ih2 _ _ _ _ _ _ _)
      | (with_reducible exact fi_Generator.mono _ _ _)
      | (with_reducible exact fi_MinPoly.mono _ _ _ _)
      | (with_reducible exact fi_Order.mono _ _ _ _)
      | (with_reducible exact fi_SquareRoot.mono _ _ _ _)
      | (with_reducible exact l15awake.mono _)
      | (with_reducible exact l15right.mono _ _ _ _ _)
      | (with_reducible exact r15Check.mono _ _ _)
      | (with_reducible exact r15CheckElement.mono _ _ _ _)
      | (with_reducible exact r15Few.mono _ _ _ _)
      | (with_reducible exact r15Generator.mono _ _ _)
      | (with_reducible exact r15MinPoly.mono _ _ _ _)
      | (with_reducible exact r15MultiplicativeOrder.mono _ _ _ _)
      | (with_reducible exact r15SquareRoot.mono _ _ _ _)
      | (with_reducible exact LeO.refl _)
      | (with_reducible exact LeO.none _)
      | (with_reducible refine LeO.ite ?_ ?_)
      | (with_reducible refine LeO.bind ?_ (fun _ => ?_))
      | exact ih0 _ _ _ _
      | exact ih1 _ _ _ _ _ _ _ _ _ _
      | exact ih2 _ _ _ _ _ _ _
      | exact fi_Generator.mono _ _ _
      | exact fi_MinPoly.mono _ _ _ _
      | exact fi_Order.mono _ _ _ _
      | exact fi_SquareRoot.mono _ _ _ _
      | exact l15awake.mono _
      | exact l15right.mono _ _ _ _ _
      | exact r15Check.mono _ _ _
      | exact r15CheckElement.mono _ _ _ _
      | exact r15Few.mono _ _ _ _
      | exact r15Generator.mono _ _ _
      | exact r15MinPoly.mono _ _ _ _
      | exact r15MultiplicativeOrder.mono _ _ _ _
      | exact r15SquareRoot.mono _ _ _ _
      | exact LeO.none _
      | refine LeO.ite ?_ ?_
      | refine LeO.bind ?_ (fun _ => ?_)
    · intro y0 y1 y2 y3 y4 y5 y6
      unfold lw.j2
      repeat' first
      | (with_reducible exact ih0 _ _ _ _)
      | (with_reducible exact ih1 _ _ _ _ _ _ _ _ _ _)
      | (with_reducible exact ih2 _ _ _ _ _ _ _)
      | (with_reducible exact fi_Generator.mono _ _ _)
      | (with_reducible exact fi_MinPoly.mono _ _ _ _)
      | (with_reducible exact fi_Order.mono _ _ _ _)
      | (with_reducible exact fi_SquareRoot.mono _ _ _ _)
      | (with_reducible exact l15awake.mono _)
      | (with_reducible exact l15right.mono _ _ _ _ _)
      | (with_reducible exact r15Check.mono _ _ _)
      | (with_reducible exact r15CheckElement.mono _ _ _ _)
      | (with_reducible exact r15Few.mono _ _ _ _)
      | (with_reducible exact r15Generator.mono _ _ _)
      | (with_reducible exact r15MinPoly.mono _ _ _ _)
      | (with_reducible exact r15MultiplicativeOrder.mono _ _ _ _)
      | (with_reducible exact r15SquareRoot.mono _ _ _ _)
      | (with_reducible exact LeO.refl _)
      | (with_reducible exact LeO.none _)
      | (with_reducible refine LeO.ite ?_ ?_)
      | (with_reducible refine LeO.bind ?_ (fun _ => ?_))
      | exact ih0 _ _ _ _
      | exact ih1 _ _ _ _ _ _ _ _ _ _
      | exact ih2 _ _ _ _ _ _ _
      | exact fi_Generator.mono _ _ _
      | exact fi_MinPoly.mono _ _ _ _
      | exact fi_Order.mono _ _ _ _
      | exact fi_SquareRoot.mono _ _ _ _
      | exact l15awake.mono _
      | exact l15right.mono _ _ _ _ _
      | exact r15Check.mono _ _ _
      | exact r15CheckElement.mono _ _ _ _
      | exact r15Few.mono _ _ _ _
      | exact r15Generator.mono _ _ _
      | exact r15MinPoly.mono _ _ _ _
      | exact r15MultiplicativeOrder.mono _ _ _ _
      | exact r15SquareRoot.mono _ _ _ _
      | exact LeO.none _
      | refine LeO.ite ?_ ?_
      | refine LeO.bind ?_ (fun _ => ?_)
theorem lw.mono : ∀ a0 a1 a2 k, LeO (lw.f k a0 a1 a2) (lw.f (k + 1) a0 a1 a2) := by
  intro a0 a1 a2 k
  obtain ⟨ih0, ih1, ih2⟩ := lw.mono_l k
  unfold lw.f
  repeat' first
      | (with_reducible exact ih0 _ _ _ _)
      | (with_reducible exact ih1 _ _ _ _ _ _ _ _ _ _)
      | (with_reducible exact ih2 _ _ _ _ _ _ _)
      | (with_reducible exact fi_Generator.mono _ _ _)
      | (with_reducible exact fi_MinPoly.mono _ _ _ _)
      | (with_reducible exact fi_Order.mono _ _ _ _)
      | (with_reducible exact fi_SquareRoot.mono _ _ _ _)
      | (with_reducible exact l15awake.mono _)
      | (with_reducible exact l15right.mono _ _ _ _ _)
      | (with_reducible exact r15Check.mono _ _ _)
      | (with_reducible exact r15CheckElement.mono _ _ _ _)
      | (with_reducible exact r15Few.mono _ _ _ _)
      | (with_reducible exact r15Generator.mono _ _ _)
      | (with_reducible exact r15MinPoly.mono _ _ _ _)
      | (with_reducible exact r15MultiplicativeOrder.mono _ _ _ _)
      | (with_reducible exact r15SquareRoot.mono _ _ _ _)
      | (with_reducible exact LeO.refl _)
      | (with_reducible exact LeO.none _)
      | (with_reducible refine LeO.ite ?_ ?_)
      | (with_reducible refine LeO.bind ?_ (fun _ => ?_))
      | exact ih0 _ _ _ _
      | exact ih1 _ _ _ _ _ _ _ _ _ _
      | exact ih2 _ _ _ _ _ _ _
      | exact fi_Generator.mono _ _ _
      | exact fi_MinPoly.mono _ _ _ _
      | exact fi_Order.mono _ _ _ _
      | exact fi_SquareRoot.mono _ _ _ _
      | exact l15awake.mono _
      | exact l15right.mono _ _ _ _ _
      | exact r15Check.mono _ _ _
      | exact r15CheckElement.mono _ _ _ _
      | exact r15Few.mono _ _ _ _
      | exact r15Generator.mono _ _ _
      | exact r15MinPoly.mono _ _ _ _
      | exact r15MultiplicativeOrder.mono _ _ _ _
      | exact r15SquareRoot.mono _ _ _ _
      | exact LeO.none _
      | refine LeO.ite ?_ ?_
      | refine LeO.bind ?_ (fun _ => ?_)
def lw.Pure : Prop := ∀ (a0_0 : Int) (l0_1 : List Int) (l1 : List Int), (Lit.int .i64 a0_0).wf = true → l0_1.length ≤ maxLen → l0_1.length * 8 ≤ 140737488351232 → (∀ x ∈ l0_1, (Lit.int .i64 x).wf = true) → l1.length ≤ maxLen → l1.length * 8 ≤ 140737488351232 → (∀ x ∈ l1, (Lit.int .i64 x).wf = true) → ∃ k, lw.f k a0_0 l0_1 l1 = some true
end Go.Proofs.YtalnaafmonmlmaaGreat.Q
end

/- Machine side and arithmetic of the law, put together by a program of the session. No conditions. -/
import Derived.Test.YtillaipaanancaaGreatKdl18
section
namespace Go.Proofs.YtillaipaanancaaGreat.Q
open Go.RowKit Go.Proofs.YtillaipaanancaaGreatW.PrintWords Go.Proofs.YtillaipaanancaaGreatW.PrintLast Go.Proofs.YtillaipaanancaaGreatW.PrintMore
set_option linter.unusedVariables false
set_option linter.unusedSimpArgs false
def rs_prime.f (k : Nat) (a0 : Int) : Option (Bool) := (rs_factor.f k a0).bind fun t101 => (if (t101.length : Int) = 1 then (if 0 < (t101.length : Int) then (some (((rd_T134 t101 0).f1) == 1)) else (none)) else (some false))
theorem rs_prime.mono : ∀ a0 k, LeO (rs_prime.f k a0) (rs_prime.f (k + 1) a0) := by
  intro a0 k
  unfold rs_prime.f
  repeat' first
      | (with_reducible exact rs_factor.mono _ _)
      | (with_reducible exact LeO.refl _)
      | (with_reducible exact LeO.none _)
      | (with_reducible refine LeO.ite ?_ ?_)
      | (with_reducible refine LeO.bind ?_ (fun _ => ?_))
      | exact rs_factor.mono _ _
      | exact LeO.none _
      | refine LeO.ite ?_ ?_
      | refine LeO.bind ?_ (fun _ => ?_)
def rs_IsPrime.f (k : Nat) (a0 : Int) : Option (Bool × Int) := (rs_bad.f (([a0] : List Int))).bind fun t104 => (if t104 = true then (some (false, 3)) else ((rs_prime.f k a0).bind fun t105 => (some (t105, 0))))
theorem rs_IsPrime.mono : ∀ a0 k, LeO (rs_IsPrime.f k a0) (rs_IsPrime.f (k + 1) a0) := by
  intro a0 k
  unfold rs_IsPrime.f
  repeat' first
      | (with_reducible exact rs_prime.mono _ _)
      | (with_reducible exact LeO.refl _)
      | (with_reducible exact LeO.none _)
      | (with_reducible refine LeO.ite ?_ ?_)
      | (with_reducible refine LeO.bind ?_ (fun _ => ?_))
      | exact rs_prime.mono _ _
      | exact LeO.none _
      | refine LeO.ite ?_ ?_
      | refine LeO.bind ?_ (fun _ => ?_)
def pm_prime.j0 : Nat → Int → Bool → Option (Int)
  | 0, _, _ => none
  | k + 1, x0, x10 => if x10 = true then (some 7) else ((rs_IsPrime.f k x0).bind fun bt101 => (if bt101.2 = 0 then (if bt101.1 = true then (some 0) else (some 7)) else (some 7)))
def pm_prime.f (k : Nat) (a0 : Int) : Option (Int) := if a0 < 2 then (pm_prime.j0 k a0 true) else (pm_prime.j0 k a0 (decide (a0 > 65521)))
theorem pm_prime.mono_l : ∀ k, (∀ y0 y1, LeO (pm_prime.j0 k y0 y1) (pm_prime.j0 (k + 1) y0 y1))
  | 0 => fun _ _ r h => by simp [pm_prime.j0] at h
  | k + 1 => by
    have ih0 := pm_prime.mono_l k
    · intro y0 y1
      unfold pm_prime.j0
      repeat' first
      | (with_reducible exact ih0 _ _)
      | (with_reducible exact rs_IsPrime.mono _ _)
      | (with_reducible exact LeO.refl _)
      | (with_reducible exact LeO.none _)
      | (with_reducible refine LeO.ite ?_ ?_)
      | (with_reducible refine LeO.bind ?_ (fun _ => ?_))
      | exact ih0 _ _
      | exact rs_IsPrime.mono _ _
      | exact LeO.none _
      | refine LeO.ite ?_ ?_
      | refine LeO.bind ?_ (fun _ => ?_)
theorem pm_prime.mono : ∀ a0 k, LeO (pm_prime.f k a0) (pm_prime.f (k + 1) a0) := by
  intro a0 k
  have ih0 := pm_prime.mono_l k
  unfold pm_prime.f
  repeat' first
      | (with_reducible exact ih0 _ _)
      | (with_reducible exact rs_IsPrime.mono _ _)
      | (with_reducible exact LeO.refl _)
      | (with_reducible exact LeO.none _)
      | (with_reducible refine LeO.ite ?_ ?_)
      | (with_reducible refine LeO.bind ?_ (fun _ => ?_))
      | exact ih0 _ _
      | exact rs_IsPrime.mono _ _
      | exact LeO.none _
      | refine LeO.ite ?_ ?_
      | refine LeO.bind ?_ (fun _ => ?_)
def badC (p x : Int) : Bool := decide (x < 0) || decide (p ≤ x)
def pm_Check.g (a0 : Int) (l1 : List Int) : Int := if l1.length > 65 then 4 else if l1.any (badC a0) = true then 1 else if (l1.length : Int) > 0 then (if rd l1 (wrap64 ((l1.length : Int) - 1)) = 0 then 1 else 0) else 0
def pm_Check.f (k : Nat) (a0 : Int) (l1 : List Int) : Option Int := (pm_prime.f k a0).bind fun e => if e = 0 then some (pm_Check.g a0 l1) else some e
theorem pm_Check.mono (a0 : Int) (l1 : List Int) (k : Nat) : LeO (pm_Check.f k a0 l1) (pm_Check.f (k + 1) a0 l1) := LeO.bind (pm_prime.mono a0 k) (fun _ => LeO.refl _)
def r4IsPrime.l0 : Nat → Int → Int → Option (Bool)
  | 0, _, _ => none
  | k + 1, x0, x3 => if (wrap64 (x3 * x3)) ≤ x0 then (if x3 = 0 then (none) else (if (Int.tmod x0 x3) = 0 then (some false) else (r4IsPrime.l0 k x0 (wrap64 (x3 + 1))))) else (some (decide (x0 > 1)))
def r4IsPrime.f (k : Nat) (a0 : Int) : Option (Bool) := r4IsPrime.l0 k a0 2
theorem r4IsPrime.mono_l : ∀ k, (∀ y0 y1, LeO (r4IsPrime.l0 k y0 y1) (r4IsPrime.l0 (k + 1) y0 y1))
  | 0 => fun _ _ r h => by simp [r4IsPrime.l0] at h
  | k + 1 => by
    have ih0 := r4IsPrime.mono_l k
    · intro y0 y1
      unfold r4IsPrime.l0
      repeat' first
      | (with_reducible exact ih0 _ _)
      | (with_reducible exact LeO.refl _)
      | (with_reducible exact LeO.none _)
      | (with_reducible refine LeO.ite ?_ ?_)
      | (with_reducible refine LeO.bind ?_ (fun _ => ?_))
      | exact ih0 _ _
      | exact LeO.none _
      | refine LeO.ite ?_ ?_
      | refine LeO.bind ?_ (fun _ => ?_)
theorem r4IsPrime.mono : ∀ a0 k, LeO (r4IsPrime.f k a0) (r4IsPrime.f (k + 1) a0) := by
  intro a0 k
  have ih0 := r4IsPrime.mono_l k
  unfold r4IsPrime.f
  repeat' first
      | (with_reducible exact ih0 _ _)
      | (with_reducible exact LeO.refl _)
      | (with_reducible exact LeO.none _)
      | (with_reducible refine LeO.ite ?_ ?_)
      | (with_reducible refine LeO.bind ?_ (fun _ => ?_))
      | exact ih0 _ _
      | exact LeO.none _
      | refine LeO.ite ?_ ?_
      | refine LeO.bind ?_ (fun _ => ?_)
def r9IsPrime.f (k : Nat) (a0 : Int) : Option (Bool) := if a0 ≥ 2 then (if a0 ≤ 65521 then ((r4IsPrime.f k a0).bind fun t101 => (some t101)) else (some false)) else (some false)
theorem r9IsPrime.mono : ∀ a0 k, LeO (r9IsPrime.f k a0) (r9IsPrime.f (k + 1) a0) := by
  intro a0 k
  unfold r9IsPrime.f
  repeat' first
      | (with_reducible exact r4IsPrime.mono _ _)
      | (with_reducible exact LeO.refl _)
      | (with_reducible exact LeO.none _)
      | (with_reducible refine LeO.ite ?_ ?_)
      | (with_reducible refine LeO.bind ?_ (fun _ => ?_))
      | exact r4IsPrime.mono _ _
      | exact LeO.none _
      | refine LeO.ite ?_ ?_
      | refine LeO.bind ?_ (fun _ => ?_)
def r9Check.l0 : Nat → Int → List Int → Int → Option (Int)
  | 0, _, _, _ => none
  | k + 1, x0, x1, x5 => if x5 < (x1.length : Int) then (if 0 ≤ x5 then (if (rd x1 x5) < 0 then (some 1) else (if (rd x1 x5) ≥ x0 then (some 1) else (r9Check.l0 k x0 x1 (wrap64 (x5 + 1))))) else (none)) else (if (x1.length : Int) > 0 then (if 0 ≤ (wrap64 ((x1.length : Int) - 1)) then (if (wrap64 ((x1.length : Int) - 1)) < (x1.length : Int) then (if (rd x1 (wrap64 ((x1.length : Int) - 1))) = 0 then (some 1) else (some 0)) else (none)) else (none)) else (some 0))
def r9Check.f (k : Nat) (a0 : Int) (l1 : List Int) : Option (Int) := (r9IsPrime.f k a0).bind fun t101 => (if t101 = true then (if (l1.length : Int) > 65 then (some 4) else (r9Check.l0 k a0 l1 0)) else (some 7))
theorem r9Check.mono_l : ∀ k, (∀ y0 y1 y2, LeO (r9Check.l0 k y0 y1 y2) (r9Check.l0 (k + 1) y0 y1 y2))
  | 0 => fun _ _ _ r h => by simp [r9Check.l0] at h
  | k + 1 => by
    have ih0 := r9Check.mono_l k
    · intro y0 y1 y2
      unfold r9Check.l0
      repeat' first
      | (with_reducible exact ih0 _ _ _)
      | (with_reducible exact r9IsPrime.mono _ _)
      | (with_reducible exact LeO.refl _)
      | (with_reducible exact LeO.none _)
      | (with_reducible refine LeO.ite ?_ ?_)
      | (with_reducible refine LeO.bind ?_ (fun _ => ?_))
      | exact ih0 _ _ _
      | exact r9IsPrime.mono _ _
      | exact LeO.none _
      | refine LeO.ite ?_ ?_
      | refine LeO.bind ?_ (fun _ => ?_)
theorem r9Check.mono : ∀ a0 a1 k, LeO (r9Check.f k a0 a1) (r9Check.f (k + 1) a0 a1) := by
  intro a0 a1 k
  have ih0 := r9Check.mono_l k
  unfold r9Check.f
  repeat' first
      | (with_reducible exact ih0 _ _ _)
      | (with_reducible exact r9IsPrime.mono _ _)
      | (with_reducible exact LeO.refl _)
      | (with_reducible exact LeO.none _)
      | (with_reducible refine LeO.ite ?_ ?_)
      | (with_reducible refine LeO.bind ?_ (fun _ => ?_))
      | exact ih0 _ _ _
      | exact r9IsPrime.mono _ _
      | exact LeO.none _
      | refine LeO.ite ?_ ?_
      | refine LeO.bind ?_ (fun _ => ?_)
def r15Check.j0 : Nat → Bool → Int → List Int → Option (Int)
  | 0, _, _, _ => none
  | k + 1, x18, x102000, x102001 => if x18 = true then (some 1) else ((r9IsIrreducible.f k x102000 x102001).bind fun t104 => (if t104 = true then (some 0) else (some 8)))
def r15Check.f (k : Nat) (a0_0 : Int) (l0_1 : List Int) : Option (Int) := (r9Check.f k a0_0 l0_1).bind fun t102 => (if t102 = 0 then (if (l0_1.length : Int) > 17 then (some 4) else (if (l0_1.length : Int) < 2 then (r15Check.j0 k true a0_0 l0_1) else ((r9Lead.f l0_1).bind fun t103 => (r15Check.j0 k (t103 != 1) a0_0 l0_1)))) else (some t102))
theorem r15Check.mono_l : ∀ k, (∀ y0 y1 y2, LeO (r15Check.j0 k y0 y1 y2) (r15Check.j0 (k + 1) y0 y1 y2))
  | 0 => fun _ _ _ r h => by simp [r15Check.j0] at h
  | k + 1 => by
    have ih0 := r15Check.mono_l k
    · intro y0 y1 y2
      unfold r15Check.j0
      repeat' first
      | (with_reducible exact ih0 _ _ _)
      | (with_reducible exact r9Check.mono _ _ _)
      | (with_reducible exact r9IsIrreducible.mono _ _ _)
      | (with_reducible exact LeO.refl _)
      | (with_reducible exact LeO.none _)
      | (with_reducible refine LeO.ite ?_ ?_)
      | (with_reducible refine LeO.bind ?_ (fun _ => ?_))
      | exact ih0 _ _ _
      | exact r9Check.mono _ _ _
      | exact r9IsIrreducible.mono _ _ _
      | exact LeO.none _
      | refine LeO.ite ?_ ?_
      | refine LeO.bind ?_ (fun _ => ?_)
theorem r15Check.mono : ∀ a0 a1 k, LeO (r15Check.f k a0 a1) (r15Check.f (k + 1) a0 a1) := by
  intro a0 a1 k
  have ih0 := r15Check.mono_l k
  unfold r15Check.f
  repeat' first
      | (with_reducible exact ih0 _ _ _)
      | (with_reducible exact r9Check.mono _ _ _)
      | (with_reducible exact r9IsIrreducible.mono _ _ _)
      | (with_reducible exact LeO.refl _)
      | (with_reducible exact LeO.none _)
      | (with_reducible refine LeO.ite ?_ ?_)
      | (with_reducible refine LeO.bind ?_ (fun _ => ?_))
      | exact ih0 _ _ _
      | exact r9Check.mono _ _ _
      | exact r9IsIrreducible.mono _ _ _
      | exact LeO.none _
      | refine LeO.ite ?_ ?_
      | refine LeO.bind ?_ (fun _ => ?_)
def fi_element.f (k : Nat) (a0_0 : Int) (l0_1 : List Int) (l1 : List Int) : Option (Int) := (pm_Check.f k a0_0 l1).bind fun t102 => (if t102 = 0 then (if (l1.length : Int) ≥ (l0_1.length : Int) then (some 3) else (some 0)) else (some t102))
theorem fi_element.mono : ∀ a0 a1 a2 k, LeO (fi_element.f k a0 a1 a2) (fi_element.f (k + 1) a0 a1 a2) := by
  intro a0 a1 a2 k
  unfold fi_element.f
  repeat' first
      | (with_reducible exact pm_Check.mono _ _ _)
      | (with_reducible exact LeO.refl _)
      | (with_reducible exact LeO.none _)
      | (with_reducible refine LeO.ite ?_ ?_)
      | (with_reducible refine LeO.bind ?_ (fun _ => ?_))
      | exact pm_Check.mono _ _ _
      | exact LeO.none _
      | refine LeO.ite ?_ ?_
      | refine LeO.bind ?_ (fun _ => ?_)
def r15Member.f (k : Nat) (a0_0 : Int) (l0_1 : List Int) (l1 : List Int) : Option (Int) := (r9Check.f k a0_0 l1).bind fun t102 => (if t102 = 0 then (if (l1.length : Int) ≥ (l0_1.length : Int) then (some 3) else (some t102)) else (some t102))
theorem r15Member.mono : ∀ a0 a1 a2 k, LeO (r15Member.f k a0 a1 a2) (r15Member.f (k + 1) a0 a1 a2) := by
  intro a0 a1 a2 k
  unfold r15Member.f
  repeat' first
      | (with_reducible exact r9Check.mono _ _ _)
      | (with_reducible exact LeO.refl _)
      | (with_reducible exact LeO.none _)
      | (with_reducible refine LeO.ite ?_ ?_)
      | (with_reducible refine LeO.bind ?_ (fun _ => ?_))
      | exact r9Check.mono _ _ _
      | exact LeO.none _
      | refine LeO.ite ?_ ?_
      | refine LeO.bind ?_ (fun _ => ?_)
def r9Same.l0 : Nat → List Int → List Int → Int → Option (Bool)
  | 0, _, _, _ => none
  | k + 1, x0, x1, x5 => if x5 < (x0.length : Int) then (if 0 ≤ x5 then (if x5 < (x1.length : Int) then (if (rd x0 x5) = (rd x1 x5) then (r9Same.l0 k x0 x1 (wrap64 (x5 + 1))) else (some false)) else (none)) else (none)) else (some true)
def r9Same.f (k : Nat) (l0 : List Int) (l1 : List Int) : Option (Bool) := if (l0.length : Int) = (l1.length : Int) then (r9Same.l0 k l0 l1 0) else (some false)
theorem r9Same.mono_l : ∀ k, (∀ y0 y1 y2, LeO (r9Same.l0 k y0 y1 y2) (r9Same.l0 (k + 1) y0 y1 y2))
  | 0 => fun _ _ _ r h => by simp [r9Same.l0] at h
  | k + 1 => by
    have ih0 := r9Same.mono_l k
    · intro y0 y1 y2
      unfold r9Same.l0
      repeat' first
      | (with_reducible exact ih0 _ _ _)
      | (with_reducible exact LeO.refl _)
      | (with_reducible exact LeO.none _)
      | (with_reducible refine LeO.ite ?_ ?_)
      | (with_reducible refine LeO.bind ?_ (fun _ => ?_))
      | exact ih0 _ _ _
      | exact LeO.none _
      | refine LeO.ite ?_ ?_
      | refine LeO.bind ?_ (fun _ => ?_)
theorem r9Same.mono : ∀ a0 a1 k, LeO (r9Same.f k a0 a1) (r9Same.f (k + 1) a0 a1) := by
  intro a0 a1 k
  have ih0 := r9Same.mono_l k
  unfold r9Same.f
  repeat' first
      | (with_reducible exact ih0 _ _ _)
      | (with_reducible exact LeO.refl _)
      | (with_reducible exact LeO.none _)
      | (with_reducible refine LeO.ite ?_ ?_)
      | (with_reducible refine LeO.bind ?_ (fun _ => ?_))
      | exact ih0 _ _ _
      | exact LeO.none _
      | refine LeO.ite ?_ ?_
      | refine LeO.bind ?_ (fun _ => ?_)
def r15CheckElement.f (k : Nat) (a0_0 : Int) (l0_1 : List Int) (l1 : List Int) : Option (Int) := (r15Check.f k a0_0 l0_1).bind fun t102 => (if t102 = 0 then ((r15Member.f k a0_0 l0_1 l1).bind fun t103 => (some t103)) else ((r15Check.f k a0_0 l0_1).bind fun t104 => (some t104)))
theorem r15CheckElement.mono : ∀ a0 a1 a2 k, LeO (r15CheckElement.f k a0 a1 a2) (r15CheckElement.f (k + 1) a0 a1 a2) := by
  intro a0 a1 a2 k
  unfold r15CheckElement.f
  repeat' first
      | (with_reducible exact r15Check.mono _ _ _)
      | (with_reducible exact r15Member.mono _ _ _ _)
      | (with_reducible exact LeO.refl _)
      | (with_reducible exact LeO.none _)
      | (with_reducible refine LeO.ite ?_ ?_)
      | (with_reducible refine LeO.bind ?_ (fun _ => ?_))
      | exact r15Check.mono _ _ _
      | exact r15Member.mono _ _ _ _
      | exact LeO.none _
      | refine LeO.ite ?_ ?_
      | refine LeO.bind ?_ (fun _ => ?_)
def fi_Check.j0 : Nat → Bool → Int → List Int → Option (Int)
  | 0, _, _, _ => none
  | k + 1, x20, x102000, x102001 => if x20 = true then (some 1) else ((fp_Irreducible.f k x102000 x102001).bind fun t104 => (if t104 = true then (some 0) else (some 8)))
def fi_Check.f (k : Nat) (a0_0 : Int) (l0_1 : List Int) : Option (Int) := (pm_Check.f k a0_0 l0_1).bind fun t102 => (if t102 = 0 then (if (wrap64 ((l0_1.length : Int) - 1)) > 16 then (some 4) else (if (wrap64 ((l0_1.length : Int) - 1)) < 1 then (fi_Check.j0 k true a0_0 l0_1) else (if 0 ≤ (wrap64 ((l0_1.length : Int) - 1)) then (if (wrap64 ((l0_1.length : Int) - 1)) < (l0_1.length : Int) then (fi_Check.j0 k ((rd l0_1 (wrap64 ((l0_1.length : Int) - 1))) != 1) a0_0 l0_1) else (none)) else (none)))) else (some t102))
theorem fi_Check.mono_l : ∀ k, (∀ y0 y1 y2, LeO (fi_Check.j0 k y0 y1 y2) (fi_Check.j0 (k + 1) y0 y1 y2))
  | 0 => fun _ _ _ r h => by simp [fi_Check.j0] at h
  | k + 1 => by
    have ih0 := fi_Check.mono_l k
    · intro y0 y1 y2
      unfold fi_Check.j0
      repeat' first
      | (with_reducible exact ih0 _ _ _)
      | (with_reducible exact fp_Irreducible.mono _ _ _)
      | (with_reducible exact pm_Check.mono _ _ _)
      | (with_reducible exact LeO.refl _)
      | (with_reducible exact LeO.none _)
      | (with_reducible refine LeO.ite ?_ ?_)
      | (with_reducible refine LeO.bind ?_ (fun _ => ?_))
      | exact ih0 _ _ _
      | exact fp_Irreducible.mono _ _ _
      | exact pm_Check.mono _ _ _
      | exact LeO.none _
      | refine LeO.ite ?_ ?_
      | refine LeO.bind ?_ (fun _ => ?_)
theorem fi_Check.mono : ∀ a0 a1 k, LeO (fi_Check.f k a0 a1) (fi_Check.f (k + 1) a0 a1) := by
  intro a0 a1 k
  have ih0 := fi_Check.mono_l k
  unfold fi_Check.f
  repeat' first
      | (with_reducible exact ih0 _ _ _)
      | (with_reducible exact fp_Irreducible.mono _ _ _)
      | (with_reducible exact pm_Check.mono _ _ _)
      | (with_reducible exact LeO.refl _)
      | (with_reducible exact LeO.none _)
      | (with_reducible refine LeO.ite ?_ ?_)
      | (with_reducible refine LeO.bind ?_ (fun _ => ?_))
      | exact ih0 _ _ _
      | exact fp_Irreducible.mono _ _ _
      | exact pm_Check.mono _ _ _
      | exact LeO.none _
      | refine LeO.ite ?_ ?_
      | refine LeO.bind ?_ (fun _ => ?_)
def fi_check.l0 : Nat → List (List Int) → Int → Int → Int → List Int → Option (Int)
  | 0, _, _, _, _, _ => none
  | k + 1, x14, x15, x16, x102000, x102001 => if x16 < x15 then (if 0 ≤ x16 then (if x16 < (x14.length : Int) then ((fi_element.f k x102000 x102001 (rd_L1 x14 x16)).bind fun t104 => (if t104 = 0 then (fi_check.l0 k x14 x15 (wrap64 (x16 + 1)) x102000 x102001) else (some t104))) else (none)) else (none)) else (some 0)
def fi_check.f (k : Nat) (a0_0 : Int) (l0_1 : List Int) (l1 : List (List Int)) : Option (Int) := (fi_Check.f k a0_0 l0_1).bind fun t102 => (if t102 = 0 then (fi_check.l0 k l1 (l1.length : Int) 0 a0_0 l0_1) else (some t102))
theorem fi_check.mono_l : ∀ k, (∀ y0 y1 y2 y3 y4, LeO (fi_check.l0 k y0 y1 y2 y3 y4) (fi_check.l0 (k + 1) y0 y1 y2 y3 y4))
  | 0 => fun _ _ _ _ _ r h => by simp [fi_check.l0] at h
  | k + 1 => by
    have ih0 := fi_check.mono_l k
    · intro y0 y1 y2 y3 y4
      unfold fi_check.l0
      repeat' first
      | (with_reducible exact ih0 _ _ _ _ _)
      | (with_reducible exact fi_Check.mono _ _ _)
      | (with_reducible exact fi_element.mono _ _ _ _)
      | (with_reducible exact LeO.refl _)
      | (with_reducible exact LeO.none _)
      | (with_reducible refine LeO.ite ?_ ?_)
      | (with_reducible refine LeO.bind ?_ (fun _ => ?_))
      | exact ih0 _ _ _ _ _
      | exact fi_Check.mono _ _ _
      | exact fi_element.mono _ _ _ _
      | exact LeO.none _
      | refine LeO.ite ?_ ?_
      | refine LeO.bind ?_ (fun _ => ?_)
theorem fi_check.mono : ∀ a0 a1 a2 k, LeO (fi_check.f k a0 a1 a2) (fi_check.f (k + 1) a0 a1 a2) := by
  intro a0 a1 a2 k
  have ih0 := fi_check.mono_l k
  unfold fi_check.f
  repeat' first
      | (with_reducible exact ih0 _ _ _ _ _)
      | (with_reducible exact fi_Check.mono _ _ _)
      | (with_reducible exact fi_element.mono _ _ _ _)
      | (with_reducible exact LeO.refl _)
      | (with_reducible exact LeO.none _)
      | (with_reducible refine LeO.ite ?_ ?_)
      | (with_reducible refine LeO.bind ?_ (fun _ => ?_))
      | exact ih0 _ _ _ _ _
      | exact fi_Check.mono _ _ _
      | exact fi_element.mono _ _ _ _
      | exact LeO.none _
      | refine LeO.ite ?_ ?_
      | refine LeO.bind ?_ (fun _ => ?_)
def fp_Xgcd.l0 : Nat → Int → List Int → List Int → List Int → List Int → List Int → List Int → Option (List Int × List Int × List Int)
  | 0, _, _, _, _, _, _, _ => none
  | k + 1, x0, x1, x2, x9, x10, x11, x12 => if (x10.length : Int) > 0 then ((fp_DivMod.f k x0 x9 x10).bind fun bt112 => ((fp_Mul.f k x0 bt112.1 x12).bind fun t118 => ((fp_Sub.f k x0 x11 t118).bind fun t121 => (fp_Xgcd.l0 k x0 x1 x2 x10 bt112.2 x12 t121)))) else (if 0 ≤ (wrap64 ((x9.length : Int) - 1)) then (if (wrap64 ((x9.length : Int) - 1)) < (x9.length : Int) then ((fp_Inv.f k x0 (rd x9 (wrap64 ((x9.length : Int) - 1)))).bind fun t125 => ((fp_Scale.f k x0 x9 t125).bind fun t126 => ((fp_DivMod.f k x0 x2 t126).bind fun bt129 => ((fp_Scale.f k x0 x11 t125).bind fun t135 => ((fp_Rem.f k x0 t135 bt129.1).bind fun t138 => ((fp_Mul.f k x0 t138 x1).bind fun t141 => ((fp_Sub.f k x0 t126 t141).bind fun t144 => ((fp_DivMod.f k x0 t144 x2).bind fun bt147 => (some (t126, t138, bt147.1)))))))))) else (none)) else (none))
def fp_Xgcd.f (k : Nat) (a0 : Int) (l1 : List Int) (l2 : List Int) : Option (List Int × List Int × List Int) := if (l2.length : Int) = 0 then (if (l1.length : Int) = 0 then (some (([] : List Int), ([] : List Int), ([] : List Int))) else ((fp_Monic.f k a0 l1).bind fun t101 => (if 0 ≤ (wrap64 ((l1.length : Int) - 1)) then (if (wrap64 ((l1.length : Int) - 1)) < (l1.length : Int) then ((fp_Inv.f k a0 (rd l1 (wrap64 ((l1.length : Int) - 1)))).bind fun t105 => (some (t101, (([t105] : List Int)), ([] : List Int)))) else (none)) else (none)))) else (fp_Xgcd.l0 k a0 l1 l2 l1 l2 (([1] : List Int)) ([] : List Int))
theorem fp_Xgcd.mono_l : ∀ k, (∀ y0 y1 y2 y3 y4 y5 y6, LeO (fp_Xgcd.l0 k y0 y1 y2 y3 y4 y5 y6) (fp_Xgcd.l0 (k + 1) y0 y1 y2 y3 y4 y5 y6))
  | 0 => fun _ _ _ _ _ _ _ r h => by simp [fp_Xgcd.l0] at h
  | k + 1 => by
    have ih0 := fp_Xgcd.mono_l k
    · intro y0 y1 y2 y3 y4 y5 y6
      unfold fp_Xgcd.l0
      repeat' first
      | (with_reducible exact ih0 _ _ _ _ _ _ _)
      | (with_reducible exact fp_DivMod.mono _ _ _ _)
      | (with_reducible exact fp_Inv.mono _ _ _)
      | (with_reducible exact fp_Monic.mono _ _ _)
      | (with_reducible exact fp_Mul.mono _ _ _ _)
      | (with_reducible exact fp_Rem.mono _ _ _ _)
      | (with_reducible exact fp_Scale.mono _ _ _ _)
      | (with_reducible exact fp_Sub.mono _ _ _ _)
      | (with_reducible exact LeO.refl _)
      | (with_reducible exact LeO.none _)
      | (with_reducible refine LeO.ite ?_ ?_)
      | (with_reducible refine LeO.bind ?_ (fun _ => ?_))
      | exact ih0 _ _ _ _ _ _ _
      | exact fp_DivMod.mono _ _ _ _
      | exact fp_Inv.mono _ _ _
      | exact fp_Monic.mono _ _ _
      | exact fp_Mul.mono _ _ _ _
      | exact fp_Rem.mono _ _ _ _
      | exact fp_Scale.mono _ _ _ _
      | exact fp_Sub.mono _ _ _ _
      | exact LeO.none _
      | refine LeO.ite ?_ ?_
      | refine LeO.bind ?_ (fun _ => ?_)
theorem fp_Xgcd.mono : ∀ a0 a1 a2 k, LeO (fp_Xgcd.f k a0 a1 a2) (fp_Xgcd.f (k + 1) a0 a1 a2) := by
  intro a0 a1 a2 k
  have ih0 := fp_Xgcd.mono_l k
  unfold fp_Xgcd.f
  repeat' first
      | (with_reducible exact ih0 _ _ _ _ _ _ _)
      | (with_reducible exact fp_DivMod.mono _ _ _ _)
      | (with_reducible exact fp_Inv.mono _ _ _)
      | (with_reducible exact fp_Monic.mono _ _ _)
      | (with_reducible exact fp_Mul.mono _ _ _ _)
      | (with_reducible exact fp_Rem.mono _ _ _ _)
      | (with_reducible exact fp_Scale.mono _ _ _ _)
      | (with_reducible exact fp_Sub.mono _ _ _ _)
      | (with_reducible exact LeO.refl _)
      | (with_reducible exact LeO.none _)
      | (with_reducible refine LeO.ite ?_ ?_)
      | (with_reducible refine LeO.bind ?_ (fun _ => ?_))
      | exact ih0 _ _ _ _ _ _ _
      | exact fp_DivMod.mono _ _ _ _
      | exact fp_Inv.mono _ _ _
      | exact fp_Monic.mono _ _ _
      | exact fp_Mul.mono _ _ _ _
      | exact fp_Rem.mono _ _ _ _
      | exact fp_Scale.mono _ _ _ _
      | exact fp_Sub.mono _ _ _ _
      | exact LeO.none _
      | refine LeO.ite ?_ ?_
      | refine LeO.bind ?_ (fun _ => ?_)
def gFInverse.f (k : Nat) (a0_0 : Int) (l0_1 : List Int) (l1 : List Int) : Option (List Int) := (fp_Xgcd.f k a0_0 l1 l0_1).bind fun bt102 => ((fp_Rem.f k a0_0 bt102.2.1 l0_1).bind fun t111 => (some t111))
theorem gFInverse.mono : ∀ a0 a1 a2 k, LeO (gFInverse.f k a0 a1 a2) (gFInverse.f (k + 1) a0 a1 a2) := by
  intro a0 a1 a2 k
  unfold gFInverse.f
  repeat' first
      | (with_reducible exact fp_Rem.mono _ _ _ _)
      | (with_reducible exact fp_Xgcd.mono _ _ _ _)
      | (with_reducible exact LeO.refl _)
      | (with_reducible exact LeO.none _)
      | (with_reducible refine LeO.ite ?_ ?_)
      | (with_reducible refine LeO.bind ?_ (fun _ => ?_))
      | exact fp_Rem.mono _ _ _ _
      | exact fp_Xgcd.mono _ _ _ _
      | exact LeO.none _
      | refine LeO.ite ?_ ?_
      | refine LeO.bind ?_ (fun _ => ?_)
def gFMul.f (k : Nat) (a0_0 : Int) (l0_1 : List Int) (l1 : List Int) (l2 : List Int) : Option (List Int) := (fp_MulMod.f k a0_0 l1 l2 l0_1).bind fun t102 => (some t102)
theorem gFMul.mono : ∀ a0 a1 a2 a3 k, LeO (gFMul.f k a0 a1 a2 a3) (gFMul.f (k + 1) a0 a1 a2 a3) := by
  intro a0 a1 a2 a3 k
  unfold gFMul.f
  repeat' first
      | (with_reducible exact fp_MulMod.mono _ _ _ _ _)
      | (with_reducible exact LeO.refl _)
      | (with_reducible exact LeO.none _)
      | (with_reducible refine LeO.ite ?_ ?_)
      | (with_reducible refine LeO.bind ?_ (fun _ => ?_))
      | exact fp_MulMod.mono _ _ _ _ _
      | exact LeO.none _
      | refine LeO.ite ?_ ?_
      | refine LeO.bind ?_ (fun _ => ?_)
def fi_Mul.f (k : Nat) (a0_0 : Int) (l0_1 : List Int) (l1 : List Int) (l2 : List Int) : Option (List Int × Int) := (fi_check.f k a0_0 l0_1 (([l1, l2] : List (List Int)))).bind fun t105 => (if t105 = 0 then ((gFMul.f k a0_0 l0_1 l1 l2).bind fun t106 => (some (t106, 0))) else (some (([] : List Int), t105)))
theorem fi_Mul.mono : ∀ a0 a1 a2 a3 k, LeO (fi_Mul.f k a0 a1 a2 a3) (fi_Mul.f (k + 1) a0 a1 a2 a3) := by
  intro a0 a1 a2 a3 k
  unfold fi_Mul.f
  repeat' first
      | (with_reducible exact fi_check.mono _ _ _ _)
      | (with_reducible exact gFMul.mono _ _ _ _ _)
      | (with_reducible exact LeO.refl _)
      | (with_reducible exact LeO.none _)
      | (with_reducible refine LeO.ite ?_ ?_)
      | (with_reducible refine LeO.bind ?_ (fun _ => ?_))
      | exact fi_check.mono _ _ _ _
      | exact gFMul.mono _ _ _ _ _
      | exact LeO.none _
      | refine LeO.ite ?_ ?_
      | refine LeO.bind ?_ (fun _ => ?_)
def gFDegree.f (a0_0 : Int) (l0_1 : List Int) : Option (Int) := some (wrap64 ((l0_1.length : Int) - 1))
def gFSize.l0 : Nat → Int → Int → Int → Int → List Int → Option (Int × Bool)
  | 0, _, _, _, _, _ => none
  | k + 1, x4, x6, x7, x102000, x102001 => if x7 < x6 then (if (wrap64 (x4 * x102000)) > 2147483647 then (some (0, false)) else (gFSize.l0 k (wrap64 (x4 * x102000)) x6 (wrap64 (x7 + 1)) x102000 x102001)) else (some (x4, true))
def gFSize.f (k : Nat) (a0_0 : Int) (l0_1 : List Int) : Option (Int × Bool) := (gFDegree.f a0_0 l0_1).bind fun t102 => (gFSize.l0 k 1 t102 0 a0_0 l0_1)
theorem gFSize.mono_l : ∀ k, (∀ y0 y1 y2 y3 y4, LeO (gFSize.l0 k y0 y1 y2 y3 y4) (gFSize.l0 (k + 1) y0 y1 y2 y3 y4))
  | 0 => fun _ _ _ _ _ r h => by simp [gFSize.l0] at h
  | k + 1 => by
    have ih0 := gFSize.mono_l k
    · intro y0 y1 y2 y3 y4
      unfold gFSize.l0
      repeat' first
      | (with_reducible exact ih0 _ _ _ _ _)
      | (with_reducible exact LeO.refl _)
      | (with_reducible exact LeO.none _)
      | (with_reducible refine LeO.ite ?_ ?_)
      | (with_reducible refine LeO.bind ?_ (fun _ => ?_))
      | exact ih0 _ _ _ _ _
      | exact LeO.none _
      | refine LeO.ite ?_ ?_
      | refine LeO.bind ?_ (fun _ => ?_)
theorem gFSize.mono : ∀ a0 a1 k, LeO (gFSize.f k a0 a1) (gFSize.f (k + 1) a0 a1) := by
  intro a0 a1 k
  have ih0 := gFSize.mono_l k
  unfold gFSize.f
  repeat' first
      | (with_reducible exact ih0 _ _ _ _ _)
      | (with_reducible exact LeO.refl _)
      | (with_reducible exact LeO.none _)
      | (with_reducible refine LeO.ite ?_ ?_)
      | (with_reducible refine LeO.bind ?_ (fun _ => ?_))
      | exact ih0 _ _ _ _ _
      | exact LeO.none _
      | refine LeO.ite ?_ ?_
      | refine LeO.bind ?_ (fun _ => ?_)
def gf_IsOne.f (l0 : List Int) : Option (Bool) := if (l0.length : Int) = 1 then (if 0 < (l0.length : Int) then (some ((rd l0 0) == 1)) else (none)) else (some false)
def gFElement.l0 : Nat → Int → List Int → Int → List Int → Option (List Int)
  | 0, _, _, _, _ => none
  | k + 1, x1, x5, x102000, x102001 => if x1 > 0 then (if x102000 = 0 then (none) else (if x5.length < 17592186044416 then (gFElement.l0 k (wrap64 (Int.tdiv x1 x102000)) (x5 ++ [Int.tmod x1 x102000]) x102000 x102001) else (none))) else (some x5)
def gFElement.f (k : Nat) (a0_0 : Int) (l0_1 : List Int) (a1 : Int) : Option (List Int) := gFElement.l0 k a1 ([] : List Int) a0_0 l0_1
theorem gFElement.mono_l : ∀ k, (∀ y0 y1 y2 y3, LeO (gFElement.l0 k y0 y1 y2 y3) (gFElement.l0 (k + 1) y0 y1 y2 y3))
  | 0 => fun _ _ _ _ r h => by simp [gFElement.l0] at h
  | k + 1 => by
    have ih0 := gFElement.mono_l k
    · intro y0 y1 y2 y3
      unfold gFElement.l0
      repeat' first
      | (with_reducible exact ih0 _ _ _ _)
      | (with_reducible exact LeO.refl _)
      | (with_reducible exact LeO.none _)
      | (with_reducible refine LeO.ite ?_ ?_)
      | (with_reducible refine LeO.bind ?_ (fun _ => ?_))
      | exact ih0 _ _ _ _
      | exact LeO.none _
      | refine LeO.ite ?_ ?_
      | refine LeO.bind ?_ (fun _ => ?_)
theorem gFElement.mono : ∀ a0 a1 a2 k, LeO (gFElement.f k a0 a1 a2) (gFElement.f (k + 1) a0 a1 a2) := by
  intro a0 a1 a2 k
  have ih0 := gFElement.mono_l k
  unfold gFElement.f
  repeat' first
      | (with_reducible exact ih0 _ _ _ _)
      | (with_reducible exact LeO.refl _)
      | (with_reducible exact LeO.none _)
      | (with_reducible refine LeO.ite ?_ ?_)
      | (with_reducible refine LeO.bind ?_ (fun _ => ?_))
      | exact ih0 _ _ _ _
      | exact LeO.none _
      | refine LeO.ite ?_ ?_
      | refine LeO.bind ?_ (fun _ => ?_)
def r15Degree.f (a0_0 : Int) (l0_1 : List Int) : Option (Int) := some (wrap64 ((l0_1.length : Int) - 1))
def r15Size.l0 : Nat → Int → Int → Int → List Int → Option (Int)
  | 0, _, _, _, _ => none
  | k + 1, x3, x4, x102000, x102001 => (r15Degree.f x102000 x102001).bind fun t102 => (if x4 < t102 then (if x102000 = 0 then (none) else (if x3 > (wrap64 (Int.tdiv (2147483647 : Int) x102000)) then (some 0) else (r15Size.l0 k (wrap64 (x3 * x102000)) (wrap64 (x4 + 1)) x102000 x102001))) else (some x3))
def r15Size.f (k : Nat) (a0_0 : Int) (l0_1 : List Int) : Option (Int) := r15Size.l0 k 1 0 a0_0 l0_1
theorem r15Size.mono_l : ∀ k, (∀ y0 y1 y2 y3, LeO (r15Size.l0 k y0 y1 y2 y3) (r15Size.l0 (k + 1) y0 y1 y2 y3))
  | 0 => fun _ _ _ _ r h => by simp [r15Size.l0] at h
  | k + 1 => by
    have ih0 := r15Size.mono_l k
    · intro y0 y1 y2 y3
      unfold r15Size.l0
      repeat' first
      | (with_reducible exact ih0 _ _ _ _)
      | (with_reducible exact LeO.refl _)
      | (with_reducible exact LeO.none _)
      | (with_reducible refine LeO.ite ?_ ?_)
      | (with_reducible refine LeO.bind ?_ (fun _ => ?_))
      | exact ih0 _ _ _ _
      | exact LeO.none _
      | refine LeO.ite ?_ ?_
      | refine LeO.bind ?_ (fun _ => ?_)
theorem r15Size.mono : ∀ a0 a1 k, LeO (r15Size.f k a0 a1) (r15Size.f (k + 1) a0 a1) := by
  intro a0 a1 k
  have ih0 := r15Size.mono_l k
  unfold r15Size.f
  repeat' first
      | (with_reducible exact ih0 _ _ _ _)
      | (with_reducible exact LeO.refl _)
      | (with_reducible exact LeO.none _)
      | (with_reducible refine LeO.ite ?_ ?_)
      | (with_reducible refine LeO.bind ?_ (fun _ => ?_))
      | exact ih0 _ _ _ _
      | exact LeO.none _
      | refine LeO.ite ?_ ?_
      | refine LeO.bind ?_ (fun _ => ?_)
def r15Few.f (k : Nat) (a0_0 : Int) (l0_1 : List Int) (a1 : Int) : Option (Bool) := if (l0_1.length : Int) ≤ 17 then ((r15Check.f k a0_0 l0_1).bind fun t102 => (if t102 = 0 then ((r15Size.f k a0_0 l0_1).bind fun t103 => (if t103 > 0 then (some (decide (t103 ≤ a1))) else (some false))) else (some false))) else (some false)
theorem r15Few.mono : ∀ a0 a1 a2 k, LeO (r15Few.f k a0 a1 a2) (r15Few.f (k + 1) a0 a1 a2) := by
  intro a0 a1 a2 k
  unfold r15Few.f
  repeat' first
      | (with_reducible exact r15Check.mono _ _ _)
      | (with_reducible exact r15Size.mono _ _ _)
      | (with_reducible exact LeO.refl _)
      | (with_reducible exact LeO.none _)
      | (with_reducible refine LeO.ite ?_ ?_)
      | (with_reducible refine LeO.bind ?_ (fun _ => ?_))
      | exact r15Check.mono _ _ _
      | exact r15Size.mono _ _ _
      | exact LeO.none _
      | refine LeO.ite ?_ ?_
      | refine LeO.bind ?_ (fun _ => ?_)
def gFOne.f (a0_0 : Int) (l0_1 : List Int) : Option (List Int) := some (([1] : List Int))
def gFPow.l0 : Nat → List Int → Int → List Int → Int → List Int → Option (List Int)
  | 0, _, _, _, _, _ => none
  | k + 1, x1, x2, x7, x102000, x102001 => if x2 > 0 then (if (Go.bits .and .i64 x2 1) = 1 then ((gFMul.f k x102000 x102001 x7 x1).bind fun t105 => ((gFMul.f k x102000 x102001 x1 x1).bind fun t108 => (gFPow.l0 k t108 (x2 / 2) t105 x102000 x102001))) else ((gFMul.f k x102000 x102001 x1 x1).bind fun t111 => (gFPow.l0 k t111 (x2 / 2) x7 x102000 x102001))) else (some x7)
def gFPow.f (k : Nat) (a0_0 : Int) (l0_1 : List Int) (l1 : List Int) (a2 : Int) : Option (List Int) := (gFOne.f a0_0 l0_1).bind fun t102 => (gFPow.l0 k l1 a2 t102 a0_0 l0_1)
theorem gFPow.mono_l : ∀ k, (∀ y0 y1 y2 y3 y4, LeO (gFPow.l0 k y0 y1 y2 y3 y4) (gFPow.l0 (k + 1) y0 y1 y2 y3 y4))
  | 0 => fun _ _ _ _ _ r h => by simp [gFPow.l0] at h
  | k + 1 => by
    have ih0 := gFPow.mono_l k
    · intro y0 y1 y2 y3 y4
      unfold gFPow.l0
      repeat' first
      | (with_reducible exact ih0 _ _ _ _ _)
      | (with_reducible exact gFMul.mono _ _ _ _ _)
      | (with_reducible exact LeO.refl _)
      | (with_reducible exact LeO.none _)
      | (with_reducible refine LeO.ite ?_ ?_)
      | (with_reducible refine LeO.bind ?_ (fun _ => ?_))
      | exact ih0 _ _ _ _ _
      | exact gFMul.mono _ _ _ _ _
      | exact LeO.none _
      | refine LeO.ite ?_ ?_
      | refine LeO.bind ?_ (fun _ => ?_)
theorem gFPow.mono : ∀ a0 a1 a2 a3 k, LeO (gFPow.f k a0 a1 a2 a3) (gFPow.f (k + 1) a0 a1 a2 a3) := by
  intro a0 a1 a2 a3 k
  have ih0 := gFPow.mono_l k
  unfold gFPow.f
  repeat' first
      | (with_reducible exact ih0 _ _ _ _ _)
      | (with_reducible exact gFMul.mono _ _ _ _ _)
      | (with_reducible exact LeO.refl _)
      | (with_reducible exact LeO.none _)
      | (with_reducible refine LeO.ite ?_ ?_)
      | (with_reducible refine LeO.bind ?_ (fun _ => ?_))
      | exact ih0 _ _ _ _ _
      | exact gFMul.mono _ _ _ _ _
      | exact LeO.none _
      | refine LeO.ite ?_ ?_
      | refine LeO.bind ?_ (fun _ => ?_)
def fi_size.f (k : Nat) (a0_0 : Int) (l0_1 : List Int) (a1 : Int) : Option (Int × Int) := (gFSize.f k a0_0 l0_1).bind fun bt102 => (if bt102.2 = true then (if bt102.1 > a1 then (some (0, 5)) else (some (bt102.1, 0))) else (some (0, 5)))
theorem fi_size.mono : ∀ a0 a1 a2 k, LeO (fi_size.f k a0 a1 a2) (fi_size.f (k + 1) a0 a1 a2) := by
  intro a0 a1 a2 k
  unfold fi_size.f
  repeat' first
      | (with_reducible exact gFSize.mono _ _ _)
      | (with_reducible exact LeO.refl _)
      | (with_reducible exact LeO.none _)
      | (with_reducible refine LeO.ite ?_ ?_)
      | (with_reducible refine LeO.bind ?_ (fun _ => ?_))
      | exact gFSize.mono _ _ _
      | exact LeO.none _
      | refine LeO.ite ?_ ?_
      | refine LeO.bind ?_ (fun _ => ?_)
def rs_Factor.f (k : Nat) (a0 : Int) : Option ((List (S134)) × Int) := (rs_bad.f (([a0] : List Int))).bind fun t104 => (if t104 = true then (some (([] : List (S134)), 3)) else ((rs_factor.f k a0).bind fun t105 => (some (t105, 0))))
theorem rs_Factor.mono : ∀ a0 k, LeO (rs_Factor.f k a0) (rs_Factor.f (k + 1) a0) := by
  intro a0 k
  unfold rs_Factor.f
  repeat' first
      | (with_reducible exact rs_factor.mono _ _)
      | (with_reducible exact LeO.refl _)
      | (with_reducible exact LeO.none _)
      | (with_reducible refine LeO.ite ?_ ?_)
      | (with_reducible refine LeO.bind ?_ (fun _ => ?_))
      | exact rs_factor.mono _ _
      | exact LeO.none _
      | refine LeO.ite ?_ ?_
      | refine LeO.bind ?_ (fun _ => ?_)
def gFGenerates.l0 : Nat → List Int → Int → List (S134) → Int → Int → Int → List Int → Option (Bool)
  | 0, _, _, _, _, _, _, _ => none
  | k + 1, x1, x2, x17, x18, x19, x102000, x102001 => if x19 < x18 then (if 0 ≤ x19 then (if x19 < (x17.length : Int) then (if ((rd_T134 x17 x19).f0) = 0 then (none) else ((gFPow.f k x102000 x102001 x1 (wrap64 (Int.tdiv (wrap64 (x2 - 1)) ((rd_T134 x17 x19).f0)))).bind fun t108 => ((gf_IsOne.f t108).bind fun t111 => (if t111 = true then (some false) else (gFGenerates.l0 k x1 x2 x17 x18 (wrap64 (x19 + 1)) x102000 x102001))))) else (none)) else (none)) else (some (decide ((x1.length : Int) > 0)))
def gFGenerates.f (k : Nat) (a0_0 : Int) (l0_1 : List Int) (l1 : List Int) (a2 : Int) : Option (Bool) := (rs_Factor.f k (wrap64 (a2 - 1))).bind fun bt102 => (gFGenerates.l0 k l1 a2 bt102.1 (bt102.1.length : Int) 0 a0_0 l0_1)
theorem gFGenerates.mono_l : ∀ k, (∀ y0 y1 y2 y3 y4 y5 y6, LeO (gFGenerates.l0 k y0 y1 y2 y3 y4 y5 y6) (gFGenerates.l0 (k + 1) y0 y1 y2 y3 y4 y5 y6))
  | 0 => fun _ _ _ _ _ _ _ r h => by simp [gFGenerates.l0] at h
  | k + 1 => by
    have ih0 := gFGenerates.mono_l k
    · intro y0 y1 y2 y3 y4 y5 y6
      unfold gFGenerates.l0
      repeat' first
      | (with_reducible exact ih0 _ _ _ _ _ _ _)
      | (with_reducible exact gFPow.mono _ _ _ _ _)
      | (with_reducible exact rs_Factor.mono _ _)
      | (with_reducible exact LeO.refl _)
      | (with_reducible exact LeO.none _)
      | (with_reducible refine LeO.ite ?_ ?_)
      | (with_reducible refine LeO.bind ?_ (fun _ => ?_))
      | exact ih0 _ _ _ _ _ _ _
      | exact gFPow.mono _ _ _ _ _
      | exact rs_Factor.mono _ _
      | exact LeO.none _
      | refine LeO.ite ?_ ?_
      | refine LeO.bind ?_ (fun _ => ?_)
theorem gFGenerates.mono : ∀ a0 a1 a2 a3 k, LeO (gFGenerates.f k a0 a1 a2 a3) (gFGenerates.f (k + 1) a0 a1 a2 a3) := by
  intro a0 a1 a2 a3 k
  have ih0 := gFGenerates.mono_l k
  unfold gFGenerates.f
  repeat' first
      | (with_reducible exact ih0 _ _ _ _ _ _ _)
      | (with_reducible exact gFPow.mono _ _ _ _ _)
      | (with_reducible exact rs_Factor.mono _ _)
      | (with_reducible exact LeO.refl _)
      | (with_reducible exact LeO.none _)
      | (with_reducible refine LeO.ite ?_ ?_)
      | (with_reducible refine LeO.bind ?_ (fun _ => ?_))
      | exact ih0 _ _ _ _ _ _ _
      | exact gFPow.mono _ _ _ _ _
      | exact rs_Factor.mono _ _
      | exact LeO.none _
      | refine LeO.ite ?_ ?_
      | refine LeO.bind ?_ (fun _ => ?_)
def fi_Generator.l0 (kk : Nat) : Nat → Int → List Int → Int → Nat → Option (List Int × Int)
  | 0, _, _, _, _ => none
  | k + 1, p, l, q, i => if (i : Int) < q then (gFElement.f kk p l (i : Int)).bind fun a => (gFGenerates.f kk p l a q).bind fun b => if b = true then some (a, 0) else fi_Generator.l0 kk k p l q (i + 1) else some ([], 10)
def fi_Generator.f (k : Nat) (a0_0 : Int) (l0_1 : List Int) : Option (List Int × Int) := (fi_Check.f k a0_0 l0_1).bind fun e => if e = 0 then (fi_size.f k a0_0 l0_1 2147483647).bind fun r => if r.2 = 0 then (if 0 ≤ r.1 ∧ r.1 ≤ 4294967296 then fi_Generator.l0 k k a0_0 l0_1 r.1 0 else none) else some ([], r.2) else some ([], e)
theorem fi_Generator.mono_l (kk : Nat) : ∀ k p l q i, LeO (fi_Generator.l0 kk k p l q i) (fi_Generator.l0 (kk + 1) (k + 1) p l q i)
  | 0 => fun _ _ _ _ r h => by simp [fi_Generator.l0] at h
  | k + 1 => by
    intro p l q i
    have ih0 := fi_Generator.mono_l kk k
    have ih1 := gFElement.mono
    have ih2 := gFGenerates.mono
    unfold fi_Generator.l0
    repeat' first
      | (with_reducible exact ih0 _ _ _ _)
      | (with_reducible exact ih1 _ _ _ _)
      | (with_reducible exact ih2 _ _ _ _ _)
      | (with_reducible exact LeO.refl _)
      | (with_reducible refine LeO.ite ?_ ?_)
      | (with_reducible refine LeO.bind ?_ (fun _ => ?_))
theorem fi_Generator.mono (a0_0 : Int) (l0_1 : List Int) (k : Nat) : LeO (fi_Generator.f k a0_0 l0_1) (fi_Generator.f (k + 1) a0_0 l0_1) := by
  have ih0 := fi_Generator.mono_l k k a0_0 l0_1
  have ih1 := fi_Check.mono
  have ih2 := fi_size.mono
  unfold fi_Generator.f
  repeat' first
    | (with_reducible exact ih0 _ _)
    | (with_reducible exact ih1 _ _ _)
    | (with_reducible exact ih2 _ _ _ _)
    | (with_reducible exact LeO.refl _)
    | (with_reducible refine LeO.ite ?_ ?_)
    | (with_reducible refine LeO.bind ?_ (fun _ => ?_))
def gFNumber.l0 : Nat → List Int → Int → Int → Int → List Int → Option (Int)
  | 0, _, _, _, _, _ => none
  | k + 1, x1, x5, x6, x102000, x102001 => if x6 ≥ 0 then (if 0 ≤ x6 then (if x6 < (x1.length : Int) then (gFNumber.l0 k x1 (wrap64 ((wrap64 (x5 * x102000)) + (rd x1 x6))) (wrap64 (x6 - 1)) x102000 x102001) else (none)) else (none)) else (some x5)
def gFNumber.f (k : Nat) (a0_0 : Int) (l0_1 : List Int) (l1 : List Int) : Option (Int) := gFNumber.l0 k l1 0 (wrap64 ((l1.length : Int) - 1)) a0_0 l0_1
theorem gFNumber.mono_l : ∀ k, (∀ y0 y1 y2 y3 y4, LeO (gFNumber.l0 k y0 y1 y2 y3 y4) (gFNumber.l0 (k + 1) y0 y1 y2 y3 y4))
  | 0 => fun _ _ _ _ _ r h => by simp [gFNumber.l0] at h
  | k + 1 => by
    have ih0 := gFNumber.mono_l k
    · intro y0 y1 y2 y3 y4
      unfold gFNumber.l0
      repeat' first
      | (with_reducible exact ih0 _ _ _ _ _)
      | (with_reducible exact LeO.refl _)
      | (with_reducible exact LeO.none _)
      | (with_reducible refine LeO.ite ?_ ?_)
      | (with_reducible refine LeO.bind ?_ (fun _ => ?_))
      | exact ih0 _ _ _ _ _
      | exact LeO.none _
      | refine LeO.ite ?_ ?_
      | refine LeO.bind ?_ (fun _ => ?_)
theorem gFNumber.mono : ∀ a0 a1 a2 k, LeO (gFNumber.f k a0 a1 a2) (gFNumber.f (k + 1) a0 a1 a2) := by
  intro a0 a1 a2 k
  have ih0 := gFNumber.mono_l k
  unfold gFNumber.f
  repeat' first
      | (with_reducible exact ih0 _ _ _ _ _)
      | (with_reducible exact LeO.refl _)
      | (with_reducible exact LeO.none _)
      | (with_reducible refine LeO.ite ?_ ?_)
      | (with_reducible refine LeO.bind ?_ (fun _ => ?_))
      | exact ih0 _ _ _ _ _
      | exact LeO.none _
      | refine LeO.ite ?_ ?_
      | refine LeO.bind ?_ (fun _ => ?_)
def r15Mul.f (k : Nat) (a0_0 : Int) (l0_1 : List Int) (l1 : List Int) (l2 : List Int) : Option (List Int) := (r9MulMod.f k a0_0 l1 l2 l0_1).bind fun t102 => (some t102)
theorem r15Mul.mono : ∀ a0 a1 a2 a3 k, LeO (r15Mul.f k a0 a1 a2 a3) (r15Mul.f (k + 1) a0 a1 a2 a3) := by
  intro a0 a1 a2 a3 k
  unfold r15Mul.f
  repeat' first
      | (with_reducible exact r9MulMod.mono _ _ _ _ _)
      | (with_reducible exact LeO.refl _)
      | (with_reducible exact LeO.none _)
      | (with_reducible refine LeO.ite ?_ ?_)
      | (with_reducible refine LeO.bind ?_ (fun _ => ?_))
      | exact r9MulMod.mono _ _ _ _ _
      | exact LeO.none _
      | refine LeO.ite ?_ ?_
      | refine LeO.bind ?_ (fun _ => ?_)
def r15MultiplicativeOrder.l0 : Nat → List Int → Int → List Int → Int → List Int → Option (Int)
  | 0, _, _, _, _, _ => none
  | k + 1, x1, x5, x6, x102000, x102001 => (r9Same.f k x6 (([1] : List Int))).bind fun t105 => (if t105 = true then (some x5) else ((r15Mul.f k x102000 x102001 x6 x1).bind fun t106 => (r15MultiplicativeOrder.l0 k x1 (wrap64 (x5 + 1)) t106 x102000 x102001)))
def r15MultiplicativeOrder.f (k : Nat) (a0_0 : Int) (l0_1 : List Int) (l1 : List Int) : Option (Int) := r15MultiplicativeOrder.l0 k l1 1 l1 a0_0 l0_1
theorem r15MultiplicativeOrder.mono_l : ∀ k, (∀ y0 y1 y2 y3 y4, LeO (r15MultiplicativeOrder.l0 k y0 y1 y2 y3 y4) (r15MultiplicativeOrder.l0 (k + 1) y0 y1 y2 y3 y4))
  | 0 => fun _ _ _ _ _ r h => by simp [r15MultiplicativeOrder.l0] at h
  | k + 1 => by
    have ih0 := r15MultiplicativeOrder.mono_l k
    · intro y0 y1 y2 y3 y4
      unfold r15MultiplicativeOrder.l0
      repeat' first
      | (with_reducible exact ih0 _ _ _ _ _)
      | (with_reducible exact r9Same.mono _ _ _)
      | (with_reducible exact r15Mul.mono _ _ _ _ _)
      | (with_reducible exact LeO.refl _)
      | (with_reducible exact LeO.none _)
      | (with_reducible refine LeO.ite ?_ ?_)
      | (with_reducible refine LeO.bind ?_ (fun _ => ?_))
      | exact ih0 _ _ _ _ _
      | exact r9Same.mono _ _ _
      | exact r15Mul.mono _ _ _ _ _
      | exact LeO.none _
      | refine LeO.ite ?_ ?_
      | refine LeO.bind ?_ (fun _ => ?_)
theorem r15MultiplicativeOrder.mono : ∀ a0 a1 a2 k, LeO (r15MultiplicativeOrder.f k a0 a1 a2) (r15MultiplicativeOrder.f (k + 1) a0 a1 a2) := by
  intro a0 a1 a2 k
  have ih0 := r15MultiplicativeOrder.mono_l k
  unfold r15MultiplicativeOrder.f
  repeat' first
      | (with_reducible exact ih0 _ _ _ _ _)
      | (with_reducible exact r9Same.mono _ _ _)
      | (with_reducible exact r15Mul.mono _ _ _ _ _)
      | (with_reducible exact LeO.refl _)
      | (with_reducible exact LeO.none _)
      | (with_reducible refine LeO.ite ?_ ?_)
      | (with_reducible refine LeO.bind ?_ (fun _ => ?_))
      | exact ih0 _ _ _ _ _
      | exact r9Same.mono _ _ _
      | exact r15Mul.mono _ _ _ _ _
      | exact LeO.none _
      | refine LeO.ite ?_ ?_
      | refine LeO.bind ?_ (fun _ => ?_)
def r15Element.l0 : Nat → Int → List Int → Int → List Int → Option (List Int)
  | 0, _, _, _, _ => none
  | k + 1, x1, x5, x102000, x102001 => if x1 > 0 then (if x102000 = 0 then (none) else (if x5.length < 17592186044416 then (r15Element.l0 k (wrap64 (Int.tdiv x1 x102000)) (x5 ++ [Int.tmod x1 x102000]) x102000 x102001) else (none))) else (some x5)
def r15Element.f (k : Nat) (a0_0 : Int) (l0_1 : List Int) (a1 : Int) : Option (List Int) := r15Element.l0 k a1 ([] : List Int) a0_0 l0_1
theorem r15Element.mono_l : ∀ k, (∀ y0 y1 y2 y3, LeO (r15Element.l0 k y0 y1 y2 y3) (r15Element.l0 (k + 1) y0 y1 y2 y3))
  | 0 => fun _ _ _ _ r h => by simp [r15Element.l0] at h
  | k + 1 => by
    have ih0 := r15Element.mono_l k
    · intro y0 y1 y2 y3
      unfold r15Element.l0
      repeat' first
      | (with_reducible exact ih0 _ _ _ _)
      | (with_reducible exact LeO.refl _)
      | (with_reducible exact LeO.none _)
      | (with_reducible refine LeO.ite ?_ ?_)
      | (with_reducible refine LeO.bind ?_ (fun _ => ?_))
      | exact ih0 _ _ _ _
      | exact LeO.none _
      | refine LeO.ite ?_ ?_
      | refine LeO.bind ?_ (fun _ => ?_)
theorem r15Element.mono : ∀ a0 a1 a2 k, LeO (r15Element.f k a0 a1 a2) (r15Element.f (k + 1) a0 a1 a2) := by
  intro a0 a1 a2 k
  have ih0 := r15Element.mono_l k
  unfold r15Element.f
  repeat' first
      | (with_reducible exact ih0 _ _ _ _)
      | (with_reducible exact LeO.refl _)
      | (with_reducible exact LeO.none _)
      | (with_reducible refine LeO.ite ?_ ?_)
      | (with_reducible refine LeO.bind ?_ (fun _ => ?_))
      | exact ih0 _ _ _ _
      | exact LeO.none _
      | refine LeO.ite ?_ ?_
      | refine LeO.bind ?_ (fun _ => ?_)
def discretelog_open.l0 : Nat → Int → List (List Int) → Int → Int → Int → List Int → Int → List Int → Option (Int × List Int × Int × Int)
  | 0, _, _, _, _, _, _, _, _ => none
  | k + 1, x1, x24, x25, x26, x102000, x102001, x104000, x104001 => if x26 < x25 then (if 0 ≤ x26 then (if x26 < (x24.length : Int) then ((pm_Check.f k x102000 (rd_L1 x24 x26)).bind fun t108 => (if t108 = 0 then (if ((rd_L1 x24 x26).length : Int) ≥ (x102001.length : Int) then (some (x104000, x104001, 0, 3)) else (discretelog_open.l0 k x1 x24 x25 (wrap64 (x26 + 1)) x102000 x102001 x104000 x104001)) else (some (x104000, x104001, 0, t108)))) else (none)) else (none)) else ((gFSize.f k x104000 x104001).bind fun bt105 => (if bt105.2 = true then (if bt105.1 > x1 then (some (x104000, x104001, 0, 5)) else (some (x104000, x104001, bt105.1, 0))) else (some (x104000, x104001, 0, 5))))
def discretelog_open.f (k : Nat) (a0_0 : Int) (l0_1 : List Int) (a1 : Int) (l2 : List (List Int)) : Option (Int × List Int × Int × Int) := (fi_Check.f k a0_0 l0_1).bind fun t104 => (if t104 = 0 then (discretelog_open.l0 k a1 l2 (l2.length : Int) 0 a0_0 l0_1 a0_0 l0_1) else (some (a0_0, l0_1, 0, t104)))
theorem discretelog_open.mono_l : ∀ k, (∀ y0 y1 y2 y3 y4 y5 y6 y7, LeO (discretelog_open.l0 k y0 y1 y2 y3 y4 y5 y6 y7) (discretelog_open.l0 (k + 1) y0 y1 y2 y3 y4 y5 y6 y7))
  | 0 => fun _ _ _ _ _ _ _ _ r h => by simp [discretelog_open.l0] at h
  | k + 1 => by
    have ih0 := discretelog_open.mono_l k
    · intro y0 y1 y2 y3 y4 y5 y6 y7
      unfold discretelog_open.l0
      repeat' first
      | (with_reducible exact ih0 _ _ _ _ _ _ _ _)
      | (with_reducible exact fi_Check.mono _ _ _)
      | (with_reducible exact gFSize.mono _ _ _)
      | (with_reducible exact pm_Check.mono _ _ _)
      | (with_reducible exact LeO.refl _)
      | (with_reducible exact LeO.none _)
      | (with_reducible refine LeO.ite ?_ ?_)
      | (with_reducible refine LeO.bind ?_ (fun _ => ?_))
      | exact ih0 _ _ _ _ _ _ _ _
      | exact fi_Check.mono _ _ _
      | exact gFSize.mono _ _ _
      | exact pm_Check.mono _ _ _
      | exact LeO.none _
      | refine LeO.ite ?_ ?_
      | refine LeO.bind ?_ (fun _ => ?_)
theorem discretelog_open.mono : ∀ a0 a1 a2 a3 k, LeO (discretelog_open.f k a0 a1 a2 a3) (discretelog_open.f (k + 1) a0 a1 a2 a3) := by
  intro a0 a1 a2 a3 k
  have ih0 := discretelog_open.mono_l k
  unfold discretelog_open.f
  repeat' first
      | (with_reducible exact ih0 _ _ _ _ _ _ _ _)
      | (with_reducible exact fi_Check.mono _ _ _)
      | (with_reducible exact gFSize.mono _ _ _)
      | (with_reducible exact pm_Check.mono _ _ _)
      | (with_reducible exact LeO.refl _)
      | (with_reducible exact LeO.none _)
      | (with_reducible refine LeO.ite ?_ ?_)
      | (with_reducible refine LeO.bind ?_ (fun _ => ?_))
      | exact ih0 _ _ _ _ _ _ _ _
      | exact fi_Check.mono _ _ _
      | exact gFSize.mono _ _ _
      | exact pm_Check.mono _ _ _
      | exact LeO.none _
      | refine LeO.ite ?_ ?_
      | refine LeO.bind ?_ (fun _ => ?_)
def galoisref18_CheckSmall.j0 : Nat → Int → Int → Int → List Int → Option (Int)
  | 0, _, _, _, _ => none
  | k + 1, x3, x9, x102000, x102001 => if x9 = 0 then ((r15Size.f k x102000 x102001).bind fun t104 => (if t104 = 0 then (some 5) else ((r15Size.f k x102000 x102001).bind fun t105 => (if t105 > x3 then (some 5) else (some x9))))) else (some x9)
def galoisref18_CheckSmall.f (k : Nat) (a0_0 : Int) (l0_1 : List Int) (l1 : List Int) (l2 : List Int) (a3 : Int) : Option (Int) := (r15CheckElement.f k a0_0 l0_1 l1).bind fun t102 => (if t102 = 0 then ((r15Member.f k a0_0 l0_1 l2).bind fun t103 => (galoisref18_CheckSmall.j0 k a3 t103 a0_0 l0_1)) else (galoisref18_CheckSmall.j0 k a3 t102 a0_0 l0_1))
theorem galoisref18_CheckSmall.mono_l : ∀ k, (∀ y0 y1 y2 y3, LeO (galoisref18_CheckSmall.j0 k y0 y1 y2 y3) (galoisref18_CheckSmall.j0 (k + 1) y0 y1 y2 y3))
  | 0 => fun _ _ _ _ r h => by simp [galoisref18_CheckSmall.j0] at h
  | k + 1 => by
    have ih0 := galoisref18_CheckSmall.mono_l k
    · intro y0 y1 y2 y3
      unfold galoisref18_CheckSmall.j0
      repeat' first
      | (with_reducible exact ih0 _ _ _ _)
      | (with_reducible exact r15CheckElement.mono _ _ _ _)
      | (with_reducible exact r15Member.mono _ _ _ _)
      | (with_reducible exact r15Size.mono _ _ _)
      | (with_reducible exact LeO.refl _)
      | (with_reducible exact LeO.none _)
      | (with_reducible refine LeO.ite ?_ ?_)
      | (with_reducible refine LeO.bind ?_ (fun _ => ?_))
      | exact ih0 _ _ _ _
      | exact r15CheckElement.mono _ _ _ _
      | exact r15Member.mono _ _ _ _
      | exact r15Size.mono _ _ _
      | exact LeO.none _
      | refine LeO.ite ?_ ?_
      | refine LeO.bind ?_ (fun _ => ?_)
theorem galoisref18_CheckSmall.mono : ∀ a0 a1 a2 a3 a4 k, LeO (galoisref18_CheckSmall.f k a0 a1 a2 a3 a4) (galoisref18_CheckSmall.f (k + 1) a0 a1 a2 a3 a4) := by
  intro a0 a1 a2 a3 a4 k
  have ih0 := galoisref18_CheckSmall.mono_l k
  unfold galoisref18_CheckSmall.f
  repeat' first
      | (with_reducible exact ih0 _ _ _ _)
      | (with_reducible exact r15CheckElement.mono _ _ _ _)
      | (with_reducible exact r15Member.mono _ _ _ _)
      | (with_reducible exact r15Size.mono _ _ _)
      | (with_reducible exact LeO.refl _)
      | (with_reducible exact LeO.none _)
      | (with_reducible refine LeO.ite ?_ ?_)
      | (with_reducible refine LeO.bind ?_ (fun _ => ?_))
      | exact ih0 _ _ _ _
      | exact r15CheckElement.mono _ _ _ _
      | exact r15Member.mono _ _ _ _
      | exact r15Size.mono _ _ _
      | exact LeO.none _
      | refine LeO.ite ?_ ?_
      | refine LeO.bind ?_ (fun _ => ?_)
def galoisref18_IsGenerator.f (k : Nat) (a0_0 : Int) (l0_1 : List Int) (l1 : List Int) : Option (Bool) := if (l1.length : Int) > 0 then ((r15MultiplicativeOrder.f k a0_0 l0_1 l1).bind fun t102 => ((r15Size.f k a0_0 l0_1).bind fun t103 => (some (t102 == (wrap64 (t103 - 1)))))) else (some false)
theorem galoisref18_IsGenerator.mono : ∀ a0 a1 a2 k, LeO (galoisref18_IsGenerator.f k a0 a1 a2) (galoisref18_IsGenerator.f (k + 1) a0 a1 a2) := by
  intro a0 a1 a2 k
  unfold galoisref18_IsGenerator.f
  repeat' first
      | (with_reducible exact r15MultiplicativeOrder.mono _ _ _ _)
      | (with_reducible exact r15Size.mono _ _ _)
      | (with_reducible exact LeO.refl _)
      | (with_reducible exact LeO.none _)
      | (with_reducible refine LeO.ite ?_ ?_)
      | (with_reducible refine LeO.bind ?_ (fun _ => ?_))
      | exact r15MultiplicativeOrder.mono _ _ _ _
      | exact r15Size.mono _ _ _
      | exact LeO.none _
      | refine LeO.ite ?_ ?_
      | refine LeO.bind ?_ (fun _ => ?_)
def r15Number.l0 : Nat → List Int → Int → Int → Int → List Int → Option (Int)
  | 0, _, _, _, _, _ => none
  | k + 1, x1, x5, x6, x102000, x102001 => if x6 ≥ 0 then (if 0 ≤ x6 then (if x6 < (x1.length : Int) then (r15Number.l0 k x1 (wrap64 ((wrap64 (x5 * x102000)) + (rd x1 x6))) (wrap64 (x6 - 1)) x102000 x102001) else (none)) else (none)) else (some x5)
def r15Number.f (k : Nat) (a0_0 : Int) (l0_1 : List Int) (l1 : List Int) : Option (Int) := r15Number.l0 k l1 0 (wrap64 ((l1.length : Int) - 1)) a0_0 l0_1
theorem r15Number.mono_l : ∀ k, (∀ y0 y1 y2 y3 y4, LeO (r15Number.l0 k y0 y1 y2 y3 y4) (r15Number.l0 (k + 1) y0 y1 y2 y3 y4))
  | 0 => fun _ _ _ _ _ r h => by simp [r15Number.l0] at h
  | k + 1 => by
    have ih0 := r15Number.mono_l k
    · intro y0 y1 y2 y3 y4
      unfold r15Number.l0
      repeat' first
      | (with_reducible exact ih0 _ _ _ _ _)
      | (with_reducible exact LeO.refl _)
      | (with_reducible exact LeO.none _)
      | (with_reducible refine LeO.ite ?_ ?_)
      | (with_reducible refine LeO.bind ?_ (fun _ => ?_))
      | exact ih0 _ _ _ _ _
      | exact LeO.none _
      | refine LeO.ite ?_ ?_
      | refine LeO.bind ?_ (fun _ => ?_)
theorem r15Number.mono : ∀ a0 a1 a2 k, LeO (r15Number.f k a0 a1 a2) (r15Number.f (k + 1) a0 a1 a2) := by
  intro a0 a1 a2 k
  have ih0 := r15Number.mono_l k
  unfold r15Number.f
  repeat' first
      | (with_reducible exact ih0 _ _ _ _ _)
      | (with_reducible exact LeO.refl _)
      | (with_reducible exact LeO.none _)
      | (with_reducible refine LeO.ite ?_ ?_)
      | (with_reducible refine LeO.bind ?_ (fun _ => ?_))
      | exact ih0 _ _ _ _ _
      | exact LeO.none _
      | refine LeO.ite ?_ ?_
      | refine LeO.bind ?_ (fun _ => ?_)
def galoisref18_Table.l0 : Nat → List Int → Int → List Int → List Int → Int → Int → List Int → Option (List Int)
  | 0, _, _, _, _, _, _, _ => none
  | k + 1, x1, x5, x6, x7, x8, x102000, x102001 => if x8 < (wrap64 (x5 - 1)) then ((r15Number.f k x102000 x102001 x7).bind fun t110 => (if 0 ≤ t110 then (if t110 < (x6.length : Int) then ((r15Mul.f k x102000 x102001 x7 x1).bind fun t112 => (galoisref18_Table.l0 k x1 x5 (x6.set (t110 : Int).toNat x8) t112 (wrap64 (x8 + 1)) x102000 x102001)) else (none)) else (none))) else (some x6)
def galoisref18_Table.f (k : Nat) (a0_0 : Int) (l0_1 : List Int) (l1 : List Int) : Option (List Int) := (r15Size.f k a0_0 l0_1).bind fun t102 => (if 0 ≤ t102 then (if (t102 : Int).toNat ≤ 35184372088832 then ((some (List.replicate (t102 : Int).toNat 0 : List Int)).bind fun y103 => (if 0 < (y103.length : Int) then (galoisref18_Table.l0 k l1 t102 (y103.set (0 : Int).toNat (-1)) (([1] : List Int)) 0 a0_0 l0_1) else (none))) else (none)) else (none))
theorem galoisref18_Table.mono_l : ∀ k, (∀ y0 y1 y2 y3 y4 y5 y6, LeO (galoisref18_Table.l0 k y0 y1 y2 y3 y4 y5 y6) (galoisref18_Table.l0 (k + 1) y0 y1 y2 y3 y4 y5 y6))
  | 0 => fun _ _ _ _ _ _ _ r h => by simp [galoisref18_Table.l0] at h
  | k + 1 => by
    have ih0 := galoisref18_Table.mono_l k
    · intro y0 y1 y2 y3 y4 y5 y6
      unfold galoisref18_Table.l0
      repeat' first
      | (with_reducible exact ih0 _ _ _ _ _ _ _)
      | (with_reducible exact r15Mul.mono _ _ _ _ _)
      | (with_reducible exact r15Number.mono _ _ _ _)
      | (with_reducible exact r15Size.mono _ _ _)
      | (with_reducible exact LeO.refl _)
      | (with_reducible exact LeO.none _)
      | (with_reducible refine LeO.ite ?_ ?_)
      | (with_reducible refine LeO.bind ?_ (fun _ => ?_))
      | exact ih0 _ _ _ _ _ _ _
      | exact r15Mul.mono _ _ _ _ _
      | exact r15Number.mono _ _ _ _
      | exact r15Size.mono _ _ _
      | exact LeO.none _
      | refine LeO.ite ?_ ?_
      | refine LeO.bind ?_ (fun _ => ?_)
theorem galoisref18_Table.mono : ∀ a0 a1 a2 k, LeO (galoisref18_Table.f k a0 a1 a2) (galoisref18_Table.f (k + 1) a0 a1 a2) := by
  intro a0 a1 a2 k
  have ih0 := galoisref18_Table.mono_l k
  unfold galoisref18_Table.f
  repeat' first
      | (with_reducible exact ih0 _ _ _ _ _ _ _)
      | (with_reducible exact r15Mul.mono _ _ _ _ _)
      | (with_reducible exact r15Number.mono _ _ _ _)
      | (with_reducible exact r15Size.mono _ _ _)
      | (with_reducible exact LeO.refl _)
      | (with_reducible exact LeO.none _)
      | (with_reducible refine LeO.ite ?_ ?_)
      | (with_reducible refine LeO.bind ?_ (fun _ => ?_))
      | exact ih0 _ _ _ _ _ _ _
      | exact r15Mul.mono _ _ _ _ _
      | exact r15Number.mono _ _ _ _
      | exact r15Size.mono _ _ _
      | exact LeO.none _
      | refine LeO.ite ?_ ?_
      | refine LeO.bind ?_ (fun _ => ?_)
def api_ModPoly_int_66.l0 : Nat → List Int → List Int → Int → Int → Option (Bool)
  | 0, _, _, _, _ => none
  | k + 1, x0, x1, x12, x13 => if x13 < x12 then (if 0 ≤ x13 then (if x13 < (x0.length : Int) then (if x13 < (x1.length : Int) then (if (rd x0 x13) = (rd x1 x13) then (api_ModPoly_int_66.l0 k x0 x1 x12 (wrap64 (x13 + 1))) else (some false)) else (none)) else (none)) else (none)) else (some true)
def api_ModPoly_int_66.f (k : Nat) (l0 : List Int) (l1 : List Int) : Option (Bool) := if (l0.length : Int) = (l1.length : Int) then (api_ModPoly_int_66.l0 k l0 l1 (l0.length : Int) 0) else (some false)
theorem api_ModPoly_int_66.mono_l : ∀ k, (∀ y0 y1 y2 y3, LeO (api_ModPoly_int_66.l0 k y0 y1 y2 y3) (api_ModPoly_int_66.l0 (k + 1) y0 y1 y2 y3))
  | 0 => fun _ _ _ _ r h => by simp [api_ModPoly_int_66.l0] at h
  | k + 1 => by
    have ih0 := api_ModPoly_int_66.mono_l k
    · intro y0 y1 y2 y3
      unfold api_ModPoly_int_66.l0
      repeat' first
      | (with_reducible exact ih0 _ _ _ _)
      | (with_reducible exact LeO.refl _)
      | (with_reducible exact LeO.none _)
      | (with_reducible refine LeO.ite ?_ ?_)
      | (with_reducible refine LeO.bind ?_ (fun _ => ?_))
      | exact ih0 _ _ _ _
      | exact LeO.none _
      | refine LeO.ite ?_ ?_
      | refine LeO.bind ?_ (fun _ => ?_)
theorem api_ModPoly_int_66.mono : ∀ a0 a1 k, LeO (api_ModPoly_int_66.f k a0 a1) (api_ModPoly_int_66.f (k + 1) a0 a1) := by
  intro a0 a1 k
  have ih0 := api_ModPoly_int_66.mono_l k
  unfold api_ModPoly_int_66.f
  repeat' first
      | (with_reducible exact ih0 _ _ _ _)
      | (with_reducible exact LeO.refl _)
      | (with_reducible exact LeO.none _)
      | (with_reducible refine LeO.ite ?_ ?_)
      | (with_reducible refine LeO.bind ?_ (fun _ => ?_))
      | exact ih0 _ _ _ _
      | exact LeO.none _
      | refine LeO.ite ?_ ?_
      | refine LeO.bind ?_ (fun _ => ?_)
def dlL : List Int → List Int → Int
  | [], [] => 0
  | [], _ :: _ => -1
  | _ :: _, [] => 1
  | x :: xs, y :: ys => if x < y then -1 else if y < x then 1 else dlL xs ys
def dlP (a b : List Int) : Int := if a.length = b.length then dlL a b else if a.length < b.length then -1 else 1
def discretelog_Roots.l0 (kk : Nat) (p : Int) (l a : List Int) (m : Int) (M : Nat) : Nat → Nat → List (List Int) → Option (List (List Int))
  | 0, _, _ => none
  | k + 1, i, out => if i < M then (gFElement.f kk p l (i : Int)).bind fun x => (gFPow.f kk p l x m).bind fun y => (api_ModPoly_int_66.f kk y a).bind fun b => (if b = true then (if out.length < 5864062014805 then discretelog_Roots.l0 kk p l a m M k (i + 1) (out ++ [x]) else none) else discretelog_Roots.l0 kk p l a m M k (i + 1) out) else some out
def discretelog_Roots.f (k : Nat) (a0_0 : Int) (l0_1 : List Int) (l1 : List Int) (a2 : Int) : Option (List (List Int) × Int) := (discretelog_open.f k a0_0 l0_1 4096 [l1]).bind fun t => (if t.2.2.2 = 0 then (if a2 < 1 then some ([], 3) else if a2 > 2147483647 then some ([], 3) else (if 0 ≤ t.2.2.1 ∧ t.2.2.1 ≤ 4294967296 then (discretelog_Roots.l0 k t.1 t.2.1 l1 a2 t.2.2.1.toNat k 0 []).bind fun out => (if (out.all fun x => decide (x.length ≤ 1000000)) = true then some (out.mergeSort fun x y => !decide (dlP y x < 0), 0) else none) else none)) else some ([], t.2.2.2))
theorem discretelog_Roots.mono_l (kk : Nat) (p : Int) (l a : List Int) (m : Int) (M : Nat) : ∀ k i out, LeO (discretelog_Roots.l0 kk p l a m M k i out) (discretelog_Roots.l0 (kk + 1) p l a m M (k + 1) i out)
  | 0 => fun _ _ r h => by simp [discretelog_Roots.l0] at h
  | k + 1 => by
    intro i out
    have ih0 := discretelog_Roots.mono_l kk p l a m M k
    unfold discretelog_Roots.l0
    repeat' first
      | (with_reducible exact ih0 _ _)
      | (with_reducible exact gFElement.mono _ _ _ _)
      | (with_reducible exact gFPow.mono _ _ _ _ _)
      | (with_reducible exact api_ModPoly_int_66.mono _ _ _)
      | (with_reducible exact LeO.refl _)
      | (with_reducible refine LeO.ite ?_ ?_)
      | (with_reducible refine LeO.bind ?_ (fun _ => ?_))
theorem discretelog_Roots.mono : ∀ a0 a1 a2 a3 k, LeO (discretelog_Roots.f k a0 a1 a2 a3) (discretelog_Roots.f (k + 1) a0 a1 a2 a3) := by
  intro a0 a1 a2 a3 k
  unfold discretelog_Roots.f
  repeat' first
    | (with_reducible exact discretelog_Roots.mono_l _ _ _ _ _ _ _ _ _)
    | (with_reducible exact discretelog_open.mono _ _ _ _ _)
    | (with_reducible exact LeO.refl _)
    | (with_reducible refine LeO.ite ?_ ?_)
    | (with_reducible refine LeO.bind ?_ (fun _ => ?_))
mutual
def discretelog_Cosets.l0 : Nat → Int → List Bool → List (List Int) → Int → Int → Int → List Int → Option ((List (List Int)) × Int)
  | 0, _, _, _, _, _, _, _ => none
  | k + 1, x5, x7, x8, x25, x26, x102000, x102001 => if x26 < x25 then (discretelog_Cosets.l1 k x5 x7 x8 ([] : List Int) x26 x25 x26 x102000 x102001) else (some (x8, 0))
def discretelog_Cosets.l1 : Nat → Int → List Bool → List (List Int) → List Int → Int → Int → Int → Int → List Int → Option ((List (List Int)) × Int)
  | 0, _, _, _, _, _, _, _, _, _ => none
  | k + 1, x5, x7, x8, x10, x11, x25, x26, x102000, x102001 => if 0 ≤ x11 then (if x11 < (x7.length : Int) then (if rdOf false x7 x11 = true then (if (x10.length : Int) > 0 then (if x8.length < 5864062014805 then (discretelog_Cosets.l0 k x5 x7 (x8 ++ [x10]) x25 (wrap64 (x26 + 1)) x102000 x102001) else (none)) else (discretelog_Cosets.l0 k x5 x7 x8 x25 (wrap64 (x26 + 1)) x102000 x102001)) else (if x10.length < 17592186044416 then (if (wrap64 (x5 - 1)) = 0 then (none) else (discretelog_Cosets.l1 k x5 (x7.set (x11 : Int).toNat true) x8 (x10 ++ [x11]) (Int.tmod (wrap64 (x11 * x102000)) (wrap64 (x5 - 1))) x25 x26 x102000 x102001)) else (none))) else (none)) else (none)
end
def discretelog_Cosets.f (k : Nat) (a0_0 : Int) (l0_1 : List Int) : Option ((List (List Int)) × Int) := (discretelog_open.f k a0_0 l0_1 4096 ([] : List (List Int))).bind fun bt102 => (if bt102.2.2.2 = 0 then (if 0 ≤ (wrap64 (bt102.2.2.1 - 1)) then (if (wrap64 (bt102.2.2.1 - 1) : Int).toNat ≤ 281474976710656 then (discretelog_Cosets.l0 k bt102.2.2.1 (List.replicate (wrap64 (bt102.2.2.1 - 1) : Int).toNat false) ([] : List (List Int)) (wrap64 (bt102.2.2.1 - 1)) 0 a0_0 l0_1) else (none)) else (none)) else (some (([] : List (List Int)), bt102.2.2.2)))
theorem discretelog_Cosets.mono_l : ∀ k, (∀ y0 y1 y2 y3 y4 y5 y6, LeO (discretelog_Cosets.l0 k y0 y1 y2 y3 y4 y5 y6) (discretelog_Cosets.l0 (k + 1) y0 y1 y2 y3 y4 y5 y6)) ∧ (∀ y0 y1 y2 y3 y4 y5 y6 y7 y8, LeO (discretelog_Cosets.l1 k y0 y1 y2 y3 y4 y5 y6 y7 y8) (discretelog_Cosets.l1 (k + 1) y0 y1 y2 y3 y4 y5 y6 y7 y8))
  | 0 => ⟨fun _ _ _ _ _ _ _ r h => by simp [discretelog_Cosets.l0] at h, fun _ _ _ _ _ _ _ _ _ r h => by simp [discretelog_Cosets.l1] at h⟩
  | k + 1 => by
    obtain ⟨ih0, ih1⟩ := discretelog_Cosets.mono_l k
    refine ⟨?_, ?_⟩
    · intro y0 y1 y2 y3 y4 y5 y6
      unfold discretelog_Cosets.l0
      repeat' first
      | (with_reducible exact ih0 _ _ _ _ _ _ _)
      | (with_reducible exact ih1 _ _ _ _ _ _ _ _ _)
      | (with_reducible exact discretelog_open.mono _ _ _ _ _)
      | (with_reducible exact LeO.refl _)
      | (with_reducible exact LeO.none _)
      | (with_reducible refine LeO.ite ?_ ?_)
      | (with_reducible refine LeO.bind ?_ (fun _ => ?_))
      | exact ih0 _ _ _ _ _ _ _
      | exact ih1 _ _ _ _ _ _ _ _ _
      | exact discretelog_open.mono _ _ _ _ _
      | exact LeO.none _
      | refine LeO.ite ?_ ?_
      | refine LeO.bind ?_ (fun _ => ?_)
    · intro y0 y1 y2 y3 y4 y5 y6 y7 y8
      unfold discretelog_Cosets.l1
      repeat' first
      | (with_reducible exact ih0 _ _ _ _ _ _ _)
      | (with_reducible exact ih1 _ _ _ _ _ _ _ _ _)
      | (with_reducible exact discretelog_open.mono _ _ _ _ _)
      | (with_reducible exact LeO.refl _)
      | (with_reducible exact LeO.none _)
      | (with_reducible refine LeO.ite ?_ ?_)
      | (with_reducible refine LeO.bind ?_ (fun _ => ?_))
      | exact ih0 _ _ _ _ _ _ _
      | exact ih1 _ _ _ _ _ _ _ _ _
      | exact discretelog_open.mono _ _ _ _ _
      | exact LeO.none _
      | refine LeO.ite ?_ ?_
      | refine LeO.bind ?_ (fun _ => ?_)
theorem discretelog_Cosets.mono : ∀ a0 a1 k, LeO (discretelog_Cosets.f k a0 a1) (discretelog_Cosets.f (k + 1) a0 a1) := by
  intro a0 a1 k
  obtain ⟨ih0, ih1⟩ := discretelog_Cosets.mono_l k
  unfold discretelog_Cosets.f
  repeat' first
      | (with_reducible exact ih0 _ _ _ _ _ _ _)
      | (with_reducible exact ih1 _ _ _ _ _ _ _ _ _)
      | (with_reducible exact discretelog_open.mono _ _ _ _ _)
      | (with_reducible exact LeO.refl _)
      | (with_reducible exact LeO.none _)
      | (with_reducible refine LeO.ite ?_ ?_)
      | (with_reducible refine LeO.bind ?_ (fun _ => ?_))
      | exact ih0 _ _ _ _ _ _ _
      | exact ih1 _ _ _ _ _ _ _ _ _
      | exact discretelog_open.mono _ _ _ _ _
      | exact LeO.none _
      | refine LeO.ite ?_ ?_
      | refine LeO.bind ?_ (fun _ => ?_)
def galoislaw18_same.l0 : Nat → List Int → List Int → Int → Option (Bool)
  | 0, _, _, _ => none
  | k + 1, x0, x1, x5 => if x5 < (x0.length : Int) then (if 0 ≤ x5 then (if x5 < (x1.length : Int) then (if (rd x0 x5) = (rd x1 x5) then (galoislaw18_same.l0 k x0 x1 (wrap64 (x5 + 1))) else (some false)) else (none)) else (none)) else (some true)
def galoislaw18_same.f (k : Nat) (l0 : List Int) (l1 : List Int) : Option (Bool) := if (l0.length : Int) = (l1.length : Int) then (galoislaw18_same.l0 k l0 l1 0) else (some false)
theorem galoislaw18_same.mono_l : ∀ k, (∀ y0 y1 y2, LeO (galoislaw18_same.l0 k y0 y1 y2) (galoislaw18_same.l0 (k + 1) y0 y1 y2))
  | 0 => fun _ _ _ r h => by simp [galoislaw18_same.l0] at h
  | k + 1 => by
    have ih0 := galoislaw18_same.mono_l k
    · intro y0 y1 y2
      unfold galoislaw18_same.l0
      repeat' first
      | (with_reducible exact ih0 _ _ _)
      | (with_reducible exact LeO.refl _)
      | (with_reducible exact LeO.none _)
      | (with_reducible refine LeO.ite ?_ ?_)
      | (with_reducible refine LeO.bind ?_ (fun _ => ?_))
      | exact ih0 _ _ _
      | exact LeO.none _
      | refine LeO.ite ?_ ?_
      | refine LeO.bind ?_ (fun _ => ?_)
theorem galoislaw18_same.mono : ∀ a0 a1 k, LeO (galoislaw18_same.f k a0 a1) (galoislaw18_same.f (k + 1) a0 a1) := by
  intro a0 a1 k
  have ih0 := galoislaw18_same.mono_l k
  unfold galoislaw18_same.f
  repeat' first
      | (with_reducible exact ih0 _ _ _)
      | (with_reducible exact LeO.refl _)
      | (with_reducible exact LeO.none _)
      | (with_reducible refine LeO.ite ?_ ?_)
      | (with_reducible refine LeO.bind ?_ (fun _ => ?_))
      | exact ih0 _ _ _
      | exact LeO.none _
      | refine LeO.ite ?_ ?_
      | refine LeO.bind ?_ (fun _ => ?_)
def r9SameLists.l0 : Nat → List (List Int) → List (List Int) → Int → Option (Bool)
  | 0, _, _, _ => none
  | k + 1, x0, x1, x5 => if x5 < (x0.length : Int) then (if 0 ≤ x5 then (if x5 < (x1.length : Int) then ((r9Same.f k (rd_L1 x0 x5) (rd_L1 x1 x5)).bind fun t103 => (if t103 = true then (r9SameLists.l0 k x0 x1 (wrap64 (x5 + 1))) else (some false))) else (none)) else (none)) else (some true)
def r9SameLists.f (k : Nat) (l0 : List (List Int)) (l1 : List (List Int)) : Option (Bool) := if (l0.length : Int) = (l1.length : Int) then (r9SameLists.l0 k l0 l1 0) else (some false)
theorem r9SameLists.mono_l : ∀ k, (∀ y0 y1 y2, LeO (r9SameLists.l0 k y0 y1 y2) (r9SameLists.l0 (k + 1) y0 y1 y2))
  | 0 => fun _ _ _ r h => by simp [r9SameLists.l0] at h
  | k + 1 => by
    have ih0 := r9SameLists.mono_l k
    · intro y0 y1 y2
      unfold r9SameLists.l0
      repeat' first
      | (with_reducible exact ih0 _ _ _)
      | (with_reducible exact r9Same.mono _ _ _)
      | (with_reducible exact LeO.refl _)
      | (with_reducible exact LeO.none _)
      | (with_reducible refine LeO.ite ?_ ?_)
      | (with_reducible refine LeO.bind ?_ (fun _ => ?_))
      | exact ih0 _ _ _
      | exact r9Same.mono _ _ _
      | exact LeO.none _
      | refine LeO.ite ?_ ?_
      | refine LeO.bind ?_ (fun _ => ?_)
theorem r9SameLists.mono : ∀ a0 a1 k, LeO (r9SameLists.f k a0 a1) (r9SameLists.f (k + 1) a0 a1) := by
  intro a0 a1 k
  have ih0 := r9SameLists.mono_l k
  unfold r9SameLists.f
  repeat' first
      | (with_reducible exact ih0 _ _ _)
      | (with_reducible exact r9Same.mono _ _ _)
      | (with_reducible exact LeO.refl _)
      | (with_reducible exact LeO.none _)
      | (with_reducible refine LeO.ite ?_ ?_)
      | (with_reducible refine LeO.bind ?_ (fun _ => ?_))
      | exact ih0 _ _ _
      | exact r9Same.mono _ _ _
      | exact LeO.none _
      | refine LeO.ite ?_ ?_
      | refine LeO.bind ?_ (fun _ => ?_)
def gFAdd.f (k : Nat) (a0_0 : Int) (l0_1 : List Int) (l1 : List Int) (l2 : List Int) : Option (List Int) := (fp_Add.f k a0_0 l1 l2).bind fun t102 => (some t102)
theorem gFAdd.mono : ∀ a0 a1 a2 a3 k, LeO (gFAdd.f k a0 a1 a2 a3) (gFAdd.f (k + 1) a0 a1 a2 a3) := by
  intro a0 a1 a2 a3 k
  unfold gFAdd.f
  repeat' first
      | (with_reducible exact fp_Add.mono _ _ _ _)
      | (with_reducible exact LeO.refl _)
      | (with_reducible exact LeO.none _)
      | (with_reducible refine LeO.ite ?_ ?_)
      | (with_reducible refine LeO.bind ?_ (fun _ => ?_))
      | exact fp_Add.mono _ _ _ _
      | exact LeO.none _
      | refine LeO.ite ?_ ?_
      | refine LeO.bind ?_ (fun _ => ?_)
def galoislaw18_seven.f  : Option (Int × List Int) := some (7, (([0, 1] : List Int)))
def galoislaw18_four.f  : Option (Int × List Int) := some (2, (([1, 1, 1] : List Int)))
def galoislaw18_eight.f  : Option (Int × List Int) := some (2, (([1, 1, 0, 1] : List Int)))
end Go.Proofs.YtillaipaanancaaGreat.Q
end
section
namespace Go.Proofs.YtillaipaanancaaGreat.Q
open Go.RowKit Go.Proofs.YtillaipaanancaaGreatW.PrintWords Go.Proofs.YtillaipaanancaaGreatW.PrintLast Go.Proofs.YtillaipaanancaaGreatW.PrintMore
attribute [local go_sem] max2_int min2_int max_two min_two max_three min_three max_four min_four   -- for this text's walks alone
set_option linter.unusedVariables false
set_option linter.unusedSimpArgs false
def cmp_isNaN_int.f (a0 : Int) : Option (Bool) := some (a0 != a0)
set_option maxHeartbeats 8000000 in
set_option maxRecDepth 100000 in
theorem cmp_isNaN_int.calls (a0 : Int) (r : Bool) (w : World) (h : cmp_isNaN_int.f a0 = some r) :
    Calls Tryz.prog 183 #[.int .i64 a0] w fun e w' => e = .returned (.bool r) ∧ Drawn0 w w' := by
  have H : (some (a0 != a0)) = some r := h
  clear h
  obtain rfl := Option.some.inj H
  go_enter Tryz.func183, Tryz.ntmps183
  go_wp2
  go_ret
  exact ⟨by first | rfl | (simp; done) | (simp [*]; done), by repeat (first | exact Drawn0.refl _ | apply Drawn0.step)⟩
end Go.Proofs.YtillaipaanancaaGreat.Q
end

/- Machine side: a program of the session wrote this text (the kit's print.py and the session's own contracts). Conditions: none of its own. -/
import Derived.Test.YtmedflaejnbkoaaQ0
import Derived.Test.YtmedflaejnbkoaaQG0
import Derived.Test.YtmedflaejnbkoaaQG2
import Derived.Test.YtmedflaejnbkoaaQF24
import Derived.Test.YtmedflaejnbkoaaQF26
import Derived.Test.YtmedflaejnbkoaaQF33
import Derived.Test.YtmedflaejnbkoaaQF34
namespace Go.Proofs.Ytmedflaejnbkoaa.Q
open Go.RowKit Go.Proofs.YtmedflaejnbkoaaW.PrintWords Go.Proofs.YtmedflaejnbkoaaW.PrintLast Go.Proofs.YtmedflaejnbkoaaW.PrintMore
attribute [local go_sem] max2_int min2_int max_two min_two max_three min_three max_four min_four   -- for this text's walks alone
set_option linter.unusedVariables false
set_option linter.unusedSimpArgs false

/-! ### galoislaw04_ResidueEuler: function 9 -/
mutual
def galoislaw04_ResidueEuler.j0 : Nat → Int → Int → Int → Bool → Option (Bool)
  | 0, _, _, _, _ => none
  | k + 1, x0, x5, x12, x128 => if x128 = true then (none) else ((residue_Factor.f k x12).bind fun bt118 => (if bt118.2 = 0 then (galoislaw04_ResidueEuler.l0 k x0 x5 x12 bt118.1 0) else (none)))
def galoislaw04_ResidueEuler.l0 : Nat → Int → Int → Int → List (S53) → Int → Option (Bool)
  | 0, _, _, _, _, _ => none
  | k + 1, x0, x5, x12, x18, x19 => if x19 < (x18.length : Int) then (if 0 ≤ x19 then (if ((rd_T53 x18 x19).f0) < 2 then (none) else (if ((rd_T53 x18 x19).f0) = 0 then (none) else ((residue_Pow.f k x0 (wrap64 (Int.tdiv x12 ((rd_T53 x18 x19).f0))) x5).bind fun bt124 => (if bt124.2 = 0 then (if bt124.1 = 1 then (none) else (galoislaw04_ResidueEuler.l0 k x0 x5 x12 x18 (wrap64 (x19 + 1)))) else (none))))) else (none)) else (some true)
end
def galoislaw04_ResidueEuler.f (k : Nat) (a0 : Int) (a1 : Int) : Option (Bool) := (galoislaw04_awake.f k).bind fun t101 => (if t101 = true then ((residue_Inverse.f k a0 (wrap64 (2 + (Int.tmod (wrap64 (a1)) 2147483646)))).bind fun bt102 => (if bt102.2 = 6 then ((residue_Order.f k a0 (wrap64 (2 + (Int.tmod (wrap64 (a1)) 2147483646)))).bind fun bt104 => (if bt104.1 = 0 then (if bt104.2 = 6 then ((galoisref04_Mod.f a0 (wrap64 (2 + (Int.tmod (wrap64 (a1)) 2147483646)))).bind fun t106 => ((galoisref04_Gcd.f k t106 (wrap64 (2 + (Int.tmod (wrap64 (a1)) 2147483646)))).bind fun t107 => (some (decide (t107 > 1))))) else (none)) else (none))) else ((residue_Totient.f k (wrap64 (2 + (Int.tmod (wrap64 (a1)) 2147483646)))).bind fun bt108 => ((residue_Order.f k a0 (wrap64 (2 + (Int.tmod (wrap64 (a1)) 2147483646)))).bind fun bt110 => ((residue_Pow.f k a0 bt108.1 (wrap64 (2 + (Int.tmod (wrap64 (a1)) 2147483646)))).bind fun bt112 => ((residue_Pow.f k a0 bt110.1 (wrap64 (2 + (Int.tmod (wrap64 (a1)) 2147483646)))).bind fun bt114 => (if bt102.2 = 0 then (if bt108.2 = 0 then (if bt110.2 = 0 then (if bt112.2 = 0 then (if bt114.2 = 0 then (if bt110.1 < 1 then (galoislaw04_ResidueEuler.j0 k a0 (wrap64 (2 + (Int.tmod (wrap64 (a1)) 2147483646))) bt110.1 true) else (if bt110.1 = 0 then (none) else (if (Int.tmod bt108.1 bt110.1) = 0 then (if bt112.1 = 1 then (if bt114.1 = 1 then ((galoisref04_Mod.f a0 (wrap64 (2 + (Int.tmod (wrap64 (a1)) 2147483646)))).bind fun t116 => ((galoisref04_Mod.f bt102.1 (wrap64 (2 + (Int.tmod (wrap64 (a1)) 2147483646)))).bind fun t117 => (if (wrap64 (2 + (Int.tmod (wrap64 (a1)) 2147483646))) = 0 then (none) else (galoislaw04_ResidueEuler.j0 k a0 (wrap64 (2 + (Int.tmod (wrap64 (a1)) 2147483646))) bt110.1 ((Int.tmod (wrap64 (t116 * t117)) (wrap64 (2 + (Int.tmod (wrap64 (a1)) 2147483646)))) != 1))))) else (galoislaw04_ResidueEuler.j0 k a0 (wrap64 (2 + (Int.tmod (wrap64 (a1)) 2147483646))) bt110.1 true)) else (galoislaw04_ResidueEuler.j0 k a0 (wrap64 (2 + (Int.tmod (wrap64 (a1)) 2147483646))) bt110.1 true)) else (galoislaw04_ResidueEuler.j0 k a0 (wrap64 (2 + (Int.tmod (wrap64 (a1)) 2147483646))) bt110.1 true)))) else (galoislaw04_ResidueEuler.j0 k a0 (wrap64 (2 + (Int.tmod (wrap64 (a1)) 2147483646))) bt110.1 true)) else (galoislaw04_ResidueEuler.j0 k a0 (wrap64 (2 + (Int.tmod (wrap64 (a1)) 2147483646))) bt110.1 true)) else (galoislaw04_ResidueEuler.j0 k a0 (wrap64 (2 + (Int.tmod (wrap64 (a1)) 2147483646))) bt110.1 true)) else (galoislaw04_ResidueEuler.j0 k a0 (wrap64 (2 + (Int.tmod (wrap64 (a1)) 2147483646))) bt110.1 true)) else (galoislaw04_ResidueEuler.j0 k a0 (wrap64 (2 + (Int.tmod (wrap64 (a1)) 2147483646))) bt110.1 true)))))))) else (none))
theorem galoislaw04_ResidueEuler.mono_l : ∀ k, (∀ y0 y1 y2 y3, LeO (galoislaw04_ResidueEuler.j0 k y0 y1 y2 y3) (galoislaw04_ResidueEuler.j0 (k + 1) y0 y1 y2 y3)) ∧ (∀ y0 y1 y2 y3 y4, LeO (galoislaw04_ResidueEuler.l0 k y0 y1 y2 y3 y4) (galoislaw04_ResidueEuler.l0 (k + 1) y0 y1 y2 y3 y4))
  | 0 => ⟨fun _ _ _ _ r h => by simp [galoislaw04_ResidueEuler.j0] at h, fun _ _ _ _ _ r h => by simp [galoislaw04_ResidueEuler.l0] at h⟩
  | k + 1 => by
    obtain ⟨ih0, ih1⟩ := galoislaw04_ResidueEuler.mono_l k
    refine ⟨?_, ?_⟩
    · intro y0 y1 y2 y3
      unfold galoislaw04_ResidueEuler.j0
      repeat' first
      | (with_reducible exact ih0 _ _ _ _)
      | (with_reducible exact ih1 _ _ _ _ _)
      | (with_reducible exact galoislaw04_awake.mono _)
      | (with_reducible exact galoisref04_Gcd.mono _ _ _)
      | (with_reducible exact residue_Factor.mono _ _)
      | (with_reducible exact residue_Inverse.mono _ _ _)
      | (with_reducible exact residue_Order.mono _ _ _)
      | (with_reducible exact residue_Pow.mono _ _ _ _)
      | (with_reducible exact residue_Totient.mono _ _)
      | (with_reducible exact LeO.refl _)
      | (with_reducible exact LeO.none _)
      | (with_reducible refine LeO.ite ?_ ?_)
      | (with_reducible refine LeO.bind ?_ (fun _ => ?_))
      | exact ih0 _ _ _ _
      | exact ih1 _ _ _ _ _
      | exact galoislaw04_awake.mono _
      | exact galoisref04_Gcd.mono _ _ _
      | exact residue_Factor.mono _ _
      | exact residue_Inverse.mono _ _ _
      | exact residue_Order.mono _ _ _
      | exact residue_Pow.mono _ _ _ _
      | exact residue_Totient.mono _ _
      | exact LeO.none _
      | refine LeO.ite ?_ ?_
      | refine LeO.bind ?_ (fun _ => ?_)
    · intro y0 y1 y2 y3 y4
      unfold galoislaw04_ResidueEuler.l0
      repeat' first
      | (with_reducible exact ih0 _ _ _ _)
      | (with_reducible exact ih1 _ _ _ _ _)
      | (with_reducible exact galoislaw04_awake.mono _)
      | (with_reducible exact galoisref04_Gcd.mono _ _ _)
      | (with_reducible exact residue_Factor.mono _ _)
      | (with_reducible exact residue_Inverse.mono _ _ _)
      | (with_reducible exact residue_Order.mono _ _ _)
      | (with_reducible exact residue_Pow.mono _ _ _ _)
      | (with_reducible exact residue_Totient.mono _ _)
      | (with_reducible exact LeO.refl _)
      | (with_reducible exact LeO.none _)
      | (with_reducible refine LeO.ite ?_ ?_)
      | (with_reducible refine LeO.bind ?_ (fun _ => ?_))
      | exact ih0 _ _ _ _
      | exact ih1 _ _ _ _ _
      | exact galoislaw04_awake.mono _
      | exact galoisref04_Gcd.mono _ _ _
      | exact residue_Factor.mono _ _
      | exact residue_Inverse.mono _ _ _
      | exact residue_Order.mono _ _ _
      | exact residue_Pow.mono _ _ _ _
      | exact residue_Totient.mono _ _
      | exact LeO.none _
      | refine LeO.ite ?_ ?_
      | refine LeO.bind ?_ (fun _ => ?_)
theorem galoislaw04_ResidueEuler.mono : ∀ a0 a1 k, LeO (galoislaw04_ResidueEuler.f k a0 a1) (galoislaw04_ResidueEuler.f (k + 1) a0 a1) := by
  intro a0 a1 k
  obtain ⟨ih0, ih1⟩ := galoislaw04_ResidueEuler.mono_l k
  unfold galoislaw04_ResidueEuler.f
  repeat' first
      | (with_reducible exact ih0 _ _ _ _)
      | (with_reducible exact ih1 _ _ _ _ _)
      | (with_reducible exact galoislaw04_awake.mono _)
      | (with_reducible exact galoisref04_Gcd.mono _ _ _)
      | (with_reducible exact residue_Factor.mono _ _)
      | (with_reducible exact residue_Inverse.mono _ _ _)
      | (with_reducible exact residue_Order.mono _ _ _)
      | (with_reducible exact residue_Pow.mono _ _ _ _)
      | (with_reducible exact residue_Totient.mono _ _)
      | (with_reducible exact LeO.refl _)
      | (with_reducible exact LeO.none _)
      | (with_reducible refine LeO.ite ?_ ?_)
      | (with_reducible refine LeO.bind ?_ (fun _ => ?_))
      | exact ih0 _ _ _ _
      | exact ih1 _ _ _ _ _
      | exact galoislaw04_awake.mono _
      | exact galoisref04_Gcd.mono _ _ _
      | exact residue_Factor.mono _ _
      | exact residue_Inverse.mono _ _ _
      | exact residue_Order.mono _ _ _
      | exact residue_Pow.mono _ _ _ _
      | exact residue_Totient.mono _ _
      | exact LeO.none _
      | refine LeO.ite ?_ ?_
      | refine LeO.bind ?_ (fun _ => ?_)
set_option maxHeartbeats 8000000 in
set_option maxRecDepth 100000 in
theorem galoislaw04_ResidueEuler.calls (k : Nat) (a0 : Int) (a1 : Int) (r : Bool) (w : World) (h : galoislaw04_ResidueEuler.f k a0 a1 = some r) :
    Calls Try.prog 9 #[.int .i64 a0, .int .u32 a1] w fun e w' => e = .returned (.bool r) ∧ Below w.heap.size w w' := by
  have HB := Aside0.mk (Below.refl w.heap.size w)
  have H : ((galoislaw04_awake.f k).bind fun t101 => (if t101 = true then ((residue_Inverse.f k a0 (wrap64 (2 + (Int.tmod (wrap64 (a1)) 2147483646)))).bind fun bt102 => (if bt102.2 = 6 then ((residue_Order.f k a0 (wrap64 (2 + (Int.tmod (wrap64 (a1)) 2147483646)))).bind fun bt104 => (if bt104.1 = 0 then (if bt104.2 = 6 then ((galoisref04_Mod.f a0 (wrap64 (2 + (Int.tmod (wrap64 (a1)) 2147483646)))).bind fun t106 => ((galoisref04_Gcd.f k t106 (wrap64 (2 + (Int.tmod (wrap64 (a1)) 2147483646)))).bind fun t107 => (some (decide (t107 > 1))))) else (none)) else (none))) else ((residue_Totient.f k (wrap64 (2 + (Int.tmod (wrap64 (a1)) 2147483646)))).bind fun bt108 => ((residue_Order.f k a0 (wrap64 (2 + (Int.tmod (wrap64 (a1)) 2147483646)))).bind fun bt110 => ((residue_Pow.f k a0 bt108.1 (wrap64 (2 + (Int.tmod (wrap64 (a1)) 2147483646)))).bind fun bt112 => ((residue_Pow.f k a0 bt110.1 (wrap64 (2 + (Int.tmod (wrap64 (a1)) 2147483646)))).bind fun bt114 => (if bt102.2 = 0 then (if bt108.2 = 0 then (if bt110.2 = 0 then (if bt112.2 = 0 then (if bt114.2 = 0 then (if bt110.1 < 1 then (galoislaw04_ResidueEuler.j0 k a0 (wrap64 (2 + (Int.tmod (wrap64 (a1)) 2147483646))) bt110.1 true) else (if bt110.1 = 0 then (none) else (if (Int.tmod bt108.1 bt110.1) = 0 then (if bt112.1 = 1 then (if bt114.1 = 1 then ((galoisref04_Mod.f a0 (wrap64 (2 + (Int.tmod (wrap64 (a1)) 2147483646)))).bind fun t116 => ((galoisref04_Mod.f bt102.1 (wrap64 (2 + (Int.tmod (wrap64 (a1)) 2147483646)))).bind fun t117 => (if (wrap64 (2 + (Int.tmod (wrap64 (a1)) 2147483646))) = 0 then (none) else (galoislaw04_ResidueEuler.j0 k a0 (wrap64 (2 + (Int.tmod (wrap64 (a1)) 2147483646))) bt110.1 ((Int.tmod (wrap64 (t116 * t117)) (wrap64 (2 + (Int.tmod (wrap64 (a1)) 2147483646)))) != 1))))) else (galoislaw04_ResidueEuler.j0 k a0 (wrap64 (2 + (Int.tmod (wrap64 (a1)) 2147483646))) bt110.1 true)) else (galoislaw04_ResidueEuler.j0 k a0 (wrap64 (2 + (Int.tmod (wrap64 (a1)) 2147483646))) bt110.1 true)) else (galoislaw04_ResidueEuler.j0 k a0 (wrap64 (2 + (Int.tmod (wrap64 (a1)) 2147483646))) bt110.1 true)))) else (galoislaw04_ResidueEuler.j0 k a0 (wrap64 (2 + (Int.tmod (wrap64 (a1)) 2147483646))) bt110.1 true)) else (galoislaw04_ResidueEuler.j0 k a0 (wrap64 (2 + (Int.tmod (wrap64 (a1)) 2147483646))) bt110.1 true)) else (galoislaw04_ResidueEuler.j0 k a0 (wrap64 (2 + (Int.tmod (wrap64 (a1)) 2147483646))) bt110.1 true)) else (galoislaw04_ResidueEuler.j0 k a0 (wrap64 (2 + (Int.tmod (wrap64 (a1)) 2147483646))) bt110.1 true)) else (galoislaw04_ResidueEuler.j0 k a0 (wrap64 (2 + (Int.tmod (wrap64 (a1)) 2147483646))) bt110.1 true)))))))) else (none))) = some r := h
  clear h
  replace H := Option.bind_eq_some_iff.mp H
  obtain ⟨t101, A30, H⟩ := H
  replace H : (if t101 = true then ((residue_Inverse.f k a0 (wrap64 (2 + (Int.tmod (wrap64 (a1)) 2147483646)))).bind fun bt102 => (if bt102.2 = 6 then ((residue_Order.f k a0 (wrap64 (2 + (Int.tmod (wrap64 (a1)) 2147483646)))).bind fun bt104 => (if bt104.1 = 0 then (if bt104.2 = 6 then ((galoisref04_Mod.f a0 (wrap64 (2 + (Int.tmod (wrap64 (a1)) 2147483646)))).bind fun t106 => ((galoisref04_Gcd.f k t106 (wrap64 (2 + (Int.tmod (wrap64 (a1)) 2147483646)))).bind fun t107 => (some (decide (t107 > 1))))) else (none)) else (none))) else ((residue_Totient.f k (wrap64 (2 + (Int.tmod (wrap64 (a1)) 2147483646)))).bind fun bt108 => ((residue_Order.f k a0 (wrap64 (2 + (Int.tmod (wrap64 (a1)) 2147483646)))).bind fun bt110 => ((residue_Pow.f k a0 bt108.1 (wrap64 (2 + (Int.tmod (wrap64 (a1)) 2147483646)))).bind fun bt112 => ((residue_Pow.f k a0 bt110.1 (wrap64 (2 + (Int.tmod (wrap64 (a1)) 2147483646)))).bind fun bt114 => (if bt102.2 = 0 then (if bt108.2 = 0 then (if bt110.2 = 0 then (if bt112.2 = 0 then (if bt114.2 = 0 then (if bt110.1 < 1 then (galoislaw04_ResidueEuler.j0 k a0 (wrap64 (2 + (Int.tmod (wrap64 (a1)) 2147483646))) bt110.1 true) else (if bt110.1 = 0 then (none) else (if (Int.tmod bt108.1 bt110.1) = 0 then (if bt112.1 = 1 then (if bt114.1 = 1 then ((galoisref04_Mod.f a0 (wrap64 (2 + (Int.tmod (wrap64 (a1)) 2147483646)))).bind fun t116 => ((galoisref04_Mod.f bt102.1 (wrap64 (2 + (Int.tmod (wrap64 (a1)) 2147483646)))).bind fun t117 => (if (wrap64 (2 + (Int.tmod (wrap64 (a1)) 2147483646))) = 0 then (none) else (galoislaw04_ResidueEuler.j0 k a0 (wrap64 (2 + (Int.tmod (wrap64 (a1)) 2147483646))) bt110.1 ((Int.tmod (wrap64 (t116 * t117)) (wrap64 (2 + (Int.tmod (wrap64 (a1)) 2147483646)))) != 1))))) else (galoislaw04_ResidueEuler.j0 k a0 (wrap64 (2 + (Int.tmod (wrap64 (a1)) 2147483646))) bt110.1 true)) else (galoislaw04_ResidueEuler.j0 k a0 (wrap64 (2 + (Int.tmod (wrap64 (a1)) 2147483646))) bt110.1 true)) else (galoislaw04_ResidueEuler.j0 k a0 (wrap64 (2 + (Int.tmod (wrap64 (a1)) 2147483646))) bt110.1 true)))) else (galoislaw04_ResidueEuler.j0 k a0 (wrap64 (2 + (Int.tmod (wrap64 (a1)) 2147483646))) bt110.1 true)) else (galoislaw04_ResidueEuler.j0 k a0 (wrap64 (2 + (Int.tmod (wrap64 (a1)) 2147483646))) bt110.1 true)) else (galoislaw04_ResidueEuler.j0 k a0 (wrap64 (2 + (Int.tmod (wrap64 (a1)) 2147483646))) bt110.1 true)) else (galoislaw04_ResidueEuler.j0 k a0 (wrap64 (2 + (Int.tmod (wrap64 (a1)) 2147483646))) bt110.1 true)) else (galoislaw04_ResidueEuler.j0 k a0 (wrap64 (2 + (Int.tmod (wrap64 (a1)) 2147483646))) bt110.1 true)))))))) else (none)) = some r := H
  have A3 := Aside0.mk A30
  clear A30
  by_cases c4 : t101 = true
  · subst c4
    have H1 : ((residue_Inverse.f k a0 (wrap64 (2 + (Int.tmod (wrap64 (a1)) 2147483646)))).bind fun bt102 => (if bt102.2 = 6 then ((residue_Order.f k a0 (wrap64 (2 + (Int.tmod (wrap64 (a1)) 2147483646)))).bind fun bt104 => (if bt104.1 = 0 then (if bt104.2 = 6 then ((galoisref04_Mod.f a0 (wrap64 (2 + (Int.tmod (wrap64 (a1)) 2147483646)))).bind fun t106 => ((galoisref04_Gcd.f k t106 (wrap64 (2 + (Int.tmod (wrap64 (a1)) 2147483646)))).bind fun t107 => (some (decide (t107 > 1))))) else (none)) else (none))) else ((residue_Totient.f k (wrap64 (2 + (Int.tmod (wrap64 (a1)) 2147483646)))).bind fun bt108 => ((residue_Order.f k a0 (wrap64 (2 + (Int.tmod (wrap64 (a1)) 2147483646)))).bind fun bt110 => ((residue_Pow.f k a0 bt108.1 (wrap64 (2 + (Int.tmod (wrap64 (a1)) 2147483646)))).bind fun bt112 => ((residue_Pow.f k a0 bt110.1 (wrap64 (2 + (Int.tmod (wrap64 (a1)) 2147483646)))).bind fun bt114 => (if bt102.2 = 0 then (if bt108.2 = 0 then (if bt110.2 = 0 then (if bt112.2 = 0 then (if bt114.2 = 0 then (if bt110.1 < 1 then (galoislaw04_ResidueEuler.j0 k a0 (wrap64 (2 + (Int.tmod (wrap64 (a1)) 2147483646))) bt110.1 true) else (if bt110.1 = 0 then (none) else (if (Int.tmod bt108.1 bt110.1) = 0 then (if bt112.1 = 1 then (if bt114.1 = 1 then ((galoisref04_Mod.f a0 (wrap64 (2 + (Int.tmod (wrap64 (a1)) 2147483646)))).bind fun t116 => ((galoisref04_Mod.f bt102.1 (wrap64 (2 + (Int.tmod (wrap64 (a1)) 2147483646)))).bind fun t117 => (if (wrap64 (2 + (Int.tmod (wrap64 (a1)) 2147483646))) = 0 then (none) else (galoislaw04_ResidueEuler.j0 k a0 (wrap64 (2 + (Int.tmod (wrap64 (a1)) 2147483646))) bt110.1 ((Int.tmod (wrap64 (t116 * t117)) (wrap64 (2 + (Int.tmod (wrap64 (a1)) 2147483646)))) != 1))))) else (galoislaw04_ResidueEuler.j0 k a0 (wrap64 (2 + (Int.tmod (wrap64 (a1)) 2147483646))) bt110.1 true)) else (galoislaw04_ResidueEuler.j0 k a0 (wrap64 (2 + (Int.tmod (wrap64 (a1)) 2147483646))) bt110.1 true)) else (galoislaw04_ResidueEuler.j0 k a0 (wrap64 (2 + (Int.tmod (wrap64 (a1)) 2147483646))) bt110.1 true)))) else (galoislaw04_ResidueEuler.j0 k a0 (wrap64 (2 + (Int.tmod (wrap64 (a1)) 2147483646))) bt110.1 true)) else (galoislaw04_ResidueEuler.j0 k a0 (wrap64 (2 + (Int.tmod (wrap64 (a1)) 2147483646))) bt110.1 true)) else (galoislaw04_ResidueEuler.j0 k a0 (wrap64 (2 + (Int.tmod (wrap64 (a1)) 2147483646))) bt110.1 true)) else (galoislaw04_ResidueEuler.j0 k a0 (wrap64 (2 + (Int.tmod (wrap64 (a1)) 2147483646))) bt110.1 true)) else (galoislaw04_ResidueEuler.j0 k a0 (wrap64 (2 + (Int.tmod (wrap64 (a1)) 2147483646))) bt110.1 true)))))))) = some r := by rw [if_pos rfl] at H; exact H
    clear H
    have H := H1
    clear H1
    replace H := Option.bind_eq_some_iff.mp H
    obtain ⟨⟨t102, t103⟩, A50, H⟩ := H
    replace H : (if t103 = 6 then ((residue_Order.f k a0 (wrap64 (2 + (Int.tmod (wrap64 (a1)) 2147483646)))).bind fun bt104 => (if bt104.1 = 0 then (if bt104.2 = 6 then ((galoisref04_Mod.f a0 (wrap64 (2 + (Int.tmod (wrap64 (a1)) 2147483646)))).bind fun t106 => ((galoisref04_Gcd.f k t106 (wrap64 (2 + (Int.tmod (wrap64 (a1)) 2147483646)))).bind fun t107 => (some (decide (t107 > 1))))) else (none)) else (none))) else ((residue_Totient.f k (wrap64 (2 + (Int.tmod (wrap64 (a1)) 2147483646)))).bind fun bt108 => ((residue_Order.f k a0 (wrap64 (2 + (Int.tmod (wrap64 (a1)) 2147483646)))).bind fun bt110 => ((residue_Pow.f k a0 bt108.1 (wrap64 (2 + (Int.tmod (wrap64 (a1)) 2147483646)))).bind fun bt112 => ((residue_Pow.f k a0 bt110.1 (wrap64 (2 + (Int.tmod (wrap64 (a1)) 2147483646)))).bind fun bt114 => (if t103 = 0 then (if bt108.2 = 0 then (if bt110.2 = 0 then (if bt112.2 = 0 then (if bt114.2 = 0 then (if bt110.1 < 1 then (galoislaw04_ResidueEuler.j0 k a0 (wrap64 (2 + (Int.tmod (wrap64 (a1)) 2147483646))) bt110.1 true) else (if bt110.1 = 0 then (none) else (if (Int.tmod bt108.1 bt110.1) = 0 then (if bt112.1 = 1 then (if bt114.1 = 1 then ((galoisref04_Mod.f a0 (wrap64 (2 + (Int.tmod (wrap64 (a1)) 2147483646)))).bind fun t116 => ((galoisref04_Mod.f t102 (wrap64 (2 + (Int.tmod (wrap64 (a1)) 2147483646)))).bind fun t117 => (if (wrap64 (2 + (Int.tmod (wrap64 (a1)) 2147483646))) = 0 then (none) else (galoislaw04_ResidueEuler.j0 k a0 (wrap64 (2 + (Int.tmod (wrap64 (a1)) 2147483646))) bt110.1 ((Int.tmod (wrap64 (t116 * t117)) (wrap64 (2 + (Int.tmod (wrap64 (a1)) 2147483646)))) != 1))))) else (galoislaw04_ResidueEuler.j0 k a0 (wrap64 (2 + (Int.tmod (wrap64 (a1)) 2147483646))) bt110.1 true)) else (galoislaw04_ResidueEuler.j0 k a0 (wrap64 (2 + (Int.tmod (wrap64 (a1)) 2147483646))) bt110.1 true)) else (galoislaw04_ResidueEuler.j0 k a0 (wrap64 (2 + (Int.tmod (wrap64 (a1)) 2147483646))) bt110.1 true)))) else (galoislaw04_ResidueEuler.j0 k a0 (wrap64 (2 + (Int.tmod (wrap64 (a1)) 2147483646))) bt110.1 true)) else (galoislaw04_ResidueEuler.j0 k a0 (wrap64 (2 + (Int.tmod (wrap64 (a1)) 2147483646))) bt110.1 true)) else (galoislaw04_ResidueEuler.j0 k a0 (wrap64 (2 + (Int.tmod (wrap64 (a1)) 2147483646))) bt110.1 true)) else (galoislaw04_ResidueEuler.j0 k a0 (wrap64 (2 + (Int.tmod (wrap64 (a1)) 2147483646))) bt110.1 true)) else (galoislaw04_ResidueEuler.j0 k a0 (wrap64 (2 + (Int.tmod (wrap64 (a1)) 2147483646))) bt110.1 true))))))) = some r := H
    have A5 := Aside0.mk A50
    clear A50
    by_cases c6 : t103 = 6
    · rw [if_pos c6] at H
      have c6b0 : (t103 == 6) = true := beq_iff_eq.mpr c6
      have c6b1 : (t103 != 6) = false := bne_eq_false_iff_eq.mpr c6
      clear c6
      replace H := Option.bind_eq_some_iff.mp H
      obtain ⟨⟨t104, t105⟩, A70, H⟩ := H
      replace H : (if t104 = 0 then (if t105 = 6 then ((galoisref04_Mod.f a0 (wrap64 (2 + (Int.tmod (wrap64 (a1)) 2147483646)))).bind fun t106 => ((galoisref04_Gcd.f k t106 (wrap64 (2 + (Int.tmod (wrap64 (a1)) 2147483646)))).bind fun t107 => (some (decide (t107 > 1))))) else (none)) else (none)) = some r := H
      have A7 := Aside0.mk A70
      clear A70
      by_cases c8 : t104 = 0
      · rw [if_pos c8] at H
        have c8b0 : (t104 == 0) = true := beq_iff_eq.mpr c8
        have c8b1 : (t104 != 0) = false := bne_eq_false_iff_eq.mpr c8
        clear c8
        by_cases c9 : t105 = 6
        · rw [if_pos c9] at H
          have c9b0 : (t105 == 6) = true := beq_iff_eq.mpr c9
          have c9b1 : (t105 != 6) = false := bne_eq_false_iff_eq.mpr c9
          clear c9
          replace H := Option.bind_eq_some_iff.mp H
          obtain ⟨t106, A100, H⟩ := H
          replace H : ((galoisref04_Gcd.f k t106 (wrap64 (2 + (Int.tmod (wrap64 (a1)) 2147483646)))).bind fun t107 => (some (decide (t107 > 1)))) = some r := H
          have A10 := Aside0.mk A100
          clear A100
          replace H := Option.bind_eq_some_iff.mp H
          obtain ⟨t107, A110, H⟩ := H
          replace H : (some (decide (t107 > 1))) = some r := H
          have A11 := Aside0.mk A110
          clear A110
          obtain rfl := Option.some.inj H
          go_enter Try.func9, Try.ntmps9
          go_wp2_with (first | ((with_reducible refine gate_callee (f := 14) rfl ?_); refine goesL_ (some 22) rfl rfl Try.func14 (by kernel_rfl) rfl #[] rfl (by (try simp only [List.map_toArray, List.map_cons, List.map_nil]); first | done | rfl | (simp only [List.length_drop, List.length_take]; rfl)) ?_; (with_reducible refine (galoislaw04_awake.calls k  true _ A3.out).mono ?_); rintro e w12 ⟨rfl, hb⟩; refine ⟨_, rfl, ?_⟩; have n0_ := Aside0.mk (below_step (by repeat (first | (with_reducible first | exact HB.out | apply below_alloc | apply pw_below_drewN | apply below_drew1) | exact HB.out)) hb); clear HB; have HB := n0_; clear n0_; (try clear hb); (try clear hb2); (try clear hk); (try clear hi)) | ((with_reducible refine gate_callee (f := 34) rfl ?_); refine goesL_ (some 31) rfl rfl Try.func34 (by kernel_rfl) rfl #[.int .i64 a0, .int .i64 (wrap64 (2 + (Int.tmod (wrap64 (a1)) 2147483646)))] rfl (by (try simp only [List.map_toArray, List.map_cons, List.map_nil]); first | done | rfl | (simp only [List.length_drop, List.length_take]; rfl)) ?_; (with_reducible refine (residue_Inverse.calls k a0 (wrap64 (2 + (Int.tmod (wrap64 (a1)) 2147483646))) t102 t103 _ A5.out).mono ?_); rintro e w13 ⟨rfl, hb⟩; refine ⟨_, rfl, ?_⟩; have n0_ := Aside0.mk (below_step (by repeat (first | (with_reducible first | exact HB.out | apply below_alloc | apply pw_below_drewN | apply below_drew1) | exact HB.out)) hb); clear HB; have HB := n0_; clear n0_; (try clear hb); (try clear hb2); (try clear hk); (try clear hi)) | ((with_reducible refine gate_callee (f := 16) rfl ?_); refine goesL_ (some 39) rfl rfl Try.func16 (by kernel_rfl) rfl #[.int .i64 a0, .int .i64 (wrap64 (2 + (Int.tmod (wrap64 (a1)) 2147483646)))] rfl (by (try simp only [List.map_toArray, List.map_cons, List.map_nil]); first | done | rfl | (simp only [List.length_drop, List.length_take]; rfl)) ?_; (with_reducible refine (residue_Order.calls k a0 (wrap64 (2 + (Int.tmod (wrap64 (a1)) 2147483646))) t104 t105 _ A7.out).mono ?_); rintro e w14 ⟨rfl, hb⟩; refine ⟨_, rfl, ?_⟩; have n0_ := Aside0.mk (below_step (by repeat (first | (with_reducible first | exact HB.out | apply below_alloc | apply pw_below_drewN | apply below_drew1) | exact HB.out)) hb); clear HB; have HB := n0_; clear n0_; (try clear hb); (try clear hb2); (try clear hk); (try clear hi)) | (go_at_call 26; (with_reducible refine (galoisref04_Mod.calls a0 (wrap64 (2 + (Int.tmod (wrap64 (a1)) 2147483646))) t106 _ A10.out).mono ?_); rintro e w' ⟨rfl, ⟨nd, rfl⟩⟩) | (go_at_call 24; (with_reducible refine (galoisref04_Gcd.calls k t106 (wrap64 (2 + (Int.tmod (wrap64 (a1)) 2147483646))) t107 _ A11.out).mono ?_); rintro e w' ⟨rfl, ⟨nd, rfl⟩⟩))
          go_ret
          exact ⟨by first | rfl | (simp [errW_none, errW_some] <;> rfl) | (simp [*, errW_none, errW_some] <;> rfl), by repeat (first | (with_reducible first | exact HB.out | apply below_alloc | apply pw_below_drewN | apply below_drew1) | exact HB.out)⟩
        · rw [if_neg c9] at H
          exact absurd H (by simp)
      · rw [if_neg c8] at H
        exact absurd H (by simp)
    · rw [if_neg c6] at H
      have c6b0 : (t103 == 6) = false := beq_eq_false_iff_ne.mpr c6
      have c6b1 : (t103 != 6) = true := bne_iff_ne.mpr c6
      replace H := Option.bind_eq_some_iff.mp H
      obtain ⟨⟨t108, t109⟩, A150, H⟩ := H
      replace H : ((residue_Order.f k a0 (wrap64 (2 + (Int.tmod (wrap64 (a1)) 2147483646)))).bind fun bt110 => ((residue_Pow.f k a0 t108 (wrap64 (2 + (Int.tmod (wrap64 (a1)) 2147483646)))).bind fun bt112 => ((residue_Pow.f k a0 bt110.1 (wrap64 (2 + (Int.tmod (wrap64 (a1)) 2147483646)))).bind fun bt114 => (if t103 = 0 then (if t109 = 0 then (if bt110.2 = 0 then (if bt112.2 = 0 then (if bt114.2 = 0 then (if bt110.1 < 1 then (galoislaw04_ResidueEuler.j0 k a0 (wrap64 (2 + (Int.tmod (wrap64 (a1)) 2147483646))) bt110.1 true) else (if bt110.1 = 0 then (none) else (if (Int.tmod t108 bt110.1) = 0 then (if bt112.1 = 1 then (if bt114.1 = 1 then ((galoisref04_Mod.f a0 (wrap64 (2 + (Int.tmod (wrap64 (a1)) 2147483646)))).bind fun t116 => ((galoisref04_Mod.f t102 (wrap64 (2 + (Int.tmod (wrap64 (a1)) 2147483646)))).bind fun t117 => (if (wrap64 (2 + (Int.tmod (wrap64 (a1)) 2147483646))) = 0 then (none) else (galoislaw04_ResidueEuler.j0 k a0 (wrap64 (2 + (Int.tmod (wrap64 (a1)) 2147483646))) bt110.1 ((Int.tmod (wrap64 (t116 * t117)) (wrap64 (2 + (Int.tmod (wrap64 (a1)) 2147483646)))) != 1))))) else (galoislaw04_ResidueEuler.j0 k a0 (wrap64 (2 + (Int.tmod (wrap64 (a1)) 2147483646))) bt110.1 true)) else (galoislaw04_ResidueEuler.j0 k a0 (wrap64 (2 + (Int.tmod (wrap64 (a1)) 2147483646))) bt110.1 true)) else (galoislaw04_ResidueEuler.j0 k a0 (wrap64 (2 + (Int.tmod (wrap64 (a1)) 2147483646))) bt110.1 true)))) else (galoislaw04_ResidueEuler.j0 k a0 (wrap64 (2 + (Int.tmod (wrap64 (a1)) 2147483646))) bt110.1 true)) else (galoislaw04_ResidueEuler.j0 k a0 (wrap64 (2 + (Int.tmod (wrap64 (a1)) 2147483646))) bt110.1 true)) else (galoislaw04_ResidueEuler.j0 k a0 (wrap64 (2 + (Int.tmod (wrap64 (a1)) 2147483646))) bt110.1 true)) else (galoislaw04_ResidueEuler.j0 k a0 (wrap64 (2 + (Int.tmod (wrap64 (a1)) 2147483646))) bt110.1 true)) else (galoislaw04_ResidueEuler.j0 k a0 (wrap64 (2 + (Int.tmod (wrap64 (a1)) 2147483646))) bt110.1 true))))) = some r := H
      have A15 := Aside0.mk A150
      clear A150
      replace H := Option.bind_eq_some_iff.mp H
      obtain ⟨⟨t110, t111⟩, A160, H⟩ := H
      replace H : ((residue_Pow.f k a0 t108 (wrap64 (2 + (Int.tmod (wrap64 (a1)) 2147483646)))).bind fun bt112 => ((residue_Pow.f k a0 t110 (wrap64 (2 + (Int.tmod (wrap64 (a1)) 2147483646)))).bind fun bt114 => (if t103 = 0 then (if t109 = 0 then (if t111 = 0 then (if bt112.2 = 0 then (if bt114.2 = 0 then (if t110 < 1 then (galoislaw04_ResidueEuler.j0 k a0 (wrap64 (2 + (Int.tmod (wrap64 (a1)) 2147483646))) t110 true) else (if t110 = 0 then (none) else (if (Int.tmod t108 t110) = 0 then (if bt112.1 = 1 then (if bt114.1 = 1 then ((galoisref04_Mod.f a0 (wrap64 (2 + (Int.tmod (wrap64 (a1)) 2147483646)))).bind fun t116 => ((galoisref04_Mod.f t102 (wrap64 (2 + (Int.tmod (wrap64 (a1)) 2147483646)))).bind fun t117 => (if (wrap64 (2 + (Int.tmod (wrap64 (a1)) 2147483646))) = 0 then (none) else (galoislaw04_ResidueEuler.j0 k a0 (wrap64 (2 + (Int.tmod (wrap64 (a1)) 2147483646))) t110 ((Int.tmod (wrap64 (t116 * t117)) (wrap64 (2 + (Int.tmod (wrap64 (a1)) 2147483646)))) != 1))))) else (galoislaw04_ResidueEuler.j0 k a0 (wrap64 (2 + (Int.tmod (wrap64 (a1)) 2147483646))) t110 true)) else (galoislaw04_ResidueEuler.j0 k a0 (wrap64 (2 + (Int.tmod (wrap64 (a1)) 2147483646))) t110 true)) else (galoislaw04_ResidueEuler.j0 k a0 (wrap64 (2 + (Int.tmod (wrap64 (a1)) 2147483646))) t110 true)))) else (galoislaw04_ResidueEuler.j0 k a0 (wrap64 (2 + (Int.tmod (wrap64 (a1)) 2147483646))) t110 true)) else (galoislaw04_ResidueEuler.j0 k a0 (wrap64 (2 + (Int.tmod (wrap64 (a1)) 2147483646))) t110 true)) else (galoislaw04_ResidueEuler.j0 k a0 (wrap64 (2 + (Int.tmod (wrap64 (a1)) 2147483646))) t110 true)) else (galoislaw04_ResidueEuler.j0 k a0 (wrap64 (2 + (Int.tmod (wrap64 (a1)) 2147483646))) t110 true)) else (galoislaw04_ResidueEuler.j0 k a0 (wrap64 (2 + (Int.tmod (wrap64 (a1)) 2147483646))) t110 true)))) = some r := H
      have A16 := Aside0.mk A160
      clear A160
      replace H := Option.bind_eq_some_iff.mp H
      obtain ⟨⟨t112, t113⟩, A170, H⟩ := H
      replace H : ((residue_Pow.f k a0 t110 (wrap64 (2 + (Int.tmod (wrap64 (a1)) 2147483646)))).bind fun bt114 => (if t103 = 0 then (if t109 = 0 then (if t111 = 0 then (if t113 = 0 then (if bt114.2 = 0 then (if t110 < 1 then (galoislaw04_ResidueEuler.j0 k a0 (wrap64 (2 + (Int.tmod (wrap64 (a1)) 2147483646))) t110 true) else (if t110 = 0 then (none) else (if (Int.tmod t108 t110) = 0 then (if t112 = 1 then (if bt114.1 = 1 then ((galoisref04_Mod.f a0 (wrap64 (2 + (Int.tmod (wrap64 (a1)) 2147483646)))).bind fun t116 => ((galoisref04_Mod.f t102 (wrap64 (2 + (Int.tmod (wrap64 (a1)) 2147483646)))).bind fun t117 => (if (wrap64 (2 + (Int.tmod (wrap64 (a1)) 2147483646))) = 0 then (none) else (galoislaw04_ResidueEuler.j0 k a0 (wrap64 (2 + (Int.tmod (wrap64 (a1)) 2147483646))) t110 ((Int.tmod (wrap64 (t116 * t117)) (wrap64 (2 + (Int.tmod (wrap64 (a1)) 2147483646)))) != 1))))) else (galoislaw04_ResidueEuler.j0 k a0 (wrap64 (2 + (Int.tmod (wrap64 (a1)) 2147483646))) t110 true)) else (galoislaw04_ResidueEuler.j0 k a0 (wrap64 (2 + (Int.tmod (wrap64 (a1)) 2147483646))) t110 true)) else (galoislaw04_ResidueEuler.j0 k a0 (wrap64 (2 + (Int.tmod (wrap64 (a1)) 2147483646))) t110 true)))) else (galoislaw04_ResidueEuler.j0 k a0 (wrap64 (2 + (Int.tmod (wrap64 (a1)) 2147483646))) t110 true)) else (galoislaw04_ResidueEuler.j0 k a0 (wrap64 (2 + (Int.tmod (wrap64 (a1)) 2147483646))) t110 true)) else (galoislaw04_ResidueEuler.j0 k a0 (wrap64 (2 + (Int.tmod (wrap64 (a1)) 2147483646))) t110 true)) else (galoislaw04_ResidueEuler.j0 k a0 (wrap64 (2 + (Int.tmod (wrap64 (a1)) 2147483646))) t110 true)) else (galoislaw04_ResidueEuler.j0 k a0 (wrap64 (2 + (Int.tmod (wrap64 (a1)) 2147483646))) t110 true))) = some r := H
      have A17 := Aside0.mk A170
      clear A170
      replace H := Option.bind_eq_some_iff.mp H
      obtain ⟨⟨t114, t115⟩, A180, H⟩ := H
      replace H : (if t103 = 0 then (if t109 = 0 then (if t111 = 0 then (if t113 = 0 then (if t115 = 0 then (if t110 < 1 then (galoislaw04_ResidueEuler.j0 k a0 (wrap64 (2 + (Int.tmod (wrap64 (a1)) 2147483646))) t110 true) else (if t110 = 0 then (none) else (if (Int.tmod t108 t110) = 0 then (if t112 = 1 then (if t114 = 1 then ((galoisref04_Mod.f a0 (wrap64 (2 + (Int.tmod (wrap64 (a1)) 2147483646)))).bind fun t116 => ((galoisref04_Mod.f t102 (wrap64 (2 + (Int.tmod (wrap64 (a1)) 2147483646)))).bind fun t117 => (if (wrap64 (2 + (Int.tmod (wrap64 (a1)) 2147483646))) = 0 then (none) else (galoislaw04_ResidueEuler.j0 k a0 (wrap64 (2 + (Int.tmod (wrap64 (a1)) 2147483646))) t110 ((Int.tmod (wrap64 (t116 * t117)) (wrap64 (2 + (Int.tmod (wrap64 (a1)) 2147483646)))) != 1))))) else (galoislaw04_ResidueEuler.j0 k a0 (wrap64 (2 + (Int.tmod (wrap64 (a1)) 2147483646))) t110 true)) else (galoislaw04_ResidueEuler.j0 k a0 (wrap64 (2 + (Int.tmod (wrap64 (a1)) 2147483646))) t110 true)) else (galoislaw04_ResidueEuler.j0 k a0 (wrap64 (2 + (Int.tmod (wrap64 (a1)) 2147483646))) t110 true)))) else (galoislaw04_ResidueEuler.j0 k a0 (wrap64 (2 + (Int.tmod (wrap64 (a1)) 2147483646))) t110 true)) else (galoislaw04_ResidueEuler.j0 k a0 (wrap64 (2 + (Int.tmod (wrap64 (a1)) 2147483646))) t110 true)) else (galoislaw04_ResidueEuler.j0 k a0 (wrap64 (2 + (Int.tmod (wrap64 (a1)) 2147483646))) t110 true)) else (galoislaw04_ResidueEuler.j0 k a0 (wrap64 (2 + (Int.tmod (wrap64 (a1)) 2147483646))) t110 true)) else (galoislaw04_ResidueEuler.j0 k a0 (wrap64 (2 + (Int.tmod (wrap64 (a1)) 2147483646))) t110 true)) = some r := H
      have A18 := Aside0.mk A180
      clear A180
      have HC19 := Aside0.mk H
      clear H
      go_enter Try.func9, Try.ntmps9
      go_upto_region 12 with (first | ((with_reducible refine gate_callee (f := 14) rfl ?_); refine goesL_ (some 22) rfl rfl Try.func14 (by kernel_rfl) rfl #[] rfl (by (try simp only [List.map_toArray, List.map_cons, List.map_nil]); first | done | rfl | (simp only [List.length_drop, List.length_take]; rfl)) ?_; (with_reducible refine (galoislaw04_awake.calls k  true _ A3.out).mono ?_); rintro e w20 ⟨rfl, hb⟩; refine ⟨_, rfl, ?_⟩; have n0_ := Aside0.mk (below_step (by repeat (first | (with_reducible first | exact HB.out | apply below_alloc | apply pw_below_drewN | apply below_drew1) | exact HB.out)) hb); clear HB; have HB := n0_; clear n0_; (try clear hb); (try clear hb2); (try clear hk); (try clear hi)) | ((with_reducible refine gate_callee (f := 34) rfl ?_); refine goesL_ (some 31) rfl rfl Try.func34 (by kernel_rfl) rfl #[.int .i64 a0, .int .i64 (wrap64 (2 + (Int.tmod (wrap64 (a1)) 2147483646)))] rfl (by (try simp only [List.map_toArray, List.map_cons, List.map_nil]); first | done | rfl | (simp only [List.length_drop, List.length_take]; rfl)) ?_; (with_reducible refine (residue_Inverse.calls k a0 (wrap64 (2 + (Int.tmod (wrap64 (a1)) 2147483646))) t102 t103 _ A5.out).mono ?_); rintro e w21 ⟨rfl, hb⟩; refine ⟨_, rfl, ?_⟩; have n0_ := Aside0.mk (below_step (by repeat (first | (with_reducible first | exact HB.out | apply below_alloc | apply pw_below_drewN | apply below_drew1) | exact HB.out)) hb); clear HB; have HB := n0_; clear n0_; (try clear hb); (try clear hb2); (try clear hk); (try clear hi)) | ((with_reducible refine gate_callee (f := 37) rfl ?_); refine goesL_ (some 58) rfl rfl Try.func37 (by kernel_rfl) rfl #[.int .i64 (wrap64 (2 + (Int.tmod (wrap64 (a1)) 2147483646)))] rfl (by (try simp only [List.map_toArray, List.map_cons, List.map_nil]); first | done | rfl | (simp only [List.length_drop, List.length_take]; rfl)) ?_; (with_reducible refine (residue_Totient.calls k (wrap64 (2 + (Int.tmod (wrap64 (a1)) 2147483646))) t108 t109 _ A15.out).mono ?_); rintro e w22 ⟨rfl, hb⟩; refine ⟨_, rfl, ?_⟩; have n0_ := Aside0.mk (below_step (by repeat (first | (with_reducible first | exact HB.out | apply below_alloc | apply pw_below_drewN | apply below_drew1) | exact HB.out)) hb); clear HB; have HB := n0_; clear n0_; (try clear hb); (try clear hb2); (try clear hk); (try clear hi)) | ((with_reducible refine gate_callee (f := 16) rfl ?_); refine goesL_ (some 64) rfl rfl Try.func16 (by kernel_rfl) rfl #[.int .i64 a0, .int .i64 (wrap64 (2 + (Int.tmod (wrap64 (a1)) 2147483646)))] rfl (by (try simp only [List.map_toArray, List.map_cons, List.map_nil]); first | done | rfl | (simp only [List.length_drop, List.length_take]; rfl)) ?_; (with_reducible refine (residue_Order.calls k a0 (wrap64 (2 + (Int.tmod (wrap64 (a1)) 2147483646))) t110 t111 _ A16.out).mono ?_); rintro e w23 ⟨rfl, hb⟩; refine ⟨_, rfl, ?_⟩; have n0_ := Aside0.mk (below_step (by repeat (first | (with_reducible first | exact HB.out | apply below_alloc | apply pw_below_drewN | apply below_drew1) | exact HB.out)) hb); clear HB; have HB := n0_; clear n0_; (try clear hb); (try clear hb2); (try clear hk); (try clear hi)) | ((with_reducible refine gate_callee (f := 33) rfl ?_); refine goesL_ (some 71) rfl rfl Try.func33 (by kernel_rfl) rfl #[.int .i64 a0, .int .i64 t108, .int .i64 (wrap64 (2 + (Int.tmod (wrap64 (a1)) 2147483646)))] rfl (by (try simp only [List.map_toArray, List.map_cons, List.map_nil]); first | done | rfl | (simp only [List.length_drop, List.length_take]; rfl)) ?_; (with_reducible refine (residue_Pow.calls k a0 t108 (wrap64 (2 + (Int.tmod (wrap64 (a1)) 2147483646))) t112 t113 _ A17.out).mono ?_); rintro e w24 ⟨rfl, hb⟩; refine ⟨_, rfl, ?_⟩; have n0_ := Aside0.mk (below_step (by repeat (first | (with_reducible first | exact HB.out | apply below_alloc | apply pw_below_drewN | apply below_drew1) | exact HB.out)) hb); clear HB; have HB := n0_; clear n0_; (try clear hb); (try clear hb2); (try clear hk); (try clear hi)) | ((with_reducible refine gate_callee (f := 33) rfl ?_); refine goesL_ (some 78) rfl rfl Try.func33 (by kernel_rfl) rfl #[.int .i64 a0, .int .i64 t110, .int .i64 (wrap64 (2 + (Int.tmod (wrap64 (a1)) 2147483646)))] rfl (by (try simp only [List.map_toArray, List.map_cons, List.map_nil]); first | done | rfl | (simp only [List.length_drop, List.length_take]; rfl)) ?_; (with_reducible refine (residue_Pow.calls k a0 t110 (wrap64 (2 + (Int.tmod (wrap64 (a1)) 2147483646))) t114 t115 _ A18.out).mono ?_); rintro e w25 ⟨rfl, hb⟩; refine ⟨_, rfl, ?_⟩; have n0_ := Aside0.mk (below_step (by repeat (first | (with_reducible first | exact HB.out | apply below_alloc | apply pw_below_drewN | apply below_drew1) | exact HB.out)) hb); clear HB; have HB := n0_; clear n0_; (try clear hb); (try clear hb2); (try clear hk); (try clear hi)))
      (try simp only [Act.put, List.setIfInBounds_toArray, List.set_cons_zero, List.set_cons_succ])
      go_cut [128] (fun v128 wc => ∃ (kq : Nat) (x128_18 : Bool), v128 = .bool x128_18 ∧ Aside0 (galoislaw04_ResidueEuler.j0 kq a0 (wrap64 (2 + (Int.tmod (wrap64 (a1)) 2147483646))) t110 x128_18 = some r) ∧ Aside0 (kq ≤ k) ∧ Aside0 (Below w.heap.size w wc))
      case first =>
        have H := HC19.out
        clear HC19
        by_cases c26 : t103 = 0
        · rw [if_pos c26] at H
          have c26b0 : (t103 == 0) = true := beq_iff_eq.mpr c26
          have c26b1 : (t103 != 0) = false := bne_eq_false_iff_eq.mpr c26
          clear c26
          (first | rw [c26b0] | (simp only [i64_w, i32_w]; rw [c26b0]) | skip)
          by_cases c27 : t109 = 0
          · rw [if_pos c27] at H
            have c27b0 : (t109 == 0) = true := beq_iff_eq.mpr c27
            have c27b1 : (t109 != 0) = false := bne_eq_false_iff_eq.mpr c27
            clear c27
            by_cases c28 : t111 = 0
            · rw [if_pos c28] at H
              have c28b0 : (t111 == 0) = true := beq_iff_eq.mpr c28
              have c28b1 : (t111 != 0) = false := bne_eq_false_iff_eq.mpr c28
              clear c28
              by_cases c29 : t113 = 0
              · rw [if_pos c29] at H
                have c29b0 : (t113 == 0) = true := beq_iff_eq.mpr c29
                have c29b1 : (t113 != 0) = false := bne_eq_false_iff_eq.mpr c29
                clear c29
                by_cases c30 : t115 = 0
                · rw [if_pos c30] at H
                  have c30b0 : (t115 == 0) = true := beq_iff_eq.mpr c30
                  have c30b1 : (t115 != 0) = false := bne_eq_false_iff_eq.mpr c30
                  clear c30
                  by_cases c31 : t110 < 1
                  · rw [if_pos c31] at H
                    have c31b0 : decide (t110 < 1) = true := decide_eq_true c31
                    clear c31
                    have H' := Aside0.mk H
                    clear H
                    go_wp2
                    go_meet
                    case rel => exact ⟨_, (true), (by first | rfl | (simp; done) | (simp [*]; done)), H', ⟨by first | omega | exact Nat.le_refl _⟩, ⟨by repeat (first | (with_reducible first | exact HB.out | apply below_alloc | apply pw_below_drewN | apply below_drew1) | exact HB.out)⟩⟩
                  · rw [if_neg c31] at H
                    have c31b0 : decide (t110 < 1) = false := decide_eq_false c31
                    clear c31
                    by_cases c32 : t110 = 0
                    · rw [if_pos c32] at H
                      exact absurd H (by simp)
                    · rw [if_neg c32] at H
                      have c32b0 : (t110 == 0) = false := beq_eq_false_iff_ne.mpr c32
                      have c32b1 : (t110 != 0) = true := bne_iff_ne.mpr c32
                      by_cases c33 : (Int.tmod t108 t110) = 0
                      · rw [if_pos c33] at H
                        have c33b0 : ((Int.tmod t108 t110) == 0) = true := beq_iff_eq.mpr c33
                        have c33b1 : ((Int.tmod t108 t110) != 0) = false := bne_eq_false_iff_eq.mpr c33
                        clear c33
                        by_cases c34 : t112 = 1
                        · rw [if_pos c34] at H
                          have c34b0 : (t112 == 1) = true := beq_iff_eq.mpr c34
                          have c34b1 : (t112 != 1) = false := bne_eq_false_iff_eq.mpr c34
                          clear c34
                          by_cases c35 : t114 = 1
                          · rw [if_pos c35] at H
                            have c35b0 : (t114 == 1) = true := beq_iff_eq.mpr c35
                            have c35b1 : (t114 != 1) = false := bne_eq_false_iff_eq.mpr c35
                            clear c35
                            replace H := Option.bind_eq_some_iff.mp H
                            obtain ⟨t116, A360, H⟩ := H
                            replace H : ((galoisref04_Mod.f t102 (wrap64 (2 + (Int.tmod (wrap64 (a1)) 2147483646)))).bind fun t117 => (if (wrap64 (2 + (Int.tmod (wrap64 (a1)) 2147483646))) = 0 then (none) else (galoislaw04_ResidueEuler.j0 k a0 (wrap64 (2 + (Int.tmod (wrap64 (a1)) 2147483646))) t110 ((Int.tmod (wrap64 (t116 * t117)) (wrap64 (2 + (Int.tmod (wrap64 (a1)) 2147483646)))) != 1)))) = some r := H
                            have A36 := Aside0.mk A360
                            clear A360
                            replace H := Option.bind_eq_some_iff.mp H
                            obtain ⟨t117, A370, H⟩ := H
                            replace H : (if (wrap64 (2 + (Int.tmod (wrap64 (a1)) 2147483646))) = 0 then (none) else (galoislaw04_ResidueEuler.j0 k a0 (wrap64 (2 + (Int.tmod (wrap64 (a1)) 2147483646))) t110 ((Int.tmod (wrap64 (t116 * t117)) (wrap64 (2 + (Int.tmod (wrap64 (a1)) 2147483646)))) != 1))) = some r := H
                            have A37 := Aside0.mk A370
                            clear A370
                            by_cases c38 : (wrap64 (2 + (Int.tmod (wrap64 (a1)) 2147483646))) = 0
                            · rw [if_pos c38] at H
                              exact absurd H (by simp)
                            · rw [if_neg c38] at H
                              have c38b0 : ((wrap64 (2 + (Int.tmod (wrap64 (a1)) 2147483646))) == 0) = false := beq_eq_false_iff_ne.mpr c38
                              have c38b1 : ((wrap64 (2 + (Int.tmod (wrap64 (a1)) 2147483646))) != 0) = true := bne_iff_ne.mpr c38
                              have H' := Aside0.mk H
                              clear H
                              go_wp2_with (first | (go_at_call 26; (with_reducible refine (galoisref04_Mod.calls a0 (wrap64 (2 + (Int.tmod (wrap64 (a1)) 2147483646))) t116 _ A36.out).mono ?_); rintro e w' ⟨rfl, ⟨nd, rfl⟩⟩) | (go_at_call 26; (with_reducible refine (galoisref04_Mod.calls t102 (wrap64 (2 + (Int.tmod (wrap64 (a1)) 2147483646))) t117 _ A37.out).mono ?_); rintro e w' ⟨rfl, ⟨nd, rfl⟩⟩))
                              go_meet
                              case rel => exact ⟨_, (((Int.tmod (wrap64 (t116 * t117)) (wrap64 (2 + (Int.tmod (wrap64 (a1)) 2147483646)))) != 1)), (by first | rfl | (simp; done) | (simp [*]; done)), H', ⟨by first | omega | exact Nat.le_refl _⟩, ⟨by repeat (first | (with_reducible first | exact HB.out | apply below_alloc | apply pw_below_drewN | apply below_drew1) | exact HB.out)⟩⟩
                          · rw [if_neg c35] at H
                            have c35b0 : (t114 == 1) = false := beq_eq_false_iff_ne.mpr c35
                            have c35b1 : (t114 != 1) = true := bne_iff_ne.mpr c35
                            have H' := Aside0.mk H
                            clear H
                            go_wp2
                            go_meet
                            case rel => exact ⟨_, (true), (by first | rfl | (simp; done) | (simp [*]; done)), H', ⟨by first | omega | exact Nat.le_refl _⟩, ⟨by repeat (first | (with_reducible first | exact HB.out | apply below_alloc | apply pw_below_drewN | apply below_drew1) | exact HB.out)⟩⟩
                        · rw [if_neg c34] at H
                          have c34b0 : (t112 == 1) = false := beq_eq_false_iff_ne.mpr c34
                          have c34b1 : (t112 != 1) = true := bne_iff_ne.mpr c34
                          have H' := Aside0.mk H
                          clear H
                          go_wp2
                          go_meet
                          case rel => exact ⟨_, (true), (by first | rfl | (simp; done) | (simp [*]; done)), H', ⟨by first | omega | exact Nat.le_refl _⟩, ⟨by repeat (first | (with_reducible first | exact HB.out | apply below_alloc | apply pw_below_drewN | apply below_drew1) | exact HB.out)⟩⟩
                      · rw [if_neg c33] at H
                        have c33b0 : ((Int.tmod t108 t110) == 0) = false := beq_eq_false_iff_ne.mpr c33
                        have c33b1 : ((Int.tmod t108 t110) != 0) = true := bne_iff_ne.mpr c33
                        have H' := Aside0.mk H
                        clear H
                        go_wp2
                        go_meet
                        case rel => exact ⟨_, (true), (by first | rfl | (simp; done) | (simp [*]; done)), H', ⟨by first | omega | exact Nat.le_refl _⟩, ⟨by repeat (first | (with_reducible first | exact HB.out | apply below_alloc | apply pw_below_drewN | apply below_drew1) | exact HB.out)⟩⟩
                · rw [if_neg c30] at H
                  have c30b0 : (t115 == 0) = false := beq_eq_false_iff_ne.mpr c30
                  have c30b1 : (t115 != 0) = true := bne_iff_ne.mpr c30
                  have H' := Aside0.mk H
                  clear H
                  go_wp2
                  go_meet
                  case rel => exact ⟨_, (true), (by first | rfl | (simp; done) | (simp [*]; done)), H', ⟨by first | omega | exact Nat.le_refl _⟩, ⟨by repeat (first | (with_reducible first | exact HB.out | apply below_alloc | apply pw_below_drewN | apply below_drew1) | exact HB.out)⟩⟩
              · rw [if_neg c29] at H
                have c29b0 : (t113 == 0) = false := beq_eq_false_iff_ne.mpr c29
                have c29b1 : (t113 != 0) = true := bne_iff_ne.mpr c29
                have H' := Aside0.mk H
                clear H
                go_wp2
                go_meet
                case rel => exact ⟨_, (true), (by first | rfl | (simp; done) | (simp [*]; done)), H', ⟨by first | omega | exact Nat.le_refl _⟩, ⟨by repeat (first | (with_reducible first | exact HB.out | apply below_alloc | apply pw_below_drewN | apply below_drew1) | exact HB.out)⟩⟩
            · rw [if_neg c28] at H
              have c28b0 : (t111 == 0) = false := beq_eq_false_iff_ne.mpr c28
              have c28b1 : (t111 != 0) = true := bne_iff_ne.mpr c28
              have H' := Aside0.mk H
              clear H
              go_wp2
              go_meet
              case rel => exact ⟨_, (true), (by first | rfl | (simp; done) | (simp [*]; done)), H', ⟨by first | omega | exact Nat.le_refl _⟩, ⟨by repeat (first | (with_reducible first | exact HB.out | apply below_alloc | apply pw_below_drewN | apply below_drew1) | exact HB.out)⟩⟩
          · rw [if_neg c27] at H
            have c27b0 : (t109 == 0) = false := beq_eq_false_iff_ne.mpr c27
            have c27b1 : (t109 != 0) = true := bne_iff_ne.mpr c27
            have H' := Aside0.mk H
            clear H
            go_wp2
            go_meet
            case rel => exact ⟨_, (true), (by first | rfl | (simp; done) | (simp [*]; done)), H', ⟨by first | omega | exact Nat.le_refl _⟩, ⟨by repeat (first | (with_reducible first | exact HB.out | apply below_alloc | apply pw_below_drewN | apply below_drew1) | exact HB.out)⟩⟩
        · rw [if_neg c26] at H
          have c26b0 : (t103 == 0) = false := beq_eq_false_iff_ne.mpr c26
          have c26b1 : (t103 != 0) = true := bne_iff_ne.mpr c26
          (first | rw [c26b0] | (simp only [i64_w, i32_w]; rw [c26b0]) | skip)
          have H' := Aside0.mk H
          clear H
          go_wp2
          go_meet
          case rel => exact ⟨_, (true), (by first | rfl | (simp; done) | (simp [*]; done)), H', ⟨by first | omega | exact Nat.le_refl _⟩, ⟨by repeat (first | (with_reducible first | exact HB.out | apply below_alloc | apply pw_below_drewN | apply below_drew1) | exact HB.out)⟩⟩
      case rest =>
        clear HC19
        try clear c1
        try clear c2
        try clear p2
        try clear c3
        try clear c4
        try clear c6
        try clear c6b0
        try clear c6b1
        try clear p6
        try clear c8
        try clear c8b0
        try clear c8b1
        try clear c9
        try clear c9b0
        try clear c9b1
        try clear c14
        try clear c16
        try clear c26
        try clear c26b0
        try clear c26b1
        try clear c27
        try clear c27b0
        try clear c27b1
        try clear c28
        try clear c28b0
        try clear c28b1
        try clear c29
        try clear c29b0
        try clear c29b1
        try clear c30
        try clear c30b0
        try clear c30b1
        try clear c31
        try clear c31b0
        try clear c32
        try clear c32b0
        try clear c32b1
        try clear c33
        try clear c33b0
        try clear c33b1
        try clear c34
        try clear c34b0
        try clear c34b1
        try clear c35
        try clear c35b0
        try clear c35b1
        try clear c37
        try clear c38
        try clear c38b0
        try clear c38b1
        obtain ⟨kq, x128_18, rfl, HA, HJ18, HB⟩ := hcut
        cases kq with
        | zero => exact absurd HA.out (by simp [galoislaw04_ResidueEuler.j0])
        | succ kj18 =>
          have H := HA.out
          clear HA
          simp only [galoislaw04_ResidueEuler.j0] at H
          by_cases c39 : x128_18 = true
          · subst c39
            have H1 : (none) = some r := by rw [if_pos rfl] at H; exact H
            clear H
            have H := H1
            clear H1
            exact absurd H (by simp)
          · replace c39 := Bool.eq_false_iff.mpr c39
            subst c39
            have H1 : ((residue_Factor.f kj18 t110).bind fun bt118 => (if bt118.2 = 0 then (galoislaw04_ResidueEuler.l0 kj18 a0 (wrap64 (2 + (Int.tmod (wrap64 (a1)) 2147483646))) t110 bt118.1 0) else (none))) = some r := by rw [if_neg (show ¬ (false = true) by decide)] at H; exact H
            clear H
            have H := H1
            clear H1
            replace H := Option.bind_eq_some_iff.mp H
            obtain ⟨⟨t118, t119⟩, A400, H⟩ := H
            replace H : (if t119 = 0 then (galoislaw04_ResidueEuler.l0 kj18 a0 (wrap64 (2 + (Int.tmod (wrap64 (a1)) 2147483646))) t110 t118 0) else (none)) = some r := H
            have A40 := Aside0.mk A400
            clear A400
            by_cases c41 : t119 = 0
            · rw [if_pos c41] at H
              have c41b0 : (t119 == 0) = true := beq_iff_eq.mpr c41
              have c41b1 : (t119 != 0) = false := bne_eq_false_iff_eq.mpr c41
              clear c41
              have H' := Aside0.mk H
              clear H
              go_wp2_with (first | ((with_reducible refine gate_callee (f := 38) rfl ?_); refine goesL_ (some 131) rfl rfl Try.func38 (by kernel_rfl) rfl #[.int .i64 t110] rfl (by (try simp only [List.map_toArray, List.map_cons, List.map_nil]); first | done | rfl | (simp only [List.length_drop, List.length_take]; rfl)) ?_; (with_reducible refine (residue_Factor.calls kj18 t110 t118 t119 _ A40.out).mono ?_); rintro e w42 ⟨v120, rfl, ho0, hb⟩; refine ⟨_, rfl, ?_⟩; have n0_ := Aside0.mk (Kd.R_lower ho0 (below_size (by repeat (first | (with_reducible first | exact HB.out | apply below_alloc | apply pw_below_drewN | apply below_drew1) | exact HB.out)))); have n1_ := Aside0.mk (below_step (by repeat (first | (with_reducible first | exact HB.out | apply below_alloc | apply pw_below_drewN | apply below_drew1) | exact HB.out)) hb); clear HB; have HO121 := n0_; have HB := n1_; clear n0_ n1_; (try clear hb); (try clear hb2); (try clear hk); (try clear hi); (try clear ho0)))
              go_loopg [19] kj18 (fun kq v19 w' => ∃ (x19_2 : Int), v19 = .int .i64 x19_2 ∧ Aside0 (galoislaw04_ResidueEuler.l0 kq a0 (wrap64 (2 + (Int.tmod (wrap64 (a1)) 2147483646))) t110 t118 x19_2 = some r) ∧ Aside0 (kq ≤ kj18) ∧ Aside0 (Kd.R k53 53 w' w.heap.size (fun _ => True) v120 t118) ∧ Aside0 (Below w.heap.size w w'))
              case atStart => exact ⟨(0), (by first | rfl | (simp; done) | (simp [*]; done)), H', ⟨Nat.le_refl _⟩, ⟨by (with_reducible repeat (first | apply Kd.R_alloc | apply Kd.R_drewN | apply Kd.R_drew)); exact HO121.out⟩, ⟨by repeat (first | (with_reducible first | exact HB.out | apply below_alloc | apply pw_below_drewN | apply below_drew1) | exact HB.out)⟩⟩
              case round =>
                clear H'
                try clear c1
                try clear c2
                try clear p2
                try clear c3
                try clear c4
                try clear c6
                try clear c6b0
                try clear c6b1
                try clear p6
                try clear c8
                try clear c8b0
                try clear c8b1
                try clear c9
                try clear c9b0
                try clear c9b1
                try clear c14
                try clear c16
                try clear c26
                try clear c26b0
                try clear c26b1
                try clear c27
                try clear c27b0
                try clear c27b1
                try clear c28
                try clear c28b0
                try clear c28b1
                try clear c29
                try clear c29b0
                try clear c29b1
                try clear c30
                try clear c30b0
                try clear c30b1
                try clear c31
                try clear c31b0
                try clear c32
                try clear c32b0
                try clear c32b1
                try clear c33
                try clear c33b0
                try clear c33b1
                try clear c34
                try clear c34b0
                try clear c34b1
                try clear c35
                try clear c35b0
                try clear c35b1
                try clear c37
                try clear c38
                try clear c38b0
                try clear c38b1
                try clear c39
                try clear c41
                try clear c41b0
                try clear c41b1
                try clear p2
                try clear p6
                obtain ⟨x19_2, rfl, HA, HK2, HO_18, HB⟩ := hrel
                cases gk with
                | zero => exact absurd HA.out (by simp [galoislaw04_ResidueEuler.l0])
                | succ k2 =>
                  have H := HA.out
                  clear HA
                  simp only [galoislaw04_ResidueEuler.l0] at H
                  by_cases c43 : x19_2 < (t118.length : Int)
                  · rw [if_pos c43] at H
                    have c43b0 : decide (x19_2 < (t118.length : Int)) = true := decide_eq_true c43
                    clear c43
                    by_cases c44 : 0 ≤ x19_2
                    · rw [if_pos c44] at H
                      have c44b0 : decide (0 ≤ x19_2) = true := decide_eq_true c44
                      clear c44
                      by_cases c45 : ((rd_T53 t118 x19_2).f0) < 2
                      · rw [if_pos c45] at H
                        exact absurd H (by simp)
                      · rw [if_neg c45] at H
                        have c45b0 : decide (((rd_T53 t118 x19_2).f0) < 2) = false := decide_eq_false c45
                        clear c45
                        by_cases c46 : ((rd_T53 t118 x19_2).f0) = 0
                        · rw [if_pos c46] at H
                          exact absurd H (by simp)
                        · rw [if_neg c46] at H
                          have c46b0 : (((rd_T53 t118 x19_2).f0) == 0) = false := beq_eq_false_iff_ne.mpr c46
                          have c46b1 : (((rd_T53 t118 x19_2).f0) != 0) = true := bne_iff_ne.mpr c46
                          replace H := Option.bind_eq_some_iff.mp H
                          obtain ⟨⟨t124, t125⟩, A470, H⟩ := H
                          replace H : (if t125 = 0 then (if t124 = 1 then (none) else (galoislaw04_ResidueEuler.l0 k2 a0 (wrap64 (2 + (Int.tmod (wrap64 (a1)) 2147483646))) t110 t118 (wrap64 (x19_2 + 1)))) else (none)) = some r := H
                          have A47 := Aside0.mk A470
                          clear A470
                          by_cases c48 : t125 = 0
                          · rw [if_pos c48] at H
                            have c48b0 : (t125 == 0) = true := beq_iff_eq.mpr c48
                            have c48b1 : (t125 != 0) = false := bne_eq_false_iff_eq.mpr c48
                            clear c48
                            by_cases c49 : t124 = 1
                            · rw [if_pos c49] at H
                              exact absurd H (by simp)
                            · rw [if_neg c49] at H
                              have c49b0 : (t124 == 1) = false := beq_eq_false_iff_ne.mpr c49
                              have c49b1 : (t124 != 1) = true := bne_iff_ne.mpr c49
                              have H' := Aside0.mk H
                              clear H
                              obtain ⟨Ao50, co50, eo50⟩ := Kd.R_slice HO_18.out
                              subst eo50
                              have p122 : 0 ≤ (x19_2 : Int) := of_decide_eq_true (by first | (with_reducible assumption) | assumption)
                              have q122 : x19_2 < (t118.length : Int) := of_decide_eq_true (by first | (with_reducible assumption) | assumption)
                              obtain ⟨ad122, e122, hx122_0, hx122_1⟩ := at_T53 (Kd.R_reads' HO_18.out).2.2 x19_2 p122 q122
                              cases e122
                              replace p122 := eq_true p122
                              replace q122 := eq_true q122
                              have p123 : 0 ≤ (x19_2 : Int) := of_decide_eq_true (by first | (with_reducible assumption) | assumption)
                              have q123 : x19_2 < (t118.length : Int) := of_decide_eq_true (by first | (with_reducible assumption) | assumption)
                              obtain ⟨ad123, e123, hx123_0, hx123_1⟩ := at_T53 (Kd.R_reads' HO_18.out).2.2 x19_2 p123 q123
                              obtain rfl : ad122 = ad123 := (by injection e123)
                              replace p123 := eq_true p123
                              replace q123 := eq_true q123
                              go_wp2_with (first | ((with_reducible refine gate_callee (f := 33) rfl ?_); refine goesL_ (some 158) rfl rfl Try.func33 (by kernel_rfl) rfl #[.int .i64 a0, .int .i64 (wrap64 (Int.tdiv t110 ((rd_T53 t118 x19_2).f0))), .int .i64 (wrap64 (2 + (Int.tmod (wrap64 (a1)) 2147483646)))] rfl (by (try simp only [List.map_toArray, List.map_cons, List.map_nil]); first | done | rfl | (simp only [List.length_drop, List.length_take]; rfl)) ?_; (with_reducible refine (residue_Pow.calls k2 a0 (wrap64 (Int.tdiv t110 ((rd_T53 t118 x19_2).f0))) (wrap64 (2 + (Int.tmod (wrap64 (a1)) 2147483646))) t124 t125 _ A47.out).mono ?_); rintro e w51 ⟨rfl, hb⟩; refine ⟨_, rfl, ?_⟩; have n0_ := Aside0.mk (Kd.R_below (by (with_reducible repeat (first | apply Kd.R_alloc | apply Kd.R_drewN | apply Kd.R_drew)); exact HO_18.out) hb); have n1_ := Aside0.mk (below_step (by repeat (first | (with_reducible first | exact HB.out | apply below_alloc | apply pw_below_drewN | apply below_drew1) | exact HB.out)) hb); clear HO_18; clear HB; have HO_18 := n0_; have HB := n1_; clear n0_ n1_; (try clear hb); (try clear hb2); (try clear hk); (try clear hi)))
                              go_roundg k2
                              case measure => have := HJ18.out; have := HK2.out; omega
                              case rel => exact ⟨(wrap64 (x19_2 + 1)), (by first | rfl | (simp; done) | (simp [*]; done)), H', ⟨by have := HJ18.out; have := HK2.out; omega⟩, ⟨by (with_reducible repeat (first | apply Kd.R_alloc | apply Kd.R_drewN | apply Kd.R_drew)); exact HO_18.out⟩, ⟨by repeat (first | (with_reducible first | exact HB.out | apply below_alloc | apply pw_below_drewN | apply below_drew1) | exact HB.out)⟩⟩
                          · rw [if_neg c48] at H
                            exact absurd H (by simp)
                    · rw [if_neg c44] at H
                      exact absurd H (by simp)
                  · rw [if_neg c43] at H
                    have c43b0 : decide (x19_2 < (t118.length : Int)) = false := decide_eq_false c43
                    clear c43
                    obtain rfl := Option.some.inj H
                    obtain ⟨Ao52, co52, eo52⟩ := Kd.R_slice HO_18.out
                    subst eo52
                    go_wp2
                    go_ret
                    exact ⟨by first | rfl | (simp [errW_none, errW_some] <;> rfl) | (simp [*, errW_none, errW_some] <;> rfl), by repeat (first | (with_reducible first | exact HB.out | apply below_alloc | apply pw_below_drewN | apply below_drew1) | exact HB.out)⟩
            · rw [if_neg c41] at H
              exact absurd H (by simp)
  · replace c4 := Bool.eq_false_iff.mpr c4
    subst c4
    have H1 : (none) = some r := by rw [if_neg (show ¬ (false = true) by decide)] at H; exact H
    clear H
    have H := H1
    clear H1
    exact absurd H (by simp)

/-- THE ONE PURE STATEMENT of galoislaw04_ResidueEuler: yours. -/
def galoislaw04_ResidueEuler.Pure : Prop := ∀ (a0 : Int) (a1 : Int), (Lit.int .i64 a0).wf = true → (Lit.int .u32 a1).wf = true → ∃ k, galoislaw04_ResidueEuler.f k a0 a1 = some true
theorem galoislaw04_ResidueEuler.walk (P : galoislaw04_ResidueEuler.Pure) (a0 : Int) (a1 : Int) (w : World) (w0 : (Lit.int .i64 a0).wf = true) (w1 : (Lit.int .u32 a1).wf = true) :
    Calls Try.prog 9 #[.int .i64 a0, .int .u32 a1] w fun e w' => e = .returned (.bool true) ∧ Below w.heap.size w w' := by
  obtain ⟨k, h⟩ := P a0 a1 w0 w1
  refine (galoislaw04_ResidueEuler.calls k a0 a1 true w h).mono ?_
  rintro e w' ⟨rfl, hd⟩
  exact ⟨rfl, hd⟩

end Go.Proofs.Ytmedflaejnbkoaa.Q

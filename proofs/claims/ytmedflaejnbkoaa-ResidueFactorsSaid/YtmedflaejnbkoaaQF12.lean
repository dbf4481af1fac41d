/- Machine side: a program of the session wrote this text (the kit's print.py and the session's own contracts). Conditions: none of its own. -/
import Derived.Test.YtmedflaejnbkoaaQ0
import Derived.Test.YtmedflaejnbkoaaQG2
import Derived.Test.YtmedflaejnbkoaaQF15
import Derived.Test.YtmedflaejnbkoaaQF18
import Derived.Test.YtmedflaejnbkoaaQF49
import Derived.Test.YtmedflaejnbkoaaQF52
import Derived.Test.YtmedflaejnbkoaaQF29
import Derived.Test.YtmedflaejnbkoaaQG3
import Derived.Test.YtmedflaejnbkoaaQF50
import Derived.Test.YtmedflaejnbkoaaQF51
import Derived.Test.YtmedflaejnbkoaaQF53
namespace Go.Proofs.Ytmedflaejnbkoaa.Q
open Go.RowKit Go.Proofs.YtmedflaejnbkoaaW.PrintWords Go.Proofs.YtmedflaejnbkoaaW.PrintLast Go.Proofs.YtmedflaejnbkoaaW.PrintMore
attribute [local go_sem] max2_int min2_int max_two min_two max_three min_three max_four min_four   -- for this text's walks alone
set_option linter.unusedVariables false
set_option linter.unusedSimpArgs false

/-! ### galoislaw04_ResidueFactors: function 12 -/
def galoislaw04_ResidueFactors.j0 : Nat → Int → Bool → List (S53) → List Int → Int → Int → Int → Int → Bool → Option (Bool)
  | 0, _, _, _, _, _, _, _, _, _ => none
  | k + 1, x0, x3, x5, x7, x9, x10, x11, x12, x87 => if x87 = true then (none) else ((galoislaw04_awake.f k).bind fun t119 => (if t119 = true then ((galoisref04_IsPrime.f k x0).bind fun t120 => (if (x3 == t120) = true then ((galoisref04_Factor.f k x0).bind fun t121 => ((galoislaw04_samePowers.f k x5 t121).bind fun t124 => (if t124 = true then ((galoisref04_Divisors.f k x0).bind fun t125 => ((galoislaw04_same.f k x7 t125).bind fun t128 => (if t128 = true then ((galoisref04_Totient.f k x0).bind fun t129 => ((galoislaw04_is.f x9 x10 t129 0).bind fun t130 => (if t130 = true then ((galoisref04_Moebius.f k x0).bind fun t131 => ((galoislaw04_is.f x11 x12 t131 0).bind fun t132 => (some t132))) else (none)))) else (none)))) else (none)))) else (none))) else (none)))
def galoislaw04_ResidueFactors.f (k : Nat) (a0 : Int) : Option (Bool) := (residue_IsPrime.f k a0).bind fun bt101 => ((residue_Factor.f k a0).bind fun bt103 => ((residue_Divisors.f k a0).bind fun bt107 => ((residue_Totient.f k a0).bind fun bt111 => ((residue_Moebius.f k a0).bind fun bt113 => ((galoisref04_IsModulus.f a0).bind fun t115 => (if t115 = true then (if bt101.2 = 0 then (if bt103.2 = 0 then (galoislaw04_ResidueFactors.j0 k a0 bt101.1 bt103.1 bt107.1 bt111.1 bt111.2 bt113.1 bt113.2 (bt107.2 != 0)) else (galoislaw04_ResidueFactors.j0 k a0 bt101.1 bt103.1 bt107.1 bt111.1 bt111.2 bt113.1 bt113.2 true)) else (galoislaw04_ResidueFactors.j0 k a0 bt101.1 bt103.1 bt107.1 bt111.1 bt111.2 bt113.1 bt113.2 true)) else ((galoislaw04_awake.f k).bind fun t116 => (if t116 = true then (if bt101.1 = true then (none) else (if bt101.2 = 3 then (if (bt103.1.length : Int) = 0 then (if bt103.2 = 3 then (if (bt107.1.length : Int) = 0 then (if bt107.2 = 3 then ((galoislaw04_is.f bt111.1 bt111.2 0 3).bind fun t117 => (if t117 = true then ((galoislaw04_is.f bt113.1 bt113.2 0 3).bind fun t118 => (some t118)) else (none))) else (none)) else (none)) else (none)) else (none)) else (none))) else (none)))))))))
theorem galoislaw04_ResidueFactors.mono_l : ∀ k, (∀ y0 y1 y2 y3 y4 y5 y6 y7 y8, LeO (galoislaw04_ResidueFactors.j0 k y0 y1 y2 y3 y4 y5 y6 y7 y8) (galoislaw04_ResidueFactors.j0 (k + 1) y0 y1 y2 y3 y4 y5 y6 y7 y8))
  | 0 => fun _ _ _ _ _ _ _ _ _ r h => by simp [galoislaw04_ResidueFactors.j0] at h
  | k + 1 => by
    have ih0 := galoislaw04_ResidueFactors.mono_l k
    · intro y0 y1 y2 y3 y4 y5 y6 y7 y8
      unfold galoislaw04_ResidueFactors.j0
      repeat' first
      | (with_reducible exact ih0 _ _ _ _ _ _ _ _ _)
      | (with_reducible exact galoislaw04_awake.mono _)
      | (with_reducible exact galoislaw04_same.mono _ _ _)
      | (with_reducible exact galoislaw04_samePowers.mono _ _ _)
      | (with_reducible exact galoisref04_Divisors.mono _ _)
      | (with_reducible exact galoisref04_Factor.mono _ _)
      | (with_reducible exact galoisref04_IsPrime.mono _ _)
      | (with_reducible exact galoisref04_Moebius.mono _ _)
      | (with_reducible exact galoisref04_Totient.mono _ _)
      | (with_reducible exact residue_Divisors.mono _ _)
      | (with_reducible exact residue_Factor.mono _ _)
      | (with_reducible exact residue_IsPrime.mono _ _)
      | (with_reducible exact residue_Moebius.mono _ _)
      | (with_reducible exact residue_Totient.mono _ _)
      | (with_reducible exact LeO.refl _)
      | (with_reducible exact LeO.none _)
      | (with_reducible refine LeO.ite ?_ ?_)
      | (with_reducible refine LeO.bind ?_ (fun _ => ?_))
      | exact ih0 _ _ _ _ _ _ _ _ _
      | exact galoislaw04_awake.mono _
      | exact galoislaw04_same.mono _ _ _
      | exact galoislaw04_samePowers.mono _ _ _
      | exact galoisref04_Divisors.mono _ _
      | exact galoisref04_Factor.mono _ _
      | exact galoisref04_IsPrime.mono _ _
      | exact galoisref04_Moebius.mono _ _
      | exact galoisref04_Totient.mono _ _
      | exact residue_Divisors.mono _ _
      | exact residue_Factor.mono _ _
      | exact residue_IsPrime.mono _ _
      | exact residue_Moebius.mono _ _
      | exact residue_Totient.mono _ _
      | exact LeO.none _
      | refine LeO.ite ?_ ?_
      | refine LeO.bind ?_ (fun _ => ?_)
theorem galoislaw04_ResidueFactors.mono : ∀ a0 k, LeO (galoislaw04_ResidueFactors.f k a0) (galoislaw04_ResidueFactors.f (k + 1) a0) := by
  intro a0 k
  have ih0 := galoislaw04_ResidueFactors.mono_l k
  unfold galoislaw04_ResidueFactors.f
  repeat' first
      | (with_reducible exact ih0 _ _ _ _ _ _ _ _ _)
      | (with_reducible exact galoislaw04_awake.mono _)
      | (with_reducible exact galoislaw04_same.mono _ _ _)
      | (with_reducible exact galoislaw04_samePowers.mono _ _ _)
      | (with_reducible exact galoisref04_Divisors.mono _ _)
      | (with_reducible exact galoisref04_Factor.mono _ _)
      | (with_reducible exact galoisref04_IsPrime.mono _ _)
      | (with_reducible exact galoisref04_Moebius.mono _ _)
      | (with_reducible exact galoisref04_Totient.mono _ _)
      | (with_reducible exact residue_Divisors.mono _ _)
      | (with_reducible exact residue_Factor.mono _ _)
      | (with_reducible exact residue_IsPrime.mono _ _)
      | (with_reducible exact residue_Moebius.mono _ _)
      | (with_reducible exact residue_Totient.mono _ _)
      | (with_reducible exact LeO.refl _)
      | (with_reducible exact LeO.none _)
      | (with_reducible refine LeO.ite ?_ ?_)
      | (with_reducible refine LeO.bind ?_ (fun _ => ?_))
      | exact ih0 _ _ _ _ _ _ _ _ _
      | exact galoislaw04_awake.mono _
      | exact galoislaw04_same.mono _ _ _
      | exact galoislaw04_samePowers.mono _ _ _
      | exact galoisref04_Divisors.mono _ _
      | exact galoisref04_Factor.mono _ _
      | exact galoisref04_IsPrime.mono _ _
      | exact galoisref04_Moebius.mono _ _
      | exact galoisref04_Totient.mono _ _
      | exact residue_Divisors.mono _ _
      | exact residue_Factor.mono _ _
      | exact residue_IsPrime.mono _ _
      | exact residue_Moebius.mono _ _
      | exact residue_Totient.mono _ _
      | exact LeO.none _
      | refine LeO.ite ?_ ?_
      | refine LeO.bind ?_ (fun _ => ?_)
set_option maxHeartbeats 8000000 in
set_option maxRecDepth 100000 in
theorem galoislaw04_ResidueFactors.calls (k : Nat) (a0 : Int) (r : Bool) (w : World) (h : galoislaw04_ResidueFactors.f k a0 = some r) :
    Calls Try.prog 12 #[.int .i64 a0] w fun e w' => e = .returned (.bool r) ∧ Below w.heap.size w w' := by
  have HB := Aside0.mk (Below.refl w.heap.size w)
  have H : ((residue_IsPrime.f k a0).bind fun bt101 => ((residue_Factor.f k a0).bind fun bt103 => ((residue_Divisors.f k a0).bind fun bt107 => ((residue_Totient.f k a0).bind fun bt111 => ((residue_Moebius.f k a0).bind fun bt113 => ((galoisref04_IsModulus.f a0).bind fun t115 => (if t115 = true then (if bt101.2 = 0 then (if bt103.2 = 0 then (galoislaw04_ResidueFactors.j0 k a0 bt101.1 bt103.1 bt107.1 bt111.1 bt111.2 bt113.1 bt113.2 (bt107.2 != 0)) else (galoislaw04_ResidueFactors.j0 k a0 bt101.1 bt103.1 bt107.1 bt111.1 bt111.2 bt113.1 bt113.2 true)) else (galoislaw04_ResidueFactors.j0 k a0 bt101.1 bt103.1 bt107.1 bt111.1 bt111.2 bt113.1 bt113.2 true)) else ((galoislaw04_awake.f k).bind fun t116 => (if t116 = true then (if bt101.1 = true then (none) else (if bt101.2 = 3 then (if (bt103.1.length : Int) = 0 then (if bt103.2 = 3 then (if (bt107.1.length : Int) = 0 then (if bt107.2 = 3 then ((galoislaw04_is.f bt111.1 bt111.2 0 3).bind fun t117 => (if t117 = true then ((galoislaw04_is.f bt113.1 bt113.2 0 3).bind fun t118 => (some t118)) else (none))) else (none)) else (none)) else (none)) else (none)) else (none))) else (none)))))))))) = some r := h
  clear h
  replace H := Option.bind_eq_some_iff.mp H
  obtain ⟨⟨t101, t102⟩, A20, H⟩ := H
  replace H : ((residue_Factor.f k a0).bind fun bt103 => ((residue_Divisors.f k a0).bind fun bt107 => ((residue_Totient.f k a0).bind fun bt111 => ((residue_Moebius.f k a0).bind fun bt113 => ((galoisref04_IsModulus.f a0).bind fun t115 => (if t115 = true then (if t102 = 0 then (if bt103.2 = 0 then (galoislaw04_ResidueFactors.j0 k a0 t101 bt103.1 bt107.1 bt111.1 bt111.2 bt113.1 bt113.2 (bt107.2 != 0)) else (galoislaw04_ResidueFactors.j0 k a0 t101 bt103.1 bt107.1 bt111.1 bt111.2 bt113.1 bt113.2 true)) else (galoislaw04_ResidueFactors.j0 k a0 t101 bt103.1 bt107.1 bt111.1 bt111.2 bt113.1 bt113.2 true)) else ((galoislaw04_awake.f k).bind fun t116 => (if t116 = true then (if t101 = true then (none) else (if t102 = 3 then (if (bt103.1.length : Int) = 0 then (if bt103.2 = 3 then (if (bt107.1.length : Int) = 0 then (if bt107.2 = 3 then ((galoislaw04_is.f bt111.1 bt111.2 0 3).bind fun t117 => (if t117 = true then ((galoislaw04_is.f bt113.1 bt113.2 0 3).bind fun t118 => (some t118)) else (none))) else (none)) else (none)) else (none)) else (none)) else (none))) else (none))))))))) = some r := H
  have A2 := Aside0.mk A20
  clear A20
  replace H := Option.bind_eq_some_iff.mp H
  obtain ⟨⟨t103, t104⟩, A30, H⟩ := H
  replace H : ((residue_Divisors.f k a0).bind fun bt107 => ((residue_Totient.f k a0).bind fun bt111 => ((residue_Moebius.f k a0).bind fun bt113 => ((galoisref04_IsModulus.f a0).bind fun t115 => (if t115 = true then (if t102 = 0 then (if t104 = 0 then (galoislaw04_ResidueFactors.j0 k a0 t101 t103 bt107.1 bt111.1 bt111.2 bt113.1 bt113.2 (bt107.2 != 0)) else (galoislaw04_ResidueFactors.j0 k a0 t101 t103 bt107.1 bt111.1 bt111.2 bt113.1 bt113.2 true)) else (galoislaw04_ResidueFactors.j0 k a0 t101 t103 bt107.1 bt111.1 bt111.2 bt113.1 bt113.2 true)) else ((galoislaw04_awake.f k).bind fun t116 => (if t116 = true then (if t101 = true then (none) else (if t102 = 3 then (if (t103.length : Int) = 0 then (if t104 = 3 then (if (bt107.1.length : Int) = 0 then (if bt107.2 = 3 then ((galoislaw04_is.f bt111.1 bt111.2 0 3).bind fun t117 => (if t117 = true then ((galoislaw04_is.f bt113.1 bt113.2 0 3).bind fun t118 => (some t118)) else (none))) else (none)) else (none)) else (none)) else (none)) else (none))) else (none)))))))) = some r := H
  have A3 := Aside0.mk A30
  clear A30
  replace H := Option.bind_eq_some_iff.mp H
  obtain ⟨⟨t107, t108⟩, A40, H⟩ := H
  replace H : ((residue_Totient.f k a0).bind fun bt111 => ((residue_Moebius.f k a0).bind fun bt113 => ((galoisref04_IsModulus.f a0).bind fun t115 => (if t115 = true then (if t102 = 0 then (if t104 = 0 then (galoislaw04_ResidueFactors.j0 k a0 t101 t103 t107 bt111.1 bt111.2 bt113.1 bt113.2 (t108 != 0)) else (galoislaw04_ResidueFactors.j0 k a0 t101 t103 t107 bt111.1 bt111.2 bt113.1 bt113.2 true)) else (galoislaw04_ResidueFactors.j0 k a0 t101 t103 t107 bt111.1 bt111.2 bt113.1 bt113.2 true)) else ((galoislaw04_awake.f k).bind fun t116 => (if t116 = true then (if t101 = true then (none) else (if t102 = 3 then (if (t103.length : Int) = 0 then (if t104 = 3 then (if (t107.length : Int) = 0 then (if t108 = 3 then ((galoislaw04_is.f bt111.1 bt111.2 0 3).bind fun t117 => (if t117 = true then ((galoislaw04_is.f bt113.1 bt113.2 0 3).bind fun t118 => (some t118)) else (none))) else (none)) else (none)) else (none)) else (none)) else (none))) else (none))))))) = some r := H
  have A4 := Aside0.mk A40
  clear A40
  replace H := Option.bind_eq_some_iff.mp H
  obtain ⟨⟨t111, t112⟩, A50, H⟩ := H
  replace H : ((residue_Moebius.f k a0).bind fun bt113 => ((galoisref04_IsModulus.f a0).bind fun t115 => (if t115 = true then (if t102 = 0 then (if t104 = 0 then (galoislaw04_ResidueFactors.j0 k a0 t101 t103 t107 t111 t112 bt113.1 bt113.2 (t108 != 0)) else (galoislaw04_ResidueFactors.j0 k a0 t101 t103 t107 t111 t112 bt113.1 bt113.2 true)) else (galoislaw04_ResidueFactors.j0 k a0 t101 t103 t107 t111 t112 bt113.1 bt113.2 true)) else ((galoislaw04_awake.f k).bind fun t116 => (if t116 = true then (if t101 = true then (none) else (if t102 = 3 then (if (t103.length : Int) = 0 then (if t104 = 3 then (if (t107.length : Int) = 0 then (if t108 = 3 then ((galoislaw04_is.f t111 t112 0 3).bind fun t117 => (if t117 = true then ((galoislaw04_is.f bt113.1 bt113.2 0 3).bind fun t118 => (some t118)) else (none))) else (none)) else (none)) else (none)) else (none)) else (none))) else (none)))))) = some r := H
  have A5 := Aside0.mk A50
  clear A50
  replace H := Option.bind_eq_some_iff.mp H
  obtain ⟨⟨t113, t114⟩, A60, H⟩ := H
  replace H : ((galoisref04_IsModulus.f a0).bind fun t115 => (if t115 = true then (if t102 = 0 then (if t104 = 0 then (galoislaw04_ResidueFactors.j0 k a0 t101 t103 t107 t111 t112 t113 t114 (t108 != 0)) else (galoislaw04_ResidueFactors.j0 k a0 t101 t103 t107 t111 t112 t113 t114 true)) else (galoislaw04_ResidueFactors.j0 k a0 t101 t103 t107 t111 t112 t113 t114 true)) else ((galoislaw04_awake.f k).bind fun t116 => (if t116 = true then (if t101 = true then (none) else (if t102 = 3 then (if (t103.length : Int) = 0 then (if t104 = 3 then (if (t107.length : Int) = 0 then (if t108 = 3 then ((galoislaw04_is.f t111 t112 0 3).bind fun t117 => (if t117 = true then ((galoislaw04_is.f t113 t114 0 3).bind fun t118 => (some t118)) else (none))) else (none)) else (none)) else (none)) else (none)) else (none))) else (none))))) = some r := H
  have A6 := Aside0.mk A60
  clear A60
  replace H := Option.bind_eq_some_iff.mp H
  obtain ⟨t115, A70, H⟩ := H
  replace H : (if t115 = true then (if t102 = 0 then (if t104 = 0 then (galoislaw04_ResidueFactors.j0 k a0 t101 t103 t107 t111 t112 t113 t114 (t108 != 0)) else (galoislaw04_ResidueFactors.j0 k a0 t101 t103 t107 t111 t112 t113 t114 true)) else (galoislaw04_ResidueFactors.j0 k a0 t101 t103 t107 t111 t112 t113 t114 true)) else ((galoislaw04_awake.f k).bind fun t116 => (if t116 = true then (if t101 = true then (none) else (if t102 = 3 then (if (t103.length : Int) = 0 then (if t104 = 3 then (if (t107.length : Int) = 0 then (if t108 = 3 then ((galoislaw04_is.f t111 t112 0 3).bind fun t117 => (if t117 = true then ((galoislaw04_is.f t113 t114 0 3).bind fun t118 => (some t118)) else (none))) else (none)) else (none)) else (none)) else (none)) else (none))) else (none)))) = some r := H
  have A7 := Aside0.mk A70
  clear A70
  by_cases c8 : t115 = true
  · subst c8
    have H1 : (if t102 = 0 then (if t104 = 0 then (galoislaw04_ResidueFactors.j0 k a0 t101 t103 t107 t111 t112 t113 t114 (t108 != 0)) else (galoislaw04_ResidueFactors.j0 k a0 t101 t103 t107 t111 t112 t113 t114 true)) else (galoislaw04_ResidueFactors.j0 k a0 t101 t103 t107 t111 t112 t113 t114 true)) = some r := by rw [if_pos rfl] at H; exact H
    clear H
    have H := H1
    clear H1
    have HC9 := Aside0.mk H
    clear H
    go_enter Try.func12, Try.ntmps12
    go_upto_region 8 with (first | ((with_reducible refine gate_callee (f := 39) rfl ?_); refine goesL_ (some 15) rfl rfl Try.func39 (by kernel_rfl) rfl #[.int .i64 a0] rfl (by (try simp only [List.map_toArray, List.map_cons, List.map_nil]); first | done | rfl | (simp only [List.length_drop, List.length_take]; rfl)) ?_; (with_reducible refine (residue_IsPrime.calls k a0 t101 t102 _ A2.out).mono ?_); rintro e w10 ⟨rfl, hb⟩; refine ⟨_, rfl, ?_⟩; have n0_ := Aside0.mk (below_step (by repeat (first | (with_reducible first | exact HB.out | apply below_alloc | apply pw_below_drewN | apply below_drew1) | exact HB.out)) hb); clear HB; have HB := n0_; clear n0_; (try clear hb); (try clear hb2); (try clear hk); (try clear hi)) | ((with_reducible refine gate_callee (f := 38) rfl ?_); refine goesL_ (some 20) rfl rfl Try.func38 (by kernel_rfl) rfl #[.int .i64 a0] rfl (by (try simp only [List.map_toArray, List.map_cons, List.map_nil]); first | done | rfl | (simp only [List.length_drop, List.length_take]; rfl)) ?_; (with_reducible refine (residue_Factor.calls k a0 t103 t104 _ A3.out).mono ?_); rintro e w11 ⟨v105, rfl, ho0, hb⟩; refine ⟨_, rfl, ?_⟩; have n0_ := Aside0.mk (Kd.R_lower ho0 (below_size (by repeat (first | (with_reducible first | exact HB.out | apply below_alloc | apply pw_below_drewN | apply below_drew1) | exact HB.out)))); have n1_ := Aside0.mk (below_step (by repeat (first | (with_reducible first | exact HB.out | apply below_alloc | apply pw_below_drewN | apply below_drew1) | exact HB.out)) hb); clear HB; have HO106 := n0_; have HB := n1_; clear n0_ n1_; (try clear hb); (try clear hb2); (try clear hk); (try clear hi); (try clear ho0)) | ((with_reducible refine gate_callee (f := 46) rfl ?_); refine goesL_ (some 25) rfl rfl Try.func46 (by kernel_rfl) rfl #[.int .i64 a0] rfl (by (try simp only [List.map_toArray, List.map_cons, List.map_nil]); first | done | rfl | (simp only [List.length_drop, List.length_take]; rfl)) ?_; (with_reducible refine (residue_Divisors.calls k a0 t107 t108 _ A4.out).mono ?_); rintro e w12 ⟨v109, rfl, ho0, hb⟩; refine ⟨_, rfl, ?_⟩; have n0_ := Aside0.mk (Kd.R_below (by (with_reducible repeat (first | apply Kd.R_alloc | apply Kd.R_drewN | apply Kd.R_drew)); exact HO106.out) hb); have n1_ := Aside0.mk (Kd.R_lower ho0 (below_size (by repeat (first | (with_reducible first | exact HB.out | apply below_alloc | apply pw_below_drewN | apply below_drew1) | exact HB.out)))); have n2_ := Aside0.mk (below_step (by repeat (first | (with_reducible first | exact HB.out | apply below_alloc | apply pw_below_drewN | apply below_drew1) | exact HB.out)) hb); clear HO106; clear HB; have HO106 := n0_; have HO110 := n1_; have HB := n2_; clear n0_ n1_ n2_; (try clear hb); (try clear hb2); (try clear hk); (try clear hi); (try clear ho0)) | ((with_reducible refine gate_callee (f := 37) rfl ?_); refine goesL_ (some 30) rfl rfl Try.func37 (by kernel_rfl) rfl #[.int .i64 a0] rfl (by (try simp only [List.map_toArray, List.map_cons, List.map_nil]); first | done | rfl | (simp only [List.length_drop, List.length_take]; rfl)) ?_; (with_reducible refine (residue_Totient.calls k a0 t111 t112 _ A5.out).mono ?_); rintro e w13 ⟨rfl, hb⟩; refine ⟨_, rfl, ?_⟩; have n0_ := Aside0.mk (Kd.R_below (by (with_reducible repeat (first | apply Kd.R_alloc | apply Kd.R_drewN | apply Kd.R_drew)); exact HO106.out) hb); have n1_ := Aside0.mk (Kd.R_below (by (with_reducible repeat (first | apply Kd.R_alloc | apply Kd.R_drewN | apply Kd.R_drew)); exact HO110.out) hb); have n2_ := Aside0.mk (below_step (by repeat (first | (with_reducible first | exact HB.out | apply below_alloc | apply pw_below_drewN | apply below_drew1) | exact HB.out)) hb); clear HO106; clear HO110; clear HB; have HO106 := n0_; have HO110 := n1_; have HB := n2_; clear n0_ n1_ n2_; (try clear hb); (try clear hb2); (try clear hk); (try clear hi)) | ((with_reducible refine gate_callee (f := 47) rfl ?_); refine goesL_ (some 35) rfl rfl Try.func47 (by kernel_rfl) rfl #[.int .i64 a0] rfl (by (try simp only [List.map_toArray, List.map_cons, List.map_nil]); first | done | rfl | (simp only [List.length_drop, List.length_take]; rfl)) ?_; (with_reducible refine (residue_Moebius.calls k a0 t113 t114 _ A6.out).mono ?_); rintro e w14 ⟨rfl, hb⟩; refine ⟨_, rfl, ?_⟩; have n0_ := Aside0.mk (Kd.R_below (by (with_reducible repeat (first | apply Kd.R_alloc | apply Kd.R_drewN | apply Kd.R_drew)); exact HO106.out) hb); have n1_ := Aside0.mk (Kd.R_below (by (with_reducible repeat (first | apply Kd.R_alloc | apply Kd.R_drewN | apply Kd.R_drew)); exact HO110.out) hb); have n2_ := Aside0.mk (below_step (by repeat (first | (with_reducible first | exact HB.out | apply below_alloc | apply pw_below_drewN | apply below_drew1) | exact HB.out)) hb); clear HO106; clear HO110; clear HB; have HO106 := n0_; have HO110 := n1_; have HB := n2_; clear n0_ n1_ n2_; (try clear hb); (try clear hb2); (try clear hk); (try clear hi)) | ((with_reducible refine gate_callee (f := 15) rfl ?_); refine goesL_ (some 39) rfl rfl Try.func15 (by kernel_rfl) rfl #[.int .i64 a0] rfl (by (try simp only [List.map_toArray, List.map_cons, List.map_nil]); first | done | rfl | (simp only [List.length_drop, List.length_take]; rfl)) ?_; (with_reducible refine (galoisref04_IsModulus.calls a0 true _ A7.out).mono ?_); rintro e w' ⟨rfl, ⟨nd, rfl⟩⟩; refine ⟨_, rfl, ?_⟩))
    (try simp only [Act.put, List.setIfInBounds_toArray, List.set_cons_zero, List.set_cons_succ])
    go_cut [87] (fun v87 wc => ∃ (kq : Nat) (x87_8 : Bool), v87 = .bool x87_8 ∧ Aside0 (galoislaw04_ResidueFactors.j0 kq a0 t101 t103 t107 t111 t112 t113 t114 x87_8 = some r) ∧ Aside0 (kq ≤ k) ∧ Aside0 (Kd.R k53 53 wc w.heap.size (fun _ => True) v105 t103) ∧ Aside0 (Kd.R (Kd.int .i64) 3 wc w.heap.size (fun _ => True) v109 t107) ∧ Aside0 (Below w.heap.size w wc))
    case first =>
      have H := HC9.out
      clear HC9
      by_cases c15 : t102 = 0
      · rw [if_pos c15] at H
        have c15b0 : (t102 == 0) = true := beq_iff_eq.mpr c15
        have c15b1 : (t102 != 0) = false := bne_eq_false_iff_eq.mpr c15
        clear c15
        (first | rw [c15b0] | (simp only [i64_w, i32_w]; rw [c15b0]) | skip)
        by_cases c16 : t104 = 0
        · rw [if_pos c16] at H
          have c16b0 : (t104 == 0) = true := beq_iff_eq.mpr c16
          have c16b1 : (t104 != 0) = false := bne_eq_false_iff_eq.mpr c16
          clear c16
          have H' := Aside0.mk H
          clear H
          go_wp2
          go_meet
          case rel => exact ⟨_, ((t108 != 0)), (by first | rfl | (simp; done) | (simp [*]; done)), H', ⟨by first | omega | exact Nat.le_refl _⟩, ⟨by (with_reducible repeat (first | apply Kd.R_alloc | apply Kd.R_drewN | apply Kd.R_drew)); exact HO106.out⟩, ⟨by (with_reducible repeat (first | apply Kd.R_alloc | apply Kd.R_drewN | apply Kd.R_drew)); exact HO110.out⟩, ⟨by repeat (first | (with_reducible first | exact HB.out | apply below_alloc | apply pw_below_drewN | apply below_drew1) | exact HB.out)⟩⟩
        · rw [if_neg c16] at H
          have c16b0 : (t104 == 0) = false := beq_eq_false_iff_ne.mpr c16
          have c16b1 : (t104 != 0) = true := bne_iff_ne.mpr c16
          have H' := Aside0.mk H
          clear H
          go_wp2
          go_meet
          case rel => exact ⟨_, (true), (by first | rfl | (simp; done) | (simp [*]; done)), H', ⟨by first | omega | exact Nat.le_refl _⟩, ⟨by (with_reducible repeat (first | apply Kd.R_alloc | apply Kd.R_drewN | apply Kd.R_drew)); exact HO106.out⟩, ⟨by (with_reducible repeat (first | apply Kd.R_alloc | apply Kd.R_drewN | apply Kd.R_drew)); exact HO110.out⟩, ⟨by repeat (first | (with_reducible first | exact HB.out | apply below_alloc | apply pw_below_drewN | apply below_drew1) | exact HB.out)⟩⟩
      · rw [if_neg c15] at H
        have c15b0 : (t102 == 0) = false := beq_eq_false_iff_ne.mpr c15
        have c15b1 : (t102 != 0) = true := bne_iff_ne.mpr c15
        (first | rw [c15b0] | (simp only [i64_w, i32_w]; rw [c15b0]) | skip)
        have H' := Aside0.mk H
        clear H
        go_wp2
        go_meet
        case rel => exact ⟨_, (true), (by first | rfl | (simp; done) | (simp [*]; done)), H', ⟨by first | omega | exact Nat.le_refl _⟩, ⟨by (with_reducible repeat (first | apply Kd.R_alloc | apply Kd.R_drewN | apply Kd.R_drew)); exact HO106.out⟩, ⟨by (with_reducible repeat (first | apply Kd.R_alloc | apply Kd.R_drewN | apply Kd.R_drew)); exact HO110.out⟩, ⟨by repeat (first | (with_reducible first | exact HB.out | apply below_alloc | apply pw_below_drewN | apply below_drew1) | exact HB.out)⟩⟩
    case rest =>
      clear HC9
      try clear c1
      try clear p2
      try clear c3
      try clear c4
      try clear c8
      try clear c12
      try clear c15
      try clear c15b0
      try clear c15b1
      try clear c16
      try clear c16b0
      try clear c16b1
      obtain ⟨kq, x87_8, rfl, HA, HJ8, HO_5, HO_7, HB⟩ := hcut
      cases kq with
      | zero => exact absurd HA.out (by simp [galoislaw04_ResidueFactors.j0])
      | succ kj8 =>
        have H := HA.out
        clear HA
        simp only [galoislaw04_ResidueFactors.j0] at H
        by_cases c17 : x87_8 = true
        · subst c17
          have H1 : (none) = some r := by rw [if_pos rfl] at H; exact H
          clear H
          have H := H1
          clear H1
          exact absurd H (by simp)
        · replace c17 := Bool.eq_false_iff.mpr c17
          subst c17
          have H1 : ((galoislaw04_awake.f kj8).bind fun t119 => (if t119 = true then ((galoisref04_IsPrime.f kj8 a0).bind fun t120 => (if (t101 == t120) = true then ((galoisref04_Factor.f kj8 a0).bind fun t121 => ((galoislaw04_samePowers.f kj8 t103 t121).bind fun t124 => (if t124 = true then ((galoisref04_Divisors.f kj8 a0).bind fun t125 => ((galoislaw04_same.f kj8 t107 t125).bind fun t128 => (if t128 = true then ((galoisref04_Totient.f kj8 a0).bind fun t129 => ((galoislaw04_is.f t111 t112 t129 0).bind fun t130 => (if t130 = true then ((galoisref04_Moebius.f kj8 a0).bind fun t131 => ((galoislaw04_is.f t113 t114 t131 0).bind fun t132 => (some t132))) else (none)))) else (none)))) else (none)))) else (none))) else (none))) = some r := by rw [if_neg (show ¬ (false = true) by decide)] at H; exact H
          clear H
          have H := H1
          clear H1
          replace H := Option.bind_eq_some_iff.mp H
          obtain ⟨t119, A180, H⟩ := H
          replace H : (if t119 = true then ((galoisref04_IsPrime.f kj8 a0).bind fun t120 => (if (t101 == t120) = true then ((galoisref04_Factor.f kj8 a0).bind fun t121 => ((galoislaw04_samePowers.f kj8 t103 t121).bind fun t124 => (if t124 = true then ((galoisref04_Divisors.f kj8 a0).bind fun t125 => ((galoislaw04_same.f kj8 t107 t125).bind fun t128 => (if t128 = true then ((galoisref04_Totient.f kj8 a0).bind fun t129 => ((galoislaw04_is.f t111 t112 t129 0).bind fun t130 => (if t130 = true then ((galoisref04_Moebius.f kj8 a0).bind fun t131 => ((galoislaw04_is.f t113 t114 t131 0).bind fun t132 => (some t132))) else (none)))) else (none)))) else (none)))) else (none))) else (none)) = some r := H
          have A18 := Aside0.mk A180
          clear A180
          by_cases c19 : t119 = true
          · subst c19
            have H1 : ((galoisref04_IsPrime.f kj8 a0).bind fun t120 => (if (t101 == t120) = true then ((galoisref04_Factor.f kj8 a0).bind fun t121 => ((galoislaw04_samePowers.f kj8 t103 t121).bind fun t124 => (if t124 = true then ((galoisref04_Divisors.f kj8 a0).bind fun t125 => ((galoislaw04_same.f kj8 t107 t125).bind fun t128 => (if t128 = true then ((galoisref04_Totient.f kj8 a0).bind fun t129 => ((galoislaw04_is.f t111 t112 t129 0).bind fun t130 => (if t130 = true then ((galoisref04_Moebius.f kj8 a0).bind fun t131 => ((galoislaw04_is.f t113 t114 t131 0).bind fun t132 => (some t132))) else (none)))) else (none)))) else (none)))) else (none))) = some r := by rw [if_pos rfl] at H; exact H
            clear H
            have H := H1
            clear H1
            replace H := Option.bind_eq_some_iff.mp H
            obtain ⟨t120, A200, H⟩ := H
            replace H : (if (t101 == t120) = true then ((galoisref04_Factor.f kj8 a0).bind fun t121 => ((galoislaw04_samePowers.f kj8 t103 t121).bind fun t124 => (if t124 = true then ((galoisref04_Divisors.f kj8 a0).bind fun t125 => ((galoislaw04_same.f kj8 t107 t125).bind fun t128 => (if t128 = true then ((galoisref04_Totient.f kj8 a0).bind fun t129 => ((galoislaw04_is.f t111 t112 t129 0).bind fun t130 => (if t130 = true then ((galoisref04_Moebius.f kj8 a0).bind fun t131 => ((galoislaw04_is.f t113 t114 t131 0).bind fun t132 => (some t132))) else (none)))) else (none)))) else (none)))) else (none)) = some r := H
            have A20 := Aside0.mk A200
            clear A200
            by_cases c21 : (t101 == t120) = true
            · rw [if_pos c21] at H
              have c21b0 : (t101 == t120) = true := c21
              (try (have c21b1 : decide (t101 = t120) = true := by simpa using c21))
              (try (have c21b2 : (t101 == t120) = true := by simpa using c21))
              clear c21
              replace H := Option.bind_eq_some_iff.mp H
              obtain ⟨t121, A220, H⟩ := H
              replace H : ((galoislaw04_samePowers.f kj8 t103 t121).bind fun t124 => (if t124 = true then ((galoisref04_Divisors.f kj8 a0).bind fun t125 => ((galoislaw04_same.f kj8 t107 t125).bind fun t128 => (if t128 = true then ((galoisref04_Totient.f kj8 a0).bind fun t129 => ((galoislaw04_is.f t111 t112 t129 0).bind fun t130 => (if t130 = true then ((galoisref04_Moebius.f kj8 a0).bind fun t131 => ((galoislaw04_is.f t113 t114 t131 0).bind fun t132 => (some t132))) else (none)))) else (none)))) else (none))) = some r := H
              have A22 := Aside0.mk A220
              clear A220
              replace H := Option.bind_eq_some_iff.mp H
              obtain ⟨t124, A230, H⟩ := H
              replace H : (if t124 = true then ((galoisref04_Divisors.f kj8 a0).bind fun t125 => ((galoislaw04_same.f kj8 t107 t125).bind fun t128 => (if t128 = true then ((galoisref04_Totient.f kj8 a0).bind fun t129 => ((galoislaw04_is.f t111 t112 t129 0).bind fun t130 => (if t130 = true then ((galoisref04_Moebius.f kj8 a0).bind fun t131 => ((galoislaw04_is.f t113 t114 t131 0).bind fun t132 => (some t132))) else (none)))) else (none)))) else (none)) = some r := H
              have A23 := Aside0.mk A230
              clear A230
              by_cases c24 : t124 = true
              · subst c24
                have H1 : ((galoisref04_Divisors.f kj8 a0).bind fun t125 => ((galoislaw04_same.f kj8 t107 t125).bind fun t128 => (if t128 = true then ((galoisref04_Totient.f kj8 a0).bind fun t129 => ((galoislaw04_is.f t111 t112 t129 0).bind fun t130 => (if t130 = true then ((galoisref04_Moebius.f kj8 a0).bind fun t131 => ((galoislaw04_is.f t113 t114 t131 0).bind fun t132 => (some t132))) else (none)))) else (none)))) = some r := by rw [if_pos rfl] at H; exact H
                clear H
                have H := H1
                clear H1
                replace H := Option.bind_eq_some_iff.mp H
                obtain ⟨t125, A250, H⟩ := H
                replace H : ((galoislaw04_same.f kj8 t107 t125).bind fun t128 => (if t128 = true then ((galoisref04_Totient.f kj8 a0).bind fun t129 => ((galoislaw04_is.f t111 t112 t129 0).bind fun t130 => (if t130 = true then ((galoisref04_Moebius.f kj8 a0).bind fun t131 => ((galoislaw04_is.f t113 t114 t131 0).bind fun t132 => (some t132))) else (none)))) else (none))) = some r := H
                have A25 := Aside0.mk A250
                clear A250
                replace H := Option.bind_eq_some_iff.mp H
                obtain ⟨t128, A260, H⟩ := H
                replace H : (if t128 = true then ((galoisref04_Totient.f kj8 a0).bind fun t129 => ((galoislaw04_is.f t111 t112 t129 0).bind fun t130 => (if t130 = true then ((galoisref04_Moebius.f kj8 a0).bind fun t131 => ((galoislaw04_is.f t113 t114 t131 0).bind fun t132 => (some t132))) else (none)))) else (none)) = some r := H
                have A26 := Aside0.mk A260
                clear A260
                by_cases c27 : t128 = true
                · subst c27
                  have H1 : ((galoisref04_Totient.f kj8 a0).bind fun t129 => ((galoislaw04_is.f t111 t112 t129 0).bind fun t130 => (if t130 = true then ((galoisref04_Moebius.f kj8 a0).bind fun t131 => ((galoislaw04_is.f t113 t114 t131 0).bind fun t132 => (some t132))) else (none)))) = some r := by rw [if_pos rfl] at H; exact H
                  clear H
                  have H := H1
                  clear H1
                  replace H := Option.bind_eq_some_iff.mp H
                  obtain ⟨t129, A280, H⟩ := H
                  replace H : ((galoislaw04_is.f t111 t112 t129 0).bind fun t130 => (if t130 = true then ((galoisref04_Moebius.f kj8 a0).bind fun t131 => ((galoislaw04_is.f t113 t114 t131 0).bind fun t132 => (some t132))) else (none))) = some r := H
                  have A28 := Aside0.mk A280
                  clear A280
                  replace H := Option.bind_eq_some_iff.mp H
                  obtain ⟨t130, A290, H⟩ := H
                  replace H : (if t130 = true then ((galoisref04_Moebius.f kj8 a0).bind fun t131 => ((galoislaw04_is.f t113 t114 t131 0).bind fun t132 => (some t132))) else (none)) = some r := H
                  have A29 := Aside0.mk A290
                  clear A290
                  by_cases c30 : t130 = true
                  · subst c30
                    have H1 : ((galoisref04_Moebius.f kj8 a0).bind fun t131 => ((galoislaw04_is.f t113 t114 t131 0).bind fun t132 => (some t132))) = some r := by rw [if_pos rfl] at H; exact H
                    clear H
                    have H := H1
                    clear H1
                    replace H := Option.bind_eq_some_iff.mp H
                    obtain ⟨t131, A310, H⟩ := H
                    replace H : ((galoislaw04_is.f t113 t114 t131 0).bind fun t132 => (some t132)) = some r := H
                    have A31 := Aside0.mk A310
                    clear A310
                    replace H := Option.bind_eq_some_iff.mp H
                    obtain ⟨t132, A320, H⟩ := H
                    replace H : (some t132) = some r := H
                    have A32 := Aside0.mk A320
                    clear A320
                    obtain rfl := Option.some.inj H
                    go_wp2_with (first | ((with_reducible refine gate_callee (f := 14) rfl ?_); refine goesL_ (some 88) rfl rfl Try.func14 (by kernel_rfl) rfl #[] rfl (by (try simp only [List.map_toArray, List.map_cons, List.map_nil]); first | done | rfl | (simp only [List.length_drop, List.length_take]; rfl)) ?_; (with_reducible refine (galoislaw04_awake.calls kj8  true _ A18.out).mono ?_); rintro e w33 ⟨rfl, hb⟩; refine ⟨_, rfl, ?_⟩; have n0_ := Aside0.mk (Kd.R_below (by (with_reducible repeat (first | apply Kd.R_alloc | apply Kd.R_drewN | apply Kd.R_drew)); exact HO_5.out) hb); have n1_ := Aside0.mk (Kd.R_below (by (with_reducible repeat (first | apply Kd.R_alloc | apply Kd.R_drewN | apply Kd.R_drew)); exact HO_7.out) hb); have n2_ := Aside0.mk (below_step (by repeat (first | (with_reducible first | exact HB.out | apply below_alloc | apply pw_below_drewN | apply below_drew1) | exact HB.out)) hb); clear HO_5; clear HO_7; clear HB; have HO_5 := n0_; have HO_7 := n1_; have HB := n2_; clear n0_ n1_ n2_; (try clear hb); (try clear hb2); (try clear hk); (try clear hi)) | (go_at_call 29; (with_reducible refine (galoisref04_IsPrime.calls kj8 a0 t120 _ A20.out).mono ?_); rintro e w' ⟨rfl, ⟨nd, rfl⟩⟩) | (go_at_call 49; (with_reducible refine (galoisref04_Factor.calls kj8 a0 t121 _ A22.out).mono ?_); rintro e w34 ⟨v122, rfl, ho0, hb⟩; have n0_ := Aside0.mk (Kd.R_elder' (by (with_reducible repeat (first | apply Kd.R_alloc | apply Kd.R_drewN | apply Kd.R_drew)); exact HO_5.out) (Kd.R_base ho0) hb); have n1_ := Aside0.mk (Kd.R_below (by (with_reducible repeat (first | apply Kd.R_alloc | apply Kd.R_drewN | apply Kd.R_drew)); exact HO_7.out) hb); have n2_ := Aside0.mk (Kd.R_lower (Kd.R_new' ho0 (Kd.R_lt (by (with_reducible repeat (first | apply Kd.R_alloc | apply Kd.R_drewN | apply Kd.R_drew)); exact HO_5.out))) (below_size (by repeat (first | (with_reducible first | exact HB.out | apply below_alloc | apply pw_below_drewN | apply below_drew1) | exact HB.out)))); have n3_ := Aside0.mk (below_step (by repeat (first | (with_reducible first | exact HB.out | apply below_alloc | apply pw_below_drewN | apply below_drew1) | exact HB.out)) hb); clear HO_5; clear HO_7; clear HB; have HO_5 := n0_; have HO_7 := n1_; have HO123 := n2_; have HB := n3_; clear n0_ n1_ n2_ n3_; (try clear hb); (try clear hb2); (try clear hk); (try clear hi); (try clear ho0); obtain ⟨Ao35, co35, eo35⟩ := Kd.R_slice HO_5.out; subst eo35; obtain ⟨Ao36, co36, eo36⟩ := Kd.R_slice HO123.out; subst eo36) | (go_at_call 48; (with_reducible refine (galoislaw04_samePowers.calls kj8 _ _ t103 _ _ t121 true _ ?side1 ?side2 ?side3 ?side4 A23.out).mono ?_); (case side1 => repeat (first | exact (Kd.R_reads' HO_5.out).2.2 | (with_reducible refine Kd.C_alloc ?_ _) | (with_reducible refine Kd.C_drewN ?_ _) | (with_reducible refine Kd.C_drew ?_))); (case side2 => exact (Kd.R_reads' HO_5.out).2.1); (case side3 => repeat (first | exact (Kd.R_reads' HO123.out).2.2 | (with_reducible refine Kd.C_alloc ?_ _) | (with_reducible refine Kd.C_drewN ?_ _) | (with_reducible refine Kd.C_drew ?_))); (case side4 => exact (Kd.R_reads' HO123.out).2.1); rintro e w' ⟨rfl, ⟨nd, rfl⟩⟩) | (go_at_call 51; (with_reducible refine (galoisref04_Divisors.calls kj8 a0 t125 _ A25.out).mono ?_); rintro e w37 ⟨v126, rfl, ho0, hb⟩; have n0_ := Aside0.mk (Kd.R_below (by (with_reducible repeat (first | apply Kd.R_alloc | apply Kd.R_drewN | apply Kd.R_drew)); exact HO_5.out) hb); have n1_ := Aside0.mk (Kd.R_elder' (by (with_reducible repeat (first | apply Kd.R_alloc | apply Kd.R_drewN | apply Kd.R_drew)); exact HO_7.out) (Kd.R_base ho0) hb); have n2_ := Aside0.mk (Kd.R_below (by (with_reducible repeat (first | apply Kd.R_alloc | apply Kd.R_drewN | apply Kd.R_drew)); exact HO123.out) hb); have n3_ := Aside0.mk (Kd.R_lower (Kd.R_new' ho0 (Kd.R_lt (by (with_reducible repeat (first | apply Kd.R_alloc | apply Kd.R_drewN | apply Kd.R_drew)); exact HO_7.out))) (below_size (by repeat (first | (with_reducible first | exact HB.out | apply below_alloc | apply pw_below_drewN | apply below_drew1) | exact HB.out)))); have n4_ := Aside0.mk (below_step (by repeat (first | (with_reducible first | exact HB.out | apply below_alloc | apply pw_below_drewN | apply below_drew1) | exact HB.out)) hb); clear HO_5; clear HO_7; clear HO123; clear HB; have HO_5 := n0_; have HO_7 := n1_; have HO123 := n2_; have HO127 := n3_; have HB := n4_; clear n0_ n1_ n2_ n3_ n4_; (try clear hb); (try clear hb2); (try clear hk); (try clear hi); (try clear ho0); obtain ⟨Ao38, co38, eo38⟩ := Kd.R_slice HO_7.out; subst eo38; obtain ⟨Ao39, co39, eo39⟩ := Kd.R_slice HO127.out; subst eo39) | (go_at_call 50; (with_reducible refine (galoislaw04_same.calls kj8 _ _ t107 _ _ t125 true _ ?side1 ?side2 ?side3 ?side4 A26.out).mono ?_); (case side1 => repeat (first | exact (Kd.R_reads' HO_7.out).2.2 | (with_reducible refine Kd.C_alloc ?_ _) | (with_reducible refine Kd.C_drewN ?_ _) | (with_reducible refine Kd.C_drew ?_))); (case side2 => exact (Kd.R_reads' HO_7.out).2.1); (case side3 => repeat (first | exact (Kd.R_reads' HO127.out).2.2 | (with_reducible refine Kd.C_alloc ?_ _) | (with_reducible refine Kd.C_drewN ?_ _) | (with_reducible refine Kd.C_drew ?_))); (case side4 => exact (Kd.R_reads' HO127.out).2.1); rintro e w' ⟨rfl, ⟨nd, rfl⟩⟩) | (go_at_call 52; (with_reducible refine (galoisref04_Totient.calls kj8 a0 t129 _ A28.out).mono ?_); rintro e w40 ⟨rfl, hb⟩; have n0_ := Aside0.mk (Kd.R_below (by (with_reducible repeat (first | apply Kd.R_alloc | apply Kd.R_drewN | apply Kd.R_drew)); exact HO_5.out) hb); have n1_ := Aside0.mk (Kd.R_below (by (with_reducible repeat (first | apply Kd.R_alloc | apply Kd.R_drewN | apply Kd.R_drew)); exact HO_7.out) hb); have n2_ := Aside0.mk (Kd.R_below (by (with_reducible repeat (first | apply Kd.R_alloc | apply Kd.R_drewN | apply Kd.R_drew)); exact HO123.out) hb); have n3_ := Aside0.mk (Kd.R_below (by (with_reducible repeat (first | apply Kd.R_alloc | apply Kd.R_drewN | apply Kd.R_drew)); exact HO127.out) hb); have n4_ := Aside0.mk (below_step (by repeat (first | (with_reducible first | exact HB.out | apply below_alloc | apply pw_below_drewN | apply below_drew1) | exact HB.out)) hb); clear HO_5; clear HO_7; clear HO123; clear HO127; clear HB; have HO_5 := n0_; have HO_7 := n1_; have HO123 := n2_; have HO127 := n3_; have HB := n4_; clear n0_ n1_ n2_ n3_ n4_; (try clear hb); (try clear hb2); (try clear hk); (try clear hi)) | (go_at_call 18; (with_reducible refine (galoislaw04_is.calls t111 t112 t129 0 true _ A29.out).mono ?_); rintro e w' ⟨rfl, ⟨nd, rfl⟩⟩) | (go_at_call 53; (with_reducible refine (galoisref04_Moebius.calls kj8 a0 t131 _ A31.out).mono ?_); rintro e w41 ⟨rfl, hb⟩; have n0_ := Aside0.mk (Kd.R_below (by (with_reducible repeat (first | apply Kd.R_alloc | apply Kd.R_drewN | apply Kd.R_drew)); exact HO_5.out) hb); have n1_ := Aside0.mk (Kd.R_below (by (with_reducible repeat (first | apply Kd.R_alloc | apply Kd.R_drewN | apply Kd.R_drew)); exact HO_7.out) hb); have n2_ := Aside0.mk (Kd.R_below (by (with_reducible repeat (first | apply Kd.R_alloc | apply Kd.R_drewN | apply Kd.R_drew)); exact HO123.out) hb); have n3_ := Aside0.mk (Kd.R_below (by (with_reducible repeat (first | apply Kd.R_alloc | apply Kd.R_drewN | apply Kd.R_drew)); exact HO127.out) hb); have n4_ := Aside0.mk (below_step (by repeat (first | (with_reducible first | exact HB.out | apply below_alloc | apply pw_below_drewN | apply below_drew1) | exact HB.out)) hb); clear HO_5; clear HO_7; clear HO123; clear HO127; clear HB; have HO_5 := n0_; have HO_7 := n1_; have HO123 := n2_; have HO127 := n3_; have HB := n4_; clear n0_ n1_ n2_ n3_ n4_; (try clear hb); (try clear hb2); (try clear hk); (try clear hi)) | (go_at_call 18; (with_reducible refine (galoislaw04_is.calls t113 t114 t131 0 t132 _ A32.out).mono ?_); rintro e w' ⟨rfl, ⟨nd, rfl⟩⟩))
                    go_ret
                    exact ⟨by first | rfl | (simp [errW_none, errW_some] <;> rfl) | (simp [*, errW_none, errW_some] <;> rfl), by repeat (first | (with_reducible first | exact HB.out | apply below_alloc | apply pw_below_drewN | apply below_drew1) | exact HB.out)⟩
                  · replace c30 := Bool.eq_false_iff.mpr c30
                    subst c30
                    have H1 : (none) = some r := by rw [if_neg (show ¬ (false = true) by decide)] at H; exact H
                    clear H
                    have H := H1
                    clear H1
                    exact absurd H (by simp)
                · replace c27 := Bool.eq_false_iff.mpr c27
                  subst c27
                  have H1 : (none) = some r := by rw [if_neg (show ¬ (false = true) by decide)] at H; exact H
                  clear H
                  have H := H1
                  clear H1
                  exact absurd H (by simp)
              · replace c24 := Bool.eq_false_iff.mpr c24
                subst c24
                have H1 : (none) = some r := by rw [if_neg (show ¬ (false = true) by decide)] at H; exact H
                clear H
                have H := H1
                clear H1
                exact absurd H (by simp)
            · rw [if_neg c21] at H
              exact absurd H (by simp)
          · replace c19 := Bool.eq_false_iff.mpr c19
            subst c19
            have H1 : (none) = some r := by rw [if_neg (show ¬ (false = true) by decide)] at H; exact H
            clear H
            have H := H1
            clear H1
            exact absurd H (by simp)
  · replace c8 := Bool.eq_false_iff.mpr c8
    subst c8
    have H1 : ((galoislaw04_awake.f k).bind fun t116 => (if t116 = true then (if t101 = true then (none) else (if t102 = 3 then (if (t103.length : Int) = 0 then (if t104 = 3 then (if (t107.length : Int) = 0 then (if t108 = 3 then ((galoislaw04_is.f t111 t112 0 3).bind fun t117 => (if t117 = true then ((galoislaw04_is.f t113 t114 0 3).bind fun t118 => (some t118)) else (none))) else (none)) else (none)) else (none)) else (none)) else (none))) else (none))) = some r := by rw [if_neg (show ¬ (false = true) by decide)] at H; exact H
    clear H
    have H := H1
    clear H1
    replace H := Option.bind_eq_some_iff.mp H
    obtain ⟨t116, A420, H⟩ := H
    replace H : (if t116 = true then (if t101 = true then (none) else (if t102 = 3 then (if (t103.length : Int) = 0 then (if t104 = 3 then (if (t107.length : Int) = 0 then (if t108 = 3 then ((galoislaw04_is.f t111 t112 0 3).bind fun t117 => (if t117 = true then ((galoislaw04_is.f t113 t114 0 3).bind fun t118 => (some t118)) else (none))) else (none)) else (none)) else (none)) else (none)) else (none))) else (none)) = some r := H
    have A42 := Aside0.mk A420
    clear A420
    by_cases c43 : t116 = true
    · subst c43
      have H1 : (if t101 = true then (none) else (if t102 = 3 then (if (t103.length : Int) = 0 then (if t104 = 3 then (if (t107.length : Int) = 0 then (if t108 = 3 then ((galoislaw04_is.f t111 t112 0 3).bind fun t117 => (if t117 = true then ((galoislaw04_is.f t113 t114 0 3).bind fun t118 => (some t118)) else (none))) else (none)) else (none)) else (none)) else (none)) else (none))) = some r := by rw [if_pos rfl] at H; exact H
      clear H
      have H := H1
      clear H1
      by_cases c44 : t101 = true
      · subst c44
        have H1 : (none) = some r := by rw [if_pos rfl] at H; exact H
        clear H
        have H := H1
        clear H1
        exact absurd H (by simp)
      · replace c44 := Bool.eq_false_iff.mpr c44
        subst c44
        have H1 : (if t102 = 3 then (if (t103.length : Int) = 0 then (if t104 = 3 then (if (t107.length : Int) = 0 then (if t108 = 3 then ((galoislaw04_is.f t111 t112 0 3).bind fun t117 => (if t117 = true then ((galoislaw04_is.f t113 t114 0 3).bind fun t118 => (some t118)) else (none))) else (none)) else (none)) else (none)) else (none)) else (none)) = some r := by rw [if_neg (show ¬ (false = true) by decide)] at H; exact H
        clear H
        have H := H1
        clear H1
        by_cases c45 : t102 = 3
        · rw [if_pos c45] at H
          have c45b0 : (t102 == 3) = true := beq_iff_eq.mpr c45
          have c45b1 : (t102 != 3) = false := bne_eq_false_iff_eq.mpr c45
          clear c45
          by_cases c46 : (t103.length : Int) = 0
          · rw [if_pos c46] at H
            have c46b0 : ((t103.length : Int) == 0) = true := beq_iff_eq.mpr c46
            have c46b1 : ((t103.length : Int) != 0) = false := bne_eq_false_iff_eq.mpr c46
            clear c46
            by_cases c47 : t104 = 3
            · rw [if_pos c47] at H
              have c47b0 : (t104 == 3) = true := beq_iff_eq.mpr c47
              have c47b1 : (t104 != 3) = false := bne_eq_false_iff_eq.mpr c47
              clear c47
              by_cases c48 : (t107.length : Int) = 0
              · rw [if_pos c48] at H
                have c48b0 : ((t107.length : Int) == 0) = true := beq_iff_eq.mpr c48
                have c48b1 : ((t107.length : Int) != 0) = false := bne_eq_false_iff_eq.mpr c48
                clear c48
                by_cases c49 : t108 = 3
                · rw [if_pos c49] at H
                  have c49b0 : (t108 == 3) = true := beq_iff_eq.mpr c49
                  have c49b1 : (t108 != 3) = false := bne_eq_false_iff_eq.mpr c49
                  clear c49
                  replace H := Option.bind_eq_some_iff.mp H
                  obtain ⟨t117, A500, H⟩ := H
                  replace H : (if t117 = true then ((galoislaw04_is.f t113 t114 0 3).bind fun t118 => (some t118)) else (none)) = some r := H
                  have A50 := Aside0.mk A500
                  clear A500
                  by_cases c51 : t117 = true
                  · subst c51
                    have H1 : ((galoislaw04_is.f t113 t114 0 3).bind fun t118 => (some t118)) = some r := by rw [if_pos rfl] at H; exact H
                    clear H
                    have H := H1
                    clear H1
                    replace H := Option.bind_eq_some_iff.mp H
                    obtain ⟨t118, A520, H⟩ := H
                    replace H : (some t118) = some r := H
                    have A52 := Aside0.mk A520
                    clear A520
                    obtain rfl := Option.some.inj H
                    go_enter Try.func12, Try.ntmps12
                    go_wp2_with (first | ((with_reducible refine gate_callee (f := 39) rfl ?_); refine goesL_ (some 15) rfl rfl Try.func39 (by kernel_rfl) rfl #[.int .i64 a0] rfl (by (try simp only [List.map_toArray, List.map_cons, List.map_nil]); first | done | rfl | (simp only [List.length_drop, List.length_take]; rfl)) ?_; (with_reducible refine (residue_IsPrime.calls k a0 false t102 _ A2.out).mono ?_); rintro e w53 ⟨rfl, hb⟩; refine ⟨_, rfl, ?_⟩; have n0_ := Aside0.mk (below_step (by repeat (first | (with_reducible first | exact HB.out | apply below_alloc | apply pw_below_drewN | apply below_drew1) | exact HB.out)) hb); clear HB; have HB := n0_; clear n0_; (try clear hb); (try clear hb2); (try clear hk); (try clear hi)) | ((with_reducible refine gate_callee (f := 38) rfl ?_); refine goesL_ (some 20) rfl rfl Try.func38 (by kernel_rfl) rfl #[.int .i64 a0] rfl (by (try simp only [List.map_toArray, List.map_cons, List.map_nil]); first | done | rfl | (simp only [List.length_drop, List.length_take]; rfl)) ?_; (with_reducible refine (residue_Factor.calls k a0 t103 t104 _ A3.out).mono ?_); rintro e w54 ⟨v105, rfl, ho0, hb⟩; refine ⟨_, rfl, ?_⟩; have n0_ := Aside0.mk (Kd.R_lower ho0 (below_size (by repeat (first | (with_reducible first | exact HB.out | apply below_alloc | apply pw_below_drewN | apply below_drew1) | exact HB.out)))); have n1_ := Aside0.mk (below_step (by repeat (first | (with_reducible first | exact HB.out | apply below_alloc | apply pw_below_drewN | apply below_drew1) | exact HB.out)) hb); clear HB; have HO106 := n0_; have HB := n1_; clear n0_ n1_; (try clear hb); (try clear hb2); (try clear hk); (try clear hi); (try clear ho0)) | ((with_reducible refine gate_callee (f := 46) rfl ?_); refine goesL_ (some 25) rfl rfl Try.func46 (by kernel_rfl) rfl #[.int .i64 a0] rfl (by (try simp only [List.map_toArray, List.map_cons, List.map_nil]); first | done | rfl | (simp only [List.length_drop, List.length_take]; rfl)) ?_; (with_reducible refine (residue_Divisors.calls k a0 t107 t108 _ A4.out).mono ?_); rintro e w55 ⟨v109, rfl, ho0, hb⟩; refine ⟨_, rfl, ?_⟩; have n0_ := Aside0.mk (Kd.R_below (by (with_reducible repeat (first | apply Kd.R_alloc | apply Kd.R_drewN | apply Kd.R_drew)); exact HO106.out) hb); have n1_ := Aside0.mk (Kd.R_lower ho0 (below_size (by repeat (first | (with_reducible first | exact HB.out | apply below_alloc | apply pw_below_drewN | apply below_drew1) | exact HB.out)))); have n2_ := Aside0.mk (below_step (by repeat (first | (with_reducible first | exact HB.out | apply below_alloc | apply pw_below_drewN | apply below_drew1) | exact HB.out)) hb); clear HO106; clear HB; have HO106 := n0_; have HO110 := n1_; have HB := n2_; clear n0_ n1_ n2_; (try clear hb); (try clear hb2); (try clear hk); (try clear hi); (try clear ho0)) | ((with_reducible refine gate_callee (f := 37) rfl ?_); refine goesL_ (some 30) rfl rfl Try.func37 (by kernel_rfl) rfl #[.int .i64 a0] rfl (by (try simp only [List.map_toArray, List.map_cons, List.map_nil]); first | done | rfl | (simp only [List.length_drop, List.length_take]; rfl)) ?_; (with_reducible refine (residue_Totient.calls k a0 t111 t112 _ A5.out).mono ?_); rintro e w56 ⟨rfl, hb⟩; refine ⟨_, rfl, ?_⟩; have n0_ := Aside0.mk (Kd.R_below (by (with_reducible repeat (first | apply Kd.R_alloc | apply Kd.R_drewN | apply Kd.R_drew)); exact HO106.out) hb); have n1_ := Aside0.mk (Kd.R_below (by (with_reducible repeat (first | apply Kd.R_alloc | apply Kd.R_drewN | apply Kd.R_drew)); exact HO110.out) hb); have n2_ := Aside0.mk (below_step (by repeat (first | (with_reducible first | exact HB.out | apply below_alloc | apply pw_below_drewN | apply below_drew1) | exact HB.out)) hb); clear HO106; clear HO110; clear HB; have HO106 := n0_; have HO110 := n1_; have HB := n2_; clear n0_ n1_ n2_; (try clear hb); (try clear hb2); (try clear hk); (try clear hi)) | ((with_reducible refine gate_callee (f := 47) rfl ?_); refine goesL_ (some 35) rfl rfl Try.func47 (by kernel_rfl) rfl #[.int .i64 a0] rfl (by (try simp only [List.map_toArray, List.map_cons, List.map_nil]); first | done | rfl | (simp only [List.length_drop, List.length_take]; rfl)) ?_; (with_reducible refine (residue_Moebius.calls k a0 t113 t114 _ A6.out).mono ?_); rintro e w57 ⟨rfl, hb⟩; refine ⟨_, rfl, ?_⟩; have n0_ := Aside0.mk (Kd.R_below (by (with_reducible repeat (first | apply Kd.R_alloc | apply Kd.R_drewN | apply Kd.R_drew)); exact HO106.out) hb); have n1_ := Aside0.mk (Kd.R_below (by (with_reducible repeat (first | apply Kd.R_alloc | apply Kd.R_drewN | apply Kd.R_drew)); exact HO110.out) hb); have n2_ := Aside0.mk (below_step (by repeat (first | (with_reducible first | exact HB.out | apply below_alloc | apply pw_below_drewN | apply below_drew1) | exact HB.out)) hb); clear HO106; clear HO110; clear HB; have HO106 := n0_; have HO110 := n1_; have HB := n2_; clear n0_ n1_ n2_; (try clear hb); (try clear hb2); (try clear hk); (try clear hi)) | ((with_reducible refine gate_callee (f := 15) rfl ?_); refine goesL_ (some 39) rfl rfl Try.func15 (by kernel_rfl) rfl #[.int .i64 a0] rfl (by (try simp only [List.map_toArray, List.map_cons, List.map_nil]); first | done | rfl | (simp only [List.length_drop, List.length_take]; rfl)) ?_; (with_reducible refine (galoisref04_IsModulus.calls a0 false _ A7.out).mono ?_); rintro e w' ⟨rfl, ⟨nd, rfl⟩⟩; refine ⟨_, rfl, ?_⟩) | ((with_reducible refine gate_callee (f := 14) rfl ?_); refine goesL_ (some 41) rfl rfl Try.func14 (by kernel_rfl) rfl #[] rfl (by (try simp only [List.map_toArray, List.map_cons, List.map_nil]); first | done | rfl | (simp only [List.length_drop, List.length_take]; rfl)) ?_; (with_reducible refine (galoislaw04_awake.calls k  true _ A42.out).mono ?_); rintro e w58 ⟨rfl, hb⟩; refine ⟨_, rfl, ?_⟩; have n0_ := Aside0.mk (Kd.R_below (by (with_reducible repeat (first | apply Kd.R_alloc | apply Kd.R_drewN | apply Kd.R_drew)); exact HO106.out) hb); have n1_ := Aside0.mk (Kd.R_below (by (with_reducible repeat (first | apply Kd.R_alloc | apply Kd.R_drewN | apply Kd.R_drew)); exact HO110.out) hb); have n2_ := Aside0.mk (below_step (by repeat (first | (with_reducible first | exact HB.out | apply below_alloc | apply pw_below_drewN | apply below_drew1) | exact HB.out)) hb); clear HO106; clear HO110; clear HB; have HO106 := n0_; have HO110 := n1_; have HB := n2_; clear n0_ n1_ n2_; (try clear hb); (try clear hb2); (try clear hk); (try clear hi); obtain ⟨Ao59, co59, eo59⟩ := Kd.R_slice HO106.out; subst eo59; obtain ⟨Ao60, co60, eo60⟩ := Kd.R_slice HO110.out; subst eo60) | (go_at_call 18; (with_reducible refine (galoislaw04_is.calls t111 t112 0 3 true _ A50.out).mono ?_); rintro e w' ⟨rfl, ⟨nd, rfl⟩⟩) | (go_at_call 18; (with_reducible refine (galoislaw04_is.calls t113 t114 0 3 t118 _ A52.out).mono ?_); rintro e w' ⟨rfl, ⟨nd, rfl⟩⟩))
                    go_ret
                    exact ⟨by first | rfl | (simp [errW_none, errW_some] <;> rfl) | (simp [*, errW_none, errW_some] <;> rfl), by repeat (first | (with_reducible first | exact HB.out | apply below_alloc | apply pw_below_drewN | apply below_drew1) | exact HB.out)⟩
                  · replace c51 := Bool.eq_false_iff.mpr c51
                    subst c51
                    have H1 : (none) = some r := by rw [if_neg (show ¬ (false = true) by decide)] at H; exact H
                    clear H
                    have H := H1
                    clear H1
                    exact absurd H (by simp)
                · rw [if_neg c49] at H
                  exact absurd H (by simp)
              · rw [if_neg c48] at H
                exact absurd H (by simp)
            · rw [if_neg c47] at H
              exact absurd H (by simp)
          · rw [if_neg c46] at H
            exact absurd H (by simp)
        · rw [if_neg c45] at H
          exact absurd H (by simp)
    · replace c43 := Bool.eq_false_iff.mpr c43
      subst c43
      have H1 : (none) = some r := by rw [if_neg (show ¬ (false = true) by decide)] at H; exact H
      clear H
      have H := H1
      clear H1
      exact absurd H (by simp)

/-- THE ONE PURE STATEMENT of galoislaw04_ResidueFactors: yours. -/
def galoislaw04_ResidueFactors.Pure : Prop := ∀ (a0 : Int), (Lit.int .i64 a0).wf = true → ∃ k, galoislaw04_ResidueFactors.f k a0 = some true
theorem galoislaw04_ResidueFactors.walk (P : galoislaw04_ResidueFactors.Pure) (a0 : Int) (w : World) (w0 : (Lit.int .i64 a0).wf = true) :
    Calls Try.prog 12 #[.int .i64 a0] w fun e w' => e = .returned (.bool true) ∧ Below w.heap.size w w' := by
  obtain ⟨k, h⟩ := P a0 w0
  refine (galoislaw04_ResidueFactors.calls k a0 true w h).mono ?_
  rintro e w' ⟨rfl, hd⟩
  exact ⟨rfl, hd⟩

end Go.Proofs.Ytmedflaejnbkoaa.Q

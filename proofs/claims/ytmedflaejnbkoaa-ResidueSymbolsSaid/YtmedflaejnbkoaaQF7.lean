/- Machine side: a program of the session wrote this text (the kit's print.py and the session's own contracts). Conditions: none of its own. -/
import Derived.Test.YtmedflaejnbkoaaQ0
import Derived.Test.YtmedflaejnbkoaaQG1
import Derived.Test.YtmedflaejnbkoaaQG2
import Derived.Test.YtmedflaejnbkoaaQF15
import Derived.Test.YtmedflaejnbkoaaQF18
import Derived.Test.YtmedflaejnbkoaaQF27
import Derived.Test.YtmedflaejnbkoaaQF29
import Derived.Test.YtmedflaejnbkoaaQF31
import Derived.Test.YtmedflaejnbkoaaQF30
import Derived.Test.YtmedflaejnbkoaaQF32
namespace Go.Proofs.Ytmedflaejnbkoaa.Q
open Go.RowKit Go.Proofs.YtmedflaejnbkoaaW.PrintWords Go.Proofs.YtmedflaejnbkoaaW.PrintLast Go.Proofs.YtmedflaejnbkoaaW.PrintMore
attribute [local go_sem] max2_int min2_int max_two min_two max_three min_three max_four min_four   -- for this text's walks alone
set_option linter.unusedVariables false
set_option linter.unusedSimpArgs false

/-! ### galoislaw04_ResidueSymbols: function 7 -/
def galoislaw04_ResidueSymbols.j0 : Nat → Int → Int → Bool → Option (Bool)
  | 0, _, _, _ => none
  | k + 1, x0, x1, x11 => if x1 > 100000 then (some true) else ((residue_SquareRoot.f k x0 x1).bind fun bt120 => (if x11 = true then ((galoisref04_SquareRoot.f k x0 x1).bind fun bt123 => (if bt123.2 = true then ((galoislaw04_is.f bt120.1 bt120.2 bt123.1 0).bind fun t125 => (some t125)) else ((galoislaw04_is.f bt120.1 bt120.2 0 26).bind fun t126 => (some t126)))) else ((galoislaw04_is.f bt120.1 bt120.2 0 7).bind fun t122 => (some t122))))
def galoislaw04_ResidueSymbols.f (k : Nat) (a0 : Int) (a1 : Int) : Option (Bool) := (galoislaw04_awake.f k).bind fun t101 => (if t101 = true then ((residue_Legendre.f k a0 a1).bind fun bt102 => ((residue_Jacobi.f k a0 a1).bind fun bt104 => ((galoisref04_IsModulus.f a1).bind fun t106 => (if t106 = true then ((galoisref04_IsPrime.f k a1).bind fun t112 => (if (Int.tmod a1 2) = 0 then ((galoislaw04_is.f bt102.1 bt102.2 0 7).bind fun t113 => (if t113 = true then ((galoislaw04_is.f bt104.1 bt104.2 0 3).bind fun t114 => (if t114 = true then (galoislaw04_ResidueSymbols.j0 k a0 a1 t112) else (none))) else (none))) else ((galoisref04_Jacobi.f k a0 a1).bind fun t115 => ((galoislaw04_is.f bt104.1 bt104.2 t115 0).bind fun t116 => (if t116 = true then (if t112 = true then ((galoisref04_Legendre.f k a0 a1).bind fun t117 => ((galoislaw04_is.f bt102.1 bt102.2 t117 0).bind fun t118 => (if t118 = true then (galoislaw04_ResidueSymbols.j0 k a0 a1 t112) else (none)))) else ((galoislaw04_is.f bt102.1 bt102.2 0 7).bind fun t119 => (if t119 = true then (galoislaw04_ResidueSymbols.j0 k a0 a1 t112) else (none)))) else (none)))))) else ((residue_SquareRoot.f k a0 a1).bind fun bt107 => ((galoislaw04_is.f bt102.1 bt102.2 0 3).bind fun t109 => (if t109 = true then ((galoislaw04_is.f bt104.1 bt104.2 0 3).bind fun t110 => (if t110 = true then ((galoislaw04_is.f bt107.1 bt107.2 0 3).bind fun t111 => (some t111)) else (none))) else (none)))))))) else (none))
theorem galoislaw04_ResidueSymbols.mono_l : ∀ k, (∀ y0 y1 y2, LeO (galoislaw04_ResidueSymbols.j0 k y0 y1 y2) (galoislaw04_ResidueSymbols.j0 (k + 1) y0 y1 y2))
  | 0 => fun _ _ _ r h => by simp [galoislaw04_ResidueSymbols.j0] at h
  | k + 1 => by
    have ih0 := galoislaw04_ResidueSymbols.mono_l k
    · intro y0 y1 y2
      unfold galoislaw04_ResidueSymbols.j0
      repeat' first
      | (with_reducible exact ih0 _ _ _)
      | (with_reducible exact galoislaw04_awake.mono _)
      | (with_reducible exact galoisref04_IsPrime.mono _ _)
      | (with_reducible exact galoisref04_Jacobi.mono _ _ _)
      | (with_reducible exact galoisref04_Legendre.mono _ _ _)
      | (with_reducible exact galoisref04_SquareRoot.mono _ _ _)
      | (with_reducible exact residue_Jacobi.mono _ _ _)
      | (with_reducible exact residue_Legendre.mono _ _ _)
      | (with_reducible exact residue_SquareRoot.mono _ _ _)
      | (with_reducible exact LeO.refl _)
      | (with_reducible exact LeO.none _)
      | (with_reducible refine LeO.ite ?_ ?_)
      | (with_reducible refine LeO.bind ?_ (fun _ => ?_))
      | exact ih0 _ _ _
      | exact galoislaw04_awake.mono _
      | exact galoisref04_IsPrime.mono _ _
      | exact galoisref04_Jacobi.mono _ _ _
      | exact galoisref04_Legendre.mono _ _ _
      | exact galoisref04_SquareRoot.mono _ _ _
      | exact residue_Jacobi.mono _ _ _
      | exact residue_Legendre.mono _ _ _
      | exact residue_SquareRoot.mono _ _ _
      | exact LeO.none _
      | refine LeO.ite ?_ ?_
      | refine LeO.bind ?_ (fun _ => ?_)
theorem galoislaw04_ResidueSymbols.mono : ∀ a0 a1 k, LeO (galoislaw04_ResidueSymbols.f k a0 a1) (galoislaw04_ResidueSymbols.f (k + 1) a0 a1) := by
  intro a0 a1 k
  have ih0 := galoislaw04_ResidueSymbols.mono_l k
  unfold galoislaw04_ResidueSymbols.f
  repeat' first
      | (with_reducible exact ih0 _ _ _)
      | (with_reducible exact galoislaw04_awake.mono _)
      | (with_reducible exact galoisref04_IsPrime.mono _ _)
      | (with_reducible exact galoisref04_Jacobi.mono _ _ _)
      | (with_reducible exact galoisref04_Legendre.mono _ _ _)
      | (with_reducible exact galoisref04_SquareRoot.mono _ _ _)
      | (with_reducible exact residue_Jacobi.mono _ _ _)
      | (with_reducible exact residue_Legendre.mono _ _ _)
      | (with_reducible exact residue_SquareRoot.mono _ _ _)
      | (with_reducible exact LeO.refl _)
      | (with_reducible exact LeO.none _)
      | (with_reducible refine LeO.ite ?_ ?_)
      | (with_reducible refine LeO.bind ?_ (fun _ => ?_))
      | exact ih0 _ _ _
      | exact galoislaw04_awake.mono _
      | exact galoisref04_IsPrime.mono _ _
      | exact galoisref04_Jacobi.mono _ _ _
      | exact galoisref04_Legendre.mono _ _ _
      | exact galoisref04_SquareRoot.mono _ _ _
      | exact residue_Jacobi.mono _ _ _
      | exact residue_Legendre.mono _ _ _
      | exact residue_SquareRoot.mono _ _ _
      | exact LeO.none _
      | refine LeO.ite ?_ ?_
      | refine LeO.bind ?_ (fun _ => ?_)
set_option maxHeartbeats 8000000 in
set_option maxRecDepth 100000 in
theorem galoislaw04_ResidueSymbols.calls (k : Nat) (a0 : Int) (a1 : Int) (r : Bool) (w : World) (h : galoislaw04_ResidueSymbols.f k a0 a1 = some r) :
    Calls Try.prog 7 #[.int .i64 a0, .int .i64 a1] w fun e w' => e = .returned (.bool r) ∧ Below w.heap.size w w' := by
  have HB := Aside0.mk (Below.refl w.heap.size w)
  have H : ((galoislaw04_awake.f k).bind fun t101 => (if t101 = true then ((residue_Legendre.f k a0 a1).bind fun bt102 => ((residue_Jacobi.f k a0 a1).bind fun bt104 => ((galoisref04_IsModulus.f a1).bind fun t106 => (if t106 = true then ((galoisref04_IsPrime.f k a1).bind fun t112 => (if (Int.tmod a1 2) = 0 then ((galoislaw04_is.f bt102.1 bt102.2 0 7).bind fun t113 => (if t113 = true then ((galoislaw04_is.f bt104.1 bt104.2 0 3).bind fun t114 => (if t114 = true then (galoislaw04_ResidueSymbols.j0 k a0 a1 t112) else (none))) else (none))) else ((galoisref04_Jacobi.f k a0 a1).bind fun t115 => ((galoislaw04_is.f bt104.1 bt104.2 t115 0).bind fun t116 => (if t116 = true then (if t112 = true then ((galoisref04_Legendre.f k a0 a1).bind fun t117 => ((galoislaw04_is.f bt102.1 bt102.2 t117 0).bind fun t118 => (if t118 = true then (galoislaw04_ResidueSymbols.j0 k a0 a1 t112) else (none)))) else ((galoislaw04_is.f bt102.1 bt102.2 0 7).bind fun t119 => (if t119 = true then (galoislaw04_ResidueSymbols.j0 k a0 a1 t112) else (none)))) else (none)))))) else ((residue_SquareRoot.f k a0 a1).bind fun bt107 => ((galoislaw04_is.f bt102.1 bt102.2 0 3).bind fun t109 => (if t109 = true then ((galoislaw04_is.f bt104.1 bt104.2 0 3).bind fun t110 => (if t110 = true then ((galoislaw04_is.f bt107.1 bt107.2 0 3).bind fun t111 => (some t111)) else (none))) else (none)))))))) else (none))) = some r := h
  clear h
  replace H := Option.bind_eq_some_iff.mp H
  obtain ⟨t101, A30, H⟩ := H
  replace H : (if t101 = true then ((residue_Legendre.f k a0 a1).bind fun bt102 => ((residue_Jacobi.f k a0 a1).bind fun bt104 => ((galoisref04_IsModulus.f a1).bind fun t106 => (if t106 = true then ((galoisref04_IsPrime.f k a1).bind fun t112 => (if (Int.tmod a1 2) = 0 then ((galoislaw04_is.f bt102.1 bt102.2 0 7).bind fun t113 => (if t113 = true then ((galoislaw04_is.f bt104.1 bt104.2 0 3).bind fun t114 => (if t114 = true then (galoislaw04_ResidueSymbols.j0 k a0 a1 t112) else (none))) else (none))) else ((galoisref04_Jacobi.f k a0 a1).bind fun t115 => ((galoislaw04_is.f bt104.1 bt104.2 t115 0).bind fun t116 => (if t116 = true then (if t112 = true then ((galoisref04_Legendre.f k a0 a1).bind fun t117 => ((galoislaw04_is.f bt102.1 bt102.2 t117 0).bind fun t118 => (if t118 = true then (galoislaw04_ResidueSymbols.j0 k a0 a1 t112) else (none)))) else ((galoislaw04_is.f bt102.1 bt102.2 0 7).bind fun t119 => (if t119 = true then (galoislaw04_ResidueSymbols.j0 k a0 a1 t112) else (none)))) else (none)))))) else ((residue_SquareRoot.f k a0 a1).bind fun bt107 => ((galoislaw04_is.f bt102.1 bt102.2 0 3).bind fun t109 => (if t109 = true then ((galoislaw04_is.f bt104.1 bt104.2 0 3).bind fun t110 => (if t110 = true then ((galoislaw04_is.f bt107.1 bt107.2 0 3).bind fun t111 => (some t111)) else (none))) else (none)))))))) else (none)) = some r := H
  have A3 := Aside0.mk A30
  clear A30
  by_cases c4 : t101 = true
  · subst c4
    have H1 : ((residue_Legendre.f k a0 a1).bind fun bt102 => ((residue_Jacobi.f k a0 a1).bind fun bt104 => ((galoisref04_IsModulus.f a1).bind fun t106 => (if t106 = true then ((galoisref04_IsPrime.f k a1).bind fun t112 => (if (Int.tmod a1 2) = 0 then ((galoislaw04_is.f bt102.1 bt102.2 0 7).bind fun t113 => (if t113 = true then ((galoislaw04_is.f bt104.1 bt104.2 0 3).bind fun t114 => (if t114 = true then (galoislaw04_ResidueSymbols.j0 k a0 a1 t112) else (none))) else (none))) else ((galoisref04_Jacobi.f k a0 a1).bind fun t115 => ((galoislaw04_is.f bt104.1 bt104.2 t115 0).bind fun t116 => (if t116 = true then (if t112 = true then ((galoisref04_Legendre.f k a0 a1).bind fun t117 => ((galoislaw04_is.f bt102.1 bt102.2 t117 0).bind fun t118 => (if t118 = true then (galoislaw04_ResidueSymbols.j0 k a0 a1 t112) else (none)))) else ((galoislaw04_is.f bt102.1 bt102.2 0 7).bind fun t119 => (if t119 = true then (galoislaw04_ResidueSymbols.j0 k a0 a1 t112) else (none)))) else (none)))))) else ((residue_SquareRoot.f k a0 a1).bind fun bt107 => ((galoislaw04_is.f bt102.1 bt102.2 0 3).bind fun t109 => (if t109 = true then ((galoislaw04_is.f bt104.1 bt104.2 0 3).bind fun t110 => (if t110 = true then ((galoislaw04_is.f bt107.1 bt107.2 0 3).bind fun t111 => (some t111)) else (none))) else (none)))))))) = some r := by rw [if_pos rfl] at H; exact H
    clear H
    have H := H1
    clear H1
    replace H := Option.bind_eq_some_iff.mp H
    obtain ⟨⟨t102, t103⟩, A50, H⟩ := H
    replace H : ((residue_Jacobi.f k a0 a1).bind fun bt104 => ((galoisref04_IsModulus.f a1).bind fun t106 => (if t106 = true then ((galoisref04_IsPrime.f k a1).bind fun t112 => (if (Int.tmod a1 2) = 0 then ((galoislaw04_is.f t102 t103 0 7).bind fun t113 => (if t113 = true then ((galoislaw04_is.f bt104.1 bt104.2 0 3).bind fun t114 => (if t114 = true then (galoislaw04_ResidueSymbols.j0 k a0 a1 t112) else (none))) else (none))) else ((galoisref04_Jacobi.f k a0 a1).bind fun t115 => ((galoislaw04_is.f bt104.1 bt104.2 t115 0).bind fun t116 => (if t116 = true then (if t112 = true then ((galoisref04_Legendre.f k a0 a1).bind fun t117 => ((galoislaw04_is.f t102 t103 t117 0).bind fun t118 => (if t118 = true then (galoislaw04_ResidueSymbols.j0 k a0 a1 t112) else (none)))) else ((galoislaw04_is.f t102 t103 0 7).bind fun t119 => (if t119 = true then (galoislaw04_ResidueSymbols.j0 k a0 a1 t112) else (none)))) else (none)))))) else ((residue_SquareRoot.f k a0 a1).bind fun bt107 => ((galoislaw04_is.f t102 t103 0 3).bind fun t109 => (if t109 = true then ((galoislaw04_is.f bt104.1 bt104.2 0 3).bind fun t110 => (if t110 = true then ((galoislaw04_is.f bt107.1 bt107.2 0 3).bind fun t111 => (some t111)) else (none))) else (none))))))) = some r := H
    have A5 := Aside0.mk A50
    clear A50
    replace H := Option.bind_eq_some_iff.mp H
    obtain ⟨⟨t104, t105⟩, A60, H⟩ := H
    replace H : ((galoisref04_IsModulus.f a1).bind fun t106 => (if t106 = true then ((galoisref04_IsPrime.f k a1).bind fun t112 => (if (Int.tmod a1 2) = 0 then ((galoislaw04_is.f t102 t103 0 7).bind fun t113 => (if t113 = true then ((galoislaw04_is.f t104 t105 0 3).bind fun t114 => (if t114 = true then (galoislaw04_ResidueSymbols.j0 k a0 a1 t112) else (none))) else (none))) else ((galoisref04_Jacobi.f k a0 a1).bind fun t115 => ((galoislaw04_is.f t104 t105 t115 0).bind fun t116 => (if t116 = true then (if t112 = true then ((galoisref04_Legendre.f k a0 a1).bind fun t117 => ((galoislaw04_is.f t102 t103 t117 0).bind fun t118 => (if t118 = true then (galoislaw04_ResidueSymbols.j0 k a0 a1 t112) else (none)))) else ((galoislaw04_is.f t102 t103 0 7).bind fun t119 => (if t119 = true then (galoislaw04_ResidueSymbols.j0 k a0 a1 t112) else (none)))) else (none)))))) else ((residue_SquareRoot.f k a0 a1).bind fun bt107 => ((galoislaw04_is.f t102 t103 0 3).bind fun t109 => (if t109 = true then ((galoislaw04_is.f t104 t105 0 3).bind fun t110 => (if t110 = true then ((galoislaw04_is.f bt107.1 bt107.2 0 3).bind fun t111 => (some t111)) else (none))) else (none)))))) = some r := H
    have A6 := Aside0.mk A60
    clear A60
    replace H := Option.bind_eq_some_iff.mp H
    obtain ⟨t106, A70, H⟩ := H
    replace H : (if t106 = true then ((galoisref04_IsPrime.f k a1).bind fun t112 => (if (Int.tmod a1 2) = 0 then ((galoislaw04_is.f t102 t103 0 7).bind fun t113 => (if t113 = true then ((galoislaw04_is.f t104 t105 0 3).bind fun t114 => (if t114 = true then (galoislaw04_ResidueSymbols.j0 k a0 a1 t112) else (none))) else (none))) else ((galoisref04_Jacobi.f k a0 a1).bind fun t115 => ((galoislaw04_is.f t104 t105 t115 0).bind fun t116 => (if t116 = true then (if t112 = true then ((galoisref04_Legendre.f k a0 a1).bind fun t117 => ((galoislaw04_is.f t102 t103 t117 0).bind fun t118 => (if t118 = true then (galoislaw04_ResidueSymbols.j0 k a0 a1 t112) else (none)))) else ((galoislaw04_is.f t102 t103 0 7).bind fun t119 => (if t119 = true then (galoislaw04_ResidueSymbols.j0 k a0 a1 t112) else (none)))) else (none)))))) else ((residue_SquareRoot.f k a0 a1).bind fun bt107 => ((galoislaw04_is.f t102 t103 0 3).bind fun t109 => (if t109 = true then ((galoislaw04_is.f t104 t105 0 3).bind fun t110 => (if t110 = true then ((galoislaw04_is.f bt107.1 bt107.2 0 3).bind fun t111 => (some t111)) else (none))) else (none))))) = some r := H
    have A7 := Aside0.mk A70
    clear A70
    by_cases c8 : t106 = true
    · subst c8
      have H1 : ((galoisref04_IsPrime.f k a1).bind fun t112 => (if (Int.tmod a1 2) = 0 then ((galoislaw04_is.f t102 t103 0 7).bind fun t113 => (if t113 = true then ((galoislaw04_is.f t104 t105 0 3).bind fun t114 => (if t114 = true then (galoislaw04_ResidueSymbols.j0 k a0 a1 t112) else (none))) else (none))) else ((galoisref04_Jacobi.f k a0 a1).bind fun t115 => ((galoislaw04_is.f t104 t105 t115 0).bind fun t116 => (if t116 = true then (if t112 = true then ((galoisref04_Legendre.f k a0 a1).bind fun t117 => ((galoislaw04_is.f t102 t103 t117 0).bind fun t118 => (if t118 = true then (galoislaw04_ResidueSymbols.j0 k a0 a1 t112) else (none)))) else ((galoislaw04_is.f t102 t103 0 7).bind fun t119 => (if t119 = true then (galoislaw04_ResidueSymbols.j0 k a0 a1 t112) else (none)))) else (none)))))) = some r := by rw [if_pos rfl] at H; exact H
      clear H
      have H := H1
      clear H1
      replace H := Option.bind_eq_some_iff.mp H
      obtain ⟨t112, A90, H⟩ := H
      replace H : (if (Int.tmod a1 2) = 0 then ((galoislaw04_is.f t102 t103 0 7).bind fun t113 => (if t113 = true then ((galoislaw04_is.f t104 t105 0 3).bind fun t114 => (if t114 = true then (galoislaw04_ResidueSymbols.j0 k a0 a1 t112) else (none))) else (none))) else ((galoisref04_Jacobi.f k a0 a1).bind fun t115 => ((galoislaw04_is.f t104 t105 t115 0).bind fun t116 => (if t116 = true then (if t112 = true then ((galoisref04_Legendre.f k a0 a1).bind fun t117 => ((galoislaw04_is.f t102 t103 t117 0).bind fun t118 => (if t118 = true then (galoislaw04_ResidueSymbols.j0 k a0 a1 t112) else (none)))) else ((galoislaw04_is.f t102 t103 0 7).bind fun t119 => (if t119 = true then (galoislaw04_ResidueSymbols.j0 k a0 a1 t112) else (none)))) else (none))))) = some r := H
      have A9 := Aside0.mk A90
      clear A90
      have HC10 := Aside0.mk H
      clear H
      go_enter Try.func7, Try.ntmps7
      go_upto_if 56 with (first | ((with_reducible refine gate_callee (f := 14) rfl ?_); refine goesL_ (some 16) rfl rfl Try.func14 (by kernel_rfl) rfl #[] rfl (by (try simp only [List.map_toArray, List.map_cons, List.map_nil]); first | done | rfl | (simp only [List.length_drop, List.length_take]; rfl)) ?_; (with_reducible refine (galoislaw04_awake.calls k  true _ A3.out).mono ?_); rintro e w11 ⟨rfl, hb⟩; refine ⟨_, rfl, ?_⟩; have n0_ := Aside0.mk (below_step (by repeat (first | (with_reducible first | exact HB.out | apply below_alloc | apply pw_below_drewN | apply below_drew1) | exact HB.out)) hb); clear HB; have HB := n0_; clear n0_; (try clear hb); (try clear hb2); (try clear hk); (try clear hi)) | ((with_reducible refine gate_callee (f := 27) rfl ?_); refine goesL_ (some 21) rfl rfl Try.func27 (by kernel_rfl) rfl #[.int .i64 a0, .int .i64 a1] rfl (by (try simp only [List.map_toArray, List.map_cons, List.map_nil]); first | done | rfl | (simp only [List.length_drop, List.length_take]; rfl)) ?_; (with_reducible refine (residue_Legendre.calls k a0 a1 t102 t103 _ A5.out).mono ?_); rintro e w12 ⟨rfl, hb⟩; refine ⟨_, rfl, ?_⟩; have n0_ := Aside0.mk (below_step (by repeat (first | (with_reducible first | exact HB.out | apply below_alloc | apply pw_below_drewN | apply below_drew1) | exact HB.out)) hb); clear HB; have HB := n0_; clear n0_; (try clear hb); (try clear hb2); (try clear hk); (try clear hi)) | ((with_reducible refine gate_callee (f := 25) rfl ?_); refine goesL_ (some 27) rfl rfl Try.func25 (by kernel_rfl) rfl #[.int .i64 a0, .int .i64 a1] rfl (by (try simp only [List.map_toArray, List.map_cons, List.map_nil]); first | done | rfl | (simp only [List.length_drop, List.length_take]; rfl)) ?_; (with_reducible refine (residue_Jacobi.calls k a0 a1 t104 t105 _ A6.out).mono ?_); rintro e w13 ⟨rfl, hb⟩; refine ⟨_, rfl, ?_⟩; have n0_ := Aside0.mk (below_step (by repeat (first | (with_reducible first | exact HB.out | apply below_alloc | apply pw_below_drewN | apply below_drew1) | exact HB.out)) hb); clear HB; have HB := n0_; clear n0_; (try clear hb); (try clear hb2); (try clear hk); (try clear hi)) | ((with_reducible refine gate_callee (f := 15) rfl ?_); refine goesL_ (some 31) rfl rfl Try.func15 (by kernel_rfl) rfl #[.int .i64 a1] rfl (by (try simp only [List.map_toArray, List.map_cons, List.map_nil]); first | done | rfl | (simp only [List.length_drop, List.length_take]; rfl)) ?_; (with_reducible refine (galoisref04_IsModulus.calls a1 true _ A7.out).mono ?_); rintro e w' ⟨rfl, ⟨nd, rfl⟩⟩; refine ⟨_, rfl, ?_⟩) | ((with_reducible refine gate_callee (f := 29) rfl ?_); refine goesL_ (some 53) rfl rfl Try.func29 (by kernel_rfl) rfl #[.int .i64 a1] rfl (by (try simp only [List.map_toArray, List.map_cons, List.map_nil]); first | done | rfl | (simp only [List.length_drop, List.length_take]; rfl)) ?_; (with_reducible refine (galoisref04_IsPrime.calls k a1 t112 _ A9.out).mono ?_); rintro e w' ⟨rfl, ⟨nd, rfl⟩⟩; refine ⟨_, rfl, ?_⟩))
      (try simp only [Act.put, List.setIfInBounds_toArray, List.set_cons_zero, List.set_cons_succ])
      go_cut [] (fun wc => ∃ (kq : Nat), Aside0 (galoislaw04_ResidueSymbols.j0 kq a0 a1 t112 = some r) ∧ Aside0 (kq ≤ k) ∧ Aside0 (Below w.heap.size w wc))
      case first =>
        have H := HC10.out
        clear HC10
        by_cases c14 : (Int.tmod a1 2) = 0
        · rw [if_pos c14] at H
          have c14b0 : ((Int.tmod a1 2) == 0) = true := beq_iff_eq.mpr c14
          have c14b1 : ((Int.tmod a1 2) != 0) = false := bne_eq_false_iff_eq.mpr c14
          clear c14
          (first | rw [c14b0] | (simp only [i64_w, i32_w]; rw [c14b0]) | skip)
          replace H := Option.bind_eq_some_iff.mp H
          obtain ⟨t113, A150, H⟩ := H
          replace H : (if t113 = true then ((galoislaw04_is.f t104 t105 0 3).bind fun t114 => (if t114 = true then (galoislaw04_ResidueSymbols.j0 k a0 a1 t112) else (none))) else (none)) = some r := H
          have A15 := Aside0.mk A150
          clear A150
          by_cases c16 : t113 = true
          · subst c16
            have H1 : ((galoislaw04_is.f t104 t105 0 3).bind fun t114 => (if t114 = true then (galoislaw04_ResidueSymbols.j0 k a0 a1 t112) else (none))) = some r := by rw [if_pos rfl] at H; exact H
            clear H
            have H := H1
            clear H1
            replace H := Option.bind_eq_some_iff.mp H
            obtain ⟨t114, A170, H⟩ := H
            replace H : (if t114 = true then (galoislaw04_ResidueSymbols.j0 k a0 a1 t112) else (none)) = some r := H
            have A17 := Aside0.mk A170
            clear A170
            by_cases c18 : t114 = true
            · subst c18
              have H1 : (galoislaw04_ResidueSymbols.j0 k a0 a1 t112) = some r := by rw [if_pos rfl] at H; exact H
              clear H
              have H := H1
              clear H1
              have H' := Aside0.mk H
              clear H
              go_wp2_with (first | ((with_reducible refine gate_callee (f := 18) rfl ?_); refine goesL_ (some 59) rfl rfl Try.func18 (by kernel_rfl) rfl #[.int .i64 t102, .int .i64 t103, .int .i64 0, .int .i64 7] rfl (by (try simp only [List.map_toArray, List.map_cons, List.map_nil]); first | done | rfl | (simp only [List.length_drop, List.length_take]; rfl)) ?_; (with_reducible refine (galoislaw04_is.calls t102 t103 0 7 true _ A15.out).mono ?_); rintro e w' ⟨rfl, ⟨nd, rfl⟩⟩; refine ⟨_, rfl, ?_⟩) | (go_at_call 18; (with_reducible refine (galoislaw04_is.calls t104 t105 0 3 true _ A17.out).mono ?_); rintro e w' ⟨rfl, ⟨nd, rfl⟩⟩))
              go_meet
              case rel => exact ⟨_, H', ⟨by first | omega | exact Nat.le_refl _⟩, ⟨by repeat (first | (with_reducible first | exact HB.out | apply below_alloc | apply pw_below_drewN | apply below_drew1) | exact HB.out)⟩⟩
            · replace c18 := Bool.eq_false_iff.mpr c18
              subst c18
              have H1 : (none) = some r := by rw [if_neg (show ¬ (false = true) by decide)] at H; exact H
              clear H
              have H := H1
              clear H1
              exact absurd H (by simp)
          · replace c16 := Bool.eq_false_iff.mpr c16
            subst c16
            have H1 : (none) = some r := by rw [if_neg (show ¬ (false = true) by decide)] at H; exact H
            clear H
            have H := H1
            clear H1
            exact absurd H (by simp)
        · rw [if_neg c14] at H
          have c14b0 : ((Int.tmod a1 2) == 0) = false := beq_eq_false_iff_ne.mpr c14
          have c14b1 : ((Int.tmod a1 2) != 0) = true := bne_iff_ne.mpr c14
          (first | rw [c14b0] | (simp only [i64_w, i32_w]; rw [c14b0]) | skip)
          replace H := Option.bind_eq_some_iff.mp H
          obtain ⟨t115, A190, H⟩ := H
          replace H : ((galoislaw04_is.f t104 t105 t115 0).bind fun t116 => (if t116 = true then (if t112 = true then ((galoisref04_Legendre.f k a0 a1).bind fun t117 => ((galoislaw04_is.f t102 t103 t117 0).bind fun t118 => (if t118 = true then (galoislaw04_ResidueSymbols.j0 k a0 a1 t112) else (none)))) else ((galoislaw04_is.f t102 t103 0 7).bind fun t119 => (if t119 = true then (galoislaw04_ResidueSymbols.j0 k a0 a1 t112) else (none)))) else (none))) = some r := H
          have A19 := Aside0.mk A190
          clear A190
          replace H := Option.bind_eq_some_iff.mp H
          obtain ⟨t116, A200, H⟩ := H
          replace H : (if t116 = true then (if t112 = true then ((galoisref04_Legendre.f k a0 a1).bind fun t117 => ((galoislaw04_is.f t102 t103 t117 0).bind fun t118 => (if t118 = true then (galoislaw04_ResidueSymbols.j0 k a0 a1 t112) else (none)))) else ((galoislaw04_is.f t102 t103 0 7).bind fun t119 => (if t119 = true then (galoislaw04_ResidueSymbols.j0 k a0 a1 t112) else (none)))) else (none)) = some r := H
          have A20 := Aside0.mk A200
          clear A200
          by_cases c21 : t116 = true
          · subst c21
            have H1 : (if t112 = true then ((galoisref04_Legendre.f k a0 a1).bind fun t117 => ((galoislaw04_is.f t102 t103 t117 0).bind fun t118 => (if t118 = true then (galoislaw04_ResidueSymbols.j0 k a0 a1 t112) else (none)))) else ((galoislaw04_is.f t102 t103 0 7).bind fun t119 => (if t119 = true then (galoislaw04_ResidueSymbols.j0 k a0 a1 t112) else (none)))) = some r := by rw [if_pos rfl] at H; exact H
            clear H
            have H := H1
            clear H1
            by_cases c22 : t112 = true
            · subst c22
              have H1 : ((galoisref04_Legendre.f k a0 a1).bind fun t117 => ((galoislaw04_is.f t102 t103 t117 0).bind fun t118 => (if t118 = true then (galoislaw04_ResidueSymbols.j0 k a0 a1 true) else (none)))) = some r := by rw [if_pos rfl] at H; exact H
              clear H
              have H := H1
              clear H1
              replace H := Option.bind_eq_some_iff.mp H
              obtain ⟨t117, A230, H⟩ := H
              replace H : ((galoislaw04_is.f t102 t103 t117 0).bind fun t118 => (if t118 = true then (galoislaw04_ResidueSymbols.j0 k a0 a1 true) else (none))) = some r := H
              have A23 := Aside0.mk A230
              clear A230
              replace H := Option.bind_eq_some_iff.mp H
              obtain ⟨t118, A240, H⟩ := H
              replace H : (if t118 = true then (galoislaw04_ResidueSymbols.j0 k a0 a1 true) else (none)) = some r := H
              have A24 := Aside0.mk A240
              clear A240
              by_cases c25 : t118 = true
              · subst c25
                have H1 : (galoislaw04_ResidueSymbols.j0 k a0 a1 true) = some r := by rw [if_pos rfl] at H; exact H
                clear H
                have H := H1
                clear H1
                have H' := Aside0.mk H
                clear H
                go_wp2_with (first | ((with_reducible refine gate_callee (f := 30) rfl ?_); refine goesL_ (some 71) rfl rfl Try.func30 (by kernel_rfl) rfl #[.int .i64 a0, .int .i64 a1] rfl (by (try simp only [List.map_toArray, List.map_cons, List.map_nil]); first | done | rfl | (simp only [List.length_drop, List.length_take]; rfl)) ?_; (with_reducible refine (galoisref04_Jacobi.calls k a0 a1 t115 _ A19.out).mono ?_); rintro e w26 ⟨rfl, hb⟩; refine ⟨_, rfl, ?_⟩; have n0_ := Aside0.mk (below_step (by repeat (first | (with_reducible first | exact HB.out | apply below_alloc | apply pw_below_drewN | apply below_drew1) | exact HB.out)) hb); clear HB; have HB := n0_; clear n0_; (try clear hb); (try clear hb2); (try clear hk); (try clear hi)) | ((with_reducible refine gate_callee (f := 18) rfl ?_); refine goesL_ (some 72) rfl rfl Try.func18 (by kernel_rfl) rfl #[.int .i64 t104, .int .i64 t105, .int .i64 t115, .int .i64 0] rfl (by (try simp only [List.map_toArray, List.map_cons, List.map_nil]); first | done | rfl | (simp only [List.length_drop, List.length_take]; rfl)) ?_; (with_reducible refine (galoislaw04_is.calls t104 t105 t115 0 true _ A20.out).mono ?_); rintro e w' ⟨rfl, ⟨nd, rfl⟩⟩; refine ⟨_, rfl, ?_⟩) | (go_at_call 31; (with_reducible refine (galoisref04_Legendre.calls k a0 a1 t117 _ A23.out).mono ?_); rintro e w' ⟨rfl, ⟨nd, rfl⟩⟩) | (go_at_call 18; (with_reducible refine (galoislaw04_is.calls t102 t103 t117 0 true _ A24.out).mono ?_); rintro e w' ⟨rfl, ⟨nd, rfl⟩⟩))
                go_meet
                case rel => exact ⟨_, H', ⟨by first | omega | exact Nat.le_refl _⟩, ⟨by repeat (first | (with_reducible first | exact HB.out | apply below_alloc | apply pw_below_drewN | apply below_drew1) | exact HB.out)⟩⟩
              · replace c25 := Bool.eq_false_iff.mpr c25
                subst c25
                have H1 : (none) = some r := by rw [if_neg (show ¬ (false = true) by decide)] at H; exact H
                clear H
                have H := H1
                clear H1
                exact absurd H (by simp)
            · replace c22 := Bool.eq_false_iff.mpr c22
              subst c22
              have H1 : ((galoislaw04_is.f t102 t103 0 7).bind fun t119 => (if t119 = true then (galoislaw04_ResidueSymbols.j0 k a0 a1 false) else (none))) = some r := by rw [if_neg (show ¬ (false = true) by decide)] at H; exact H
              clear H
              have H := H1
              clear H1
              replace H := Option.bind_eq_some_iff.mp H
              obtain ⟨t119, A270, H⟩ := H
              replace H : (if t119 = true then (galoislaw04_ResidueSymbols.j0 k a0 a1 false) else (none)) = some r := H
              have A27 := Aside0.mk A270
              clear A270
              by_cases c28 : t119 = true
              · subst c28
                have H1 : (galoislaw04_ResidueSymbols.j0 k a0 a1 false) = some r := by rw [if_pos rfl] at H; exact H
                clear H
                have H := H1
                clear H1
                have H' := Aside0.mk H
                clear H
                go_wp2_with (first | ((with_reducible refine gate_callee (f := 30) rfl ?_); refine goesL_ (some 71) rfl rfl Try.func30 (by kernel_rfl) rfl #[.int .i64 a0, .int .i64 a1] rfl (by (try simp only [List.map_toArray, List.map_cons, List.map_nil]); first | done | rfl | (simp only [List.length_drop, List.length_take]; rfl)) ?_; (with_reducible refine (galoisref04_Jacobi.calls k a0 a1 t115 _ A19.out).mono ?_); rintro e w29 ⟨rfl, hb⟩; refine ⟨_, rfl, ?_⟩; have n0_ := Aside0.mk (below_step (by repeat (first | (with_reducible first | exact HB.out | apply below_alloc | apply pw_below_drewN | apply below_drew1) | exact HB.out)) hb); clear HB; have HB := n0_; clear n0_; (try clear hb); (try clear hb2); (try clear hk); (try clear hi)) | ((with_reducible refine gate_callee (f := 18) rfl ?_); refine goesL_ (some 72) rfl rfl Try.func18 (by kernel_rfl) rfl #[.int .i64 t104, .int .i64 t105, .int .i64 t115, .int .i64 0] rfl (by (try simp only [List.map_toArray, List.map_cons, List.map_nil]); first | done | rfl | (simp only [List.length_drop, List.length_take]; rfl)) ?_; (with_reducible refine (galoislaw04_is.calls t104 t105 t115 0 true _ A20.out).mono ?_); rintro e w' ⟨rfl, ⟨nd, rfl⟩⟩; refine ⟨_, rfl, ?_⟩) | (go_at_call 18; (with_reducible refine (galoislaw04_is.calls t102 t103 0 7 true _ A27.out).mono ?_); rintro e w' ⟨rfl, ⟨nd, rfl⟩⟩))
                go_meet
                case rel => exact ⟨_, H', ⟨by first | omega | exact Nat.le_refl _⟩, ⟨by repeat (first | (with_reducible first | exact HB.out | apply below_alloc | apply pw_below_drewN | apply below_drew1) | exact HB.out)⟩⟩
              · replace c28 := Bool.eq_false_iff.mpr c28
                subst c28
                have H1 : (none) = some r := by rw [if_neg (show ¬ (false = true) by decide)] at H; exact H
                clear H
                have H := H1
                clear H1
                exact absurd H (by simp)
          · replace c21 := Bool.eq_false_iff.mpr c21
            subst c21
            have H1 : (none) = some r := by rw [if_neg (show ¬ (false = true) by decide)] at H; exact H
            clear H
            have H := H1
            clear H1
            exact absurd H (by simp)
      case rest =>
        clear HC10
        try clear c1
        try clear c2
        try clear p2
        try clear c3
        try clear c4
        try clear c7
        try clear c8
        try clear c14
        try clear c14b0
        try clear c14b1
        try clear c15
        try clear c16
        try clear c18
        try clear c21
        try clear c22
        try clear c25
        try clear c27
        try clear c28
        try clear c29
        obtain ⟨kq, HA, HJ9, HB⟩ := hcut
        cases kq with
        | zero => exact absurd HA.out (by simp [galoislaw04_ResidueSymbols.j0])
        | succ kj9 =>
          have H := HA.out
          clear HA
          simp only [galoislaw04_ResidueSymbols.j0] at H
          by_cases c30 : a1 > 100000
          · rw [if_pos c30] at H
            have c30b0 : decide (100000 < a1) = true := decide_eq_true c30
            clear c30
            obtain rfl := Option.some.inj H
            go_wp2
            go_ret
            exact ⟨by first | rfl | (simp [errW_none, errW_some] <;> rfl) | (simp [*, errW_none, errW_some] <;> rfl), by repeat (first | (with_reducible first | exact HB.out | apply below_alloc | apply pw_below_drewN | apply below_drew1) | exact HB.out)⟩
          · rw [if_neg c30] at H
            have c30b0 : decide (100000 < a1) = false := decide_eq_false c30
            clear c30
            replace H := Option.bind_eq_some_iff.mp H
            obtain ⟨⟨t120, t121⟩, A310, H⟩ := H
            replace H : (if t112 = true then ((galoisref04_SquareRoot.f kj9 a0 a1).bind fun bt123 => (if bt123.2 = true then ((galoislaw04_is.f t120 t121 bt123.1 0).bind fun t125 => (some t125)) else ((galoislaw04_is.f t120 t121 0 26).bind fun t126 => (some t126)))) else ((galoislaw04_is.f t120 t121 0 7).bind fun t122 => (some t122))) = some r := H
            have A31 := Aside0.mk A310
            clear A310
            by_cases c32 : t112 = true
            · subst c32
              have H1 : ((galoisref04_SquareRoot.f kj9 a0 a1).bind fun bt123 => (if bt123.2 = true then ((galoislaw04_is.f t120 t121 bt123.1 0).bind fun t125 => (some t125)) else ((galoislaw04_is.f t120 t121 0 26).bind fun t126 => (some t126)))) = some r := by rw [if_pos rfl] at H; exact H
              clear H
              have H := H1
              clear H1
              replace H := Option.bind_eq_some_iff.mp H
              obtain ⟨⟨t123, t124⟩, A330, H⟩ := H
              replace H : (if t124 = true then ((galoislaw04_is.f t120 t121 t123 0).bind fun t125 => (some t125)) else ((galoislaw04_is.f t120 t121 0 26).bind fun t126 => (some t126))) = some r := H
              have A33 := Aside0.mk A330
              clear A330
              by_cases c34 : t124 = true
              · subst c34
                have H1 : ((galoislaw04_is.f t120 t121 t123 0).bind fun t125 => (some t125)) = some r := by rw [if_pos rfl] at H; exact H
                clear H
                have H := H1
                clear H1
                replace H := Option.bind_eq_some_iff.mp H
                obtain ⟨t125, A350, H⟩ := H
                replace H : (some t125) = some r := H
                have A35 := Aside0.mk A350
                clear A350
                obtain rfl := Option.some.inj H
                go_wp2_with (first | ((with_reducible refine gate_callee (f := 28) rfl ?_); refine goesL_ (some 101) rfl rfl Try.func28 (by kernel_rfl) rfl #[.int .i64 a0, .int .i64 a1] rfl (by (try simp only [List.map_toArray, List.map_cons, List.map_nil]); first | done | rfl | (simp only [List.length_drop, List.length_take]; rfl)) ?_; (with_reducible refine (residue_SquareRoot.calls kj9 a0 a1 t120 t121 _ A31.out).mono ?_); rintro e w36 ⟨rfl, hb⟩; refine ⟨_, rfl, ?_⟩; have n0_ := Aside0.mk (below_step (by repeat (first | (with_reducible first | exact HB.out | apply below_alloc | apply pw_below_drewN | apply below_drew1) | exact HB.out)) hb); clear HB; have HB := n0_; clear n0_; (try clear hb); (try clear hb2); (try clear hk); (try clear hi)) | ((with_reducible refine gate_callee (f := 32) rfl ?_); refine goesL_ (some 112) rfl rfl Try.func32 (by kernel_rfl) rfl #[.int .i64 a0, .int .i64 a1] rfl (by (try simp only [List.map_toArray, List.map_cons, List.map_nil]); first | done | rfl | (simp only [List.length_drop, List.length_take]; rfl)) ?_; (with_reducible refine (galoisref04_SquareRoot.calls kj9 a0 a1 t123 true _ A33.out).mono ?_); rintro e w' ⟨rfl, ⟨nd, rfl⟩⟩; refine ⟨_, rfl, ?_⟩) | ((with_reducible refine gate_callee (f := 18) rfl ?_); refine goesL_ (some 123) rfl rfl Try.func18 (by kernel_rfl) rfl #[.int .i64 t120, .int .i64 t121, .int .i64 t123, .int .i64 0] rfl (by (try simp only [List.map_toArray, List.map_cons, List.map_nil]); first | done | rfl | (simp only [List.length_drop, List.length_take]; rfl)) ?_; (with_reducible refine (galoislaw04_is.calls t120 t121 t123 0 t125 _ A35.out).mono ?_); rintro e w' ⟨rfl, ⟨nd, rfl⟩⟩; refine ⟨_, rfl, ?_⟩))
                go_ret
                exact ⟨by first | rfl | (simp [errW_none, errW_some] <;> rfl) | (simp [*, errW_none, errW_some] <;> rfl), by repeat (first | (with_reducible first | exact HB.out | apply below_alloc | apply pw_below_drewN | apply below_drew1) | exact HB.out)⟩
              · replace c34 := Bool.eq_false_iff.mpr c34
                subst c34
                have H1 : ((galoislaw04_is.f t120 t121 0 26).bind fun t126 => (some t126)) = some r := by rw [if_neg (show ¬ (false = true) by decide)] at H; exact H
                clear H
                have H := H1
                clear H1
                replace H := Option.bind_eq_some_iff.mp H
                obtain ⟨t126, A370, H⟩ := H
                replace H : (some t126) = some r := H
                have A37 := Aside0.mk A370
                clear A370
                obtain rfl := Option.some.inj H
                go_wp2_with (first | ((with_reducible refine gate_callee (f := 28) rfl ?_); refine goesL_ (some 101) rfl rfl Try.func28 (by kernel_rfl) rfl #[.int .i64 a0, .int .i64 a1] rfl (by (try simp only [List.map_toArray, List.map_cons, List.map_nil]); first | done | rfl | (simp only [List.length_drop, List.length_take]; rfl)) ?_; (with_reducible refine (residue_SquareRoot.calls kj9 a0 a1 t120 t121 _ A31.out).mono ?_); rintro e w38 ⟨rfl, hb⟩; refine ⟨_, rfl, ?_⟩; have n0_ := Aside0.mk (below_step (by repeat (first | (with_reducible first | exact HB.out | apply below_alloc | apply pw_below_drewN | apply below_drew1) | exact HB.out)) hb); clear HB; have HB := n0_; clear n0_; (try clear hb); (try clear hb2); (try clear hk); (try clear hi)) | ((with_reducible refine gate_callee (f := 32) rfl ?_); refine goesL_ (some 112) rfl rfl Try.func32 (by kernel_rfl) rfl #[.int .i64 a0, .int .i64 a1] rfl (by (try simp only [List.map_toArray, List.map_cons, List.map_nil]); first | done | rfl | (simp only [List.length_drop, List.length_take]; rfl)) ?_; (with_reducible refine (galoisref04_SquareRoot.calls kj9 a0 a1 t123 false _ A33.out).mono ?_); rintro e w' ⟨rfl, ⟨nd, rfl⟩⟩; refine ⟨_, rfl, ?_⟩) | ((with_reducible refine gate_callee (f := 18) rfl ?_); refine goesL_ (some 119) rfl rfl Try.func18 (by kernel_rfl) rfl #[.int .i64 t120, .int .i64 t121, .int .i64 0, .int .i64 26] rfl (by (try simp only [List.map_toArray, List.map_cons, List.map_nil]); first | done | rfl | (simp only [List.length_drop, List.length_take]; rfl)) ?_; (with_reducible refine (galoislaw04_is.calls t120 t121 0 26 t126 _ A37.out).mono ?_); rintro e w' ⟨rfl, ⟨nd, rfl⟩⟩; refine ⟨_, rfl, ?_⟩))
                go_ret
                exact ⟨by first | rfl | (simp [errW_none, errW_some] <;> rfl) | (simp [*, errW_none, errW_some] <;> rfl), by repeat (first | (with_reducible first | exact HB.out | apply below_alloc | apply pw_below_drewN | apply below_drew1) | exact HB.out)⟩
            · replace c32 := Bool.eq_false_iff.mpr c32
              subst c32
              have H1 : ((galoislaw04_is.f t120 t121 0 7).bind fun t122 => (some t122)) = some r := by rw [if_neg (show ¬ (false = true) by decide)] at H; exact H
              clear H
              have H := H1
              clear H1
              replace H := Option.bind_eq_some_iff.mp H
              obtain ⟨t122, A390, H⟩ := H
              replace H : (some t122) = some r := H
              have A39 := Aside0.mk A390
              clear A390
              obtain rfl := Option.some.inj H
              go_wp2_with (first | ((with_reducible refine gate_callee (f := 28) rfl ?_); refine goesL_ (some 101) rfl rfl Try.func28 (by kernel_rfl) rfl #[.int .i64 a0, .int .i64 a1] rfl (by (try simp only [List.map_toArray, List.map_cons, List.map_nil]); first | done | rfl | (simp only [List.length_drop, List.length_take]; rfl)) ?_; (with_reducible refine (residue_SquareRoot.calls kj9 a0 a1 t120 t121 _ A31.out).mono ?_); rintro e w40 ⟨rfl, hb⟩; refine ⟨_, rfl, ?_⟩; have n0_ := Aside0.mk (below_step (by repeat (first | (with_reducible first | exact HB.out | apply below_alloc | apply pw_below_drewN | apply below_drew1) | exact HB.out)) hb); clear HB; have HB := n0_; clear n0_; (try clear hb); (try clear hb2); (try clear hk); (try clear hi)) | ((with_reducible refine gate_callee (f := 18) rfl ?_); refine goesL_ (some 108) rfl rfl Try.func18 (by kernel_rfl) rfl #[.int .i64 t120, .int .i64 t121, .int .i64 0, .int .i64 7] rfl (by (try simp only [List.map_toArray, List.map_cons, List.map_nil]); first | done | rfl | (simp only [List.length_drop, List.length_take]; rfl)) ?_; (with_reducible refine (galoislaw04_is.calls t120 t121 0 7 t122 _ A39.out).mono ?_); rintro e w' ⟨rfl, ⟨nd, rfl⟩⟩; refine ⟨_, rfl, ?_⟩))
              go_ret
              exact ⟨by first | rfl | (simp [errW_none, errW_some] <;> rfl) | (simp [*, errW_none, errW_some] <;> rfl), by repeat (first | (with_reducible first | exact HB.out | apply below_alloc | apply pw_below_drewN | apply below_drew1) | exact HB.out)⟩
    · replace c8 := Bool.eq_false_iff.mpr c8
      subst c8
      have H1 : ((residue_SquareRoot.f k a0 a1).bind fun bt107 => ((galoislaw04_is.f t102 t103 0 3).bind fun t109 => (if t109 = true then ((galoislaw04_is.f t104 t105 0 3).bind fun t110 => (if t110 = true then ((galoislaw04_is.f bt107.1 bt107.2 0 3).bind fun t111 => (some t111)) else (none))) else (none)))) = some r := by rw [if_neg (show ¬ (false = true) by decide)] at H; exact H
      clear H
      have H := H1
      clear H1
      replace H := Option.bind_eq_some_iff.mp H
      obtain ⟨⟨t107, t108⟩, A410, H⟩ := H
      replace H : ((galoislaw04_is.f t102 t103 0 3).bind fun t109 => (if t109 = true then ((galoislaw04_is.f t104 t105 0 3).bind fun t110 => (if t110 = true then ((galoislaw04_is.f t107 t108 0 3).bind fun t111 => (some t111)) else (none))) else (none))) = some r := H
      have A41 := Aside0.mk A410
      clear A410
      replace H := Option.bind_eq_some_iff.mp H
      obtain ⟨t109, A420, H⟩ := H
      replace H : (if t109 = true then ((galoislaw04_is.f t104 t105 0 3).bind fun t110 => (if t110 = true then ((galoislaw04_is.f t107 t108 0 3).bind fun t111 => (some t111)) else (none))) else (none)) = some r := H
      have A42 := Aside0.mk A420
      clear A420
      by_cases c43 : t109 = true
      · subst c43
        have H1 : ((galoislaw04_is.f t104 t105 0 3).bind fun t110 => (if t110 = true then ((galoislaw04_is.f t107 t108 0 3).bind fun t111 => (some t111)) else (none))) = some r := by rw [if_pos rfl] at H; exact H
        clear H
        have H := H1
        clear H1
        replace H := Option.bind_eq_some_iff.mp H
        obtain ⟨t110, A440, H⟩ := H
        replace H : (if t110 = true then ((galoislaw04_is.f t107 t108 0 3).bind fun t111 => (some t111)) else (none)) = some r := H
        have A44 := Aside0.mk A440
        clear A440
        by_cases c45 : t110 = true
        · subst c45
          have H1 : ((galoislaw04_is.f t107 t108 0 3).bind fun t111 => (some t111)) = some r := by rw [if_pos rfl] at H; exact H
          clear H
          have H := H1
          clear H1
          replace H := Option.bind_eq_some_iff.mp H
          obtain ⟨t111, A460, H⟩ := H
          replace H : (some t111) = some r := H
          have A46 := Aside0.mk A460
          clear A460
          obtain rfl := Option.some.inj H
          go_enter Try.func7, Try.ntmps7
          go_wp2_with (first | ((with_reducible refine gate_callee (f := 14) rfl ?_); refine goesL_ (some 16) rfl rfl Try.func14 (by kernel_rfl) rfl #[] rfl (by (try simp only [List.map_toArray, List.map_cons, List.map_nil]); first | done | rfl | (simp only [List.length_drop, List.length_take]; rfl)) ?_; (with_reducible refine (galoislaw04_awake.calls k  true _ A3.out).mono ?_); rintro e w47 ⟨rfl, hb⟩; refine ⟨_, rfl, ?_⟩; have n0_ := Aside0.mk (below_step (by repeat (first | (with_reducible first | exact HB.out | apply below_alloc | apply pw_below_drewN | apply below_drew1) | exact HB.out)) hb); clear HB; have HB := n0_; clear n0_; (try clear hb); (try clear hb2); (try clear hk); (try clear hi)) | ((with_reducible refine gate_callee (f := 27) rfl ?_); refine goesL_ (some 21) rfl rfl Try.func27 (by kernel_rfl) rfl #[.int .i64 a0, .int .i64 a1] rfl (by (try simp only [List.map_toArray, List.map_cons, List.map_nil]); first | done | rfl | (simp only [List.length_drop, List.length_take]; rfl)) ?_; (with_reducible refine (residue_Legendre.calls k a0 a1 t102 t103 _ A5.out).mono ?_); rintro e w48 ⟨rfl, hb⟩; refine ⟨_, rfl, ?_⟩; have n0_ := Aside0.mk (below_step (by repeat (first | (with_reducible first | exact HB.out | apply below_alloc | apply pw_below_drewN | apply below_drew1) | exact HB.out)) hb); clear HB; have HB := n0_; clear n0_; (try clear hb); (try clear hb2); (try clear hk); (try clear hi)) | ((with_reducible refine gate_callee (f := 25) rfl ?_); refine goesL_ (some 27) rfl rfl Try.func25 (by kernel_rfl) rfl #[.int .i64 a0, .int .i64 a1] rfl (by (try simp only [List.map_toArray, List.map_cons, List.map_nil]); first | done | rfl | (simp only [List.length_drop, List.length_take]; rfl)) ?_; (with_reducible refine (residue_Jacobi.calls k a0 a1 t104 t105 _ A6.out).mono ?_); rintro e w49 ⟨rfl, hb⟩; refine ⟨_, rfl, ?_⟩; have n0_ := Aside0.mk (below_step (by repeat (first | (with_reducible first | exact HB.out | apply below_alloc | apply pw_below_drewN | apply below_drew1) | exact HB.out)) hb); clear HB; have HB := n0_; clear n0_; (try clear hb); (try clear hb2); (try clear hk); (try clear hi)) | ((with_reducible refine gate_callee (f := 15) rfl ?_); refine goesL_ (some 31) rfl rfl Try.func15 (by kernel_rfl) rfl #[.int .i64 a1] rfl (by (try simp only [List.map_toArray, List.map_cons, List.map_nil]); first | done | rfl | (simp only [List.length_drop, List.length_take]; rfl)) ?_; (with_reducible refine (galoisref04_IsModulus.calls a1 false _ A7.out).mono ?_); rintro e w' ⟨rfl, ⟨nd, rfl⟩⟩; refine ⟨_, rfl, ?_⟩) | ((with_reducible refine gate_callee (f := 28) rfl ?_); refine goesL_ (some 36) rfl rfl Try.func28 (by kernel_rfl) rfl #[.int .i64 a0, .int .i64 a1] rfl (by (try simp only [List.map_toArray, List.map_cons, List.map_nil]); first | done | rfl | (simp only [List.length_drop, List.length_take]; rfl)) ?_; (with_reducible refine (residue_SquareRoot.calls k a0 a1 t107 t108 _ A41.out).mono ?_); rintro e w50 ⟨rfl, hb⟩; refine ⟨_, rfl, ?_⟩; have n0_ := Aside0.mk (below_step (by repeat (first | (with_reducible first | exact HB.out | apply below_alloc | apply pw_below_drewN | apply below_drew1) | exact HB.out)) hb); clear HB; have HB := n0_; clear n0_; (try clear hb); (try clear hb2); (try clear hk); (try clear hi)) | ((with_reducible refine gate_callee (f := 18) rfl ?_); refine goesL_ (some 41) rfl rfl Try.func18 (by kernel_rfl) rfl #[.int .i64 t102, .int .i64 t103, .int .i64 0, .int .i64 3] rfl (by (try simp only [List.map_toArray, List.map_cons, List.map_nil]); first | done | rfl | (simp only [List.length_drop, List.length_take]; rfl)) ?_; (with_reducible refine (galoislaw04_is.calls t102 t103 0 3 true _ A42.out).mono ?_); rintro e w' ⟨rfl, ⟨nd, rfl⟩⟩; refine ⟨_, rfl, ?_⟩) | (go_at_call 18; (with_reducible refine (galoislaw04_is.calls t104 t105 0 3 true _ A44.out).mono ?_); rintro e w' ⟨rfl, ⟨nd, rfl⟩⟩) | (go_at_call 18; (with_reducible refine (galoislaw04_is.calls t107 t108 0 3 t111 _ A46.out).mono ?_); rintro e w' ⟨rfl, ⟨nd, rfl⟩⟩))
          go_ret
          exact ⟨by first | rfl | (simp [errW_none, errW_some] <;> rfl) | (simp [*, errW_none, errW_some] <;> rfl), by repeat (first | (with_reducible first | exact HB.out | apply below_alloc | apply pw_below_drewN | apply below_drew1) | exact HB.out)⟩
        · replace c45 := Bool.eq_false_iff.mpr c45
          subst c45
          have H1 : (none) = some r := by rw [if_neg (show ¬ (false = true) by decide)] at H; exact H
          clear H
          have H := H1
          clear H1
          exact absurd H (by simp)
      · replace c43 := Bool.eq_false_iff.mpr c43
        subst c43
        have H1 : (none) = some r := by rw [if_neg (show ¬ (false = true) by decide)] at H; exact H
        clear H
        have H := H1
        clear H1
        exact absurd H (by simp)
  · replace c4 := Bool.eq_false_iff.mpr c4
    subst c4
    have H1 : (none) = some r := by rw [if_neg (show ¬ (false = true) by decide)] at H; exact H
    clear H
    have H := H1
    clear H1
    exact absurd H (by simp)

/-- THE ONE PURE STATEMENT of galoislaw04_ResidueSymbols: yours. -/
def galoislaw04_ResidueSymbols.Pure : Prop := ∀ (a0 : Int) (a1 : Int), (Lit.int .i64 a0).wf = true → (Lit.int .i64 a1).wf = true → ∃ k, galoislaw04_ResidueSymbols.f k a0 a1 = some true
theorem galoislaw04_ResidueSymbols.walk (P : galoislaw04_ResidueSymbols.Pure) (a0 : Int) (a1 : Int) (w : World) (w0 : (Lit.int .i64 a0).wf = true) (w1 : (Lit.int .i64 a1).wf = true) :
    Calls Try.prog 7 #[.int .i64 a0, .int .i64 a1] w fun e w' => e = .returned (.bool true) ∧ Below w.heap.size w w' := by
  obtain ⟨k, h⟩ := P a0 a1 w0 w1
  refine (galoislaw04_ResidueSymbols.calls k a0 a1 true w h).mono ?_
  rintro e w' ⟨rfl, hd⟩
  exact ⟨rfl, hd⟩

end Go.Proofs.Ytmedflaejnbkoaa.Q

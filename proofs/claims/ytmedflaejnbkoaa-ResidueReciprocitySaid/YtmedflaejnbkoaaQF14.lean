/- Machine side: a program of the session wrote this text (the kit's print.py and the session's own contracts). Conditions: none of its own. -/
import Derived.Test.YtmedflaejnbkoaaQ0
import Derived.Test.YtmedflaejnbkoaaQF16
import Derived.Test.YtmedflaejnbkoaaQF17
import Derived.Test.YtmedflaejnbkoaaQF22
import Derived.Test.YtmedflaejnbkoaaQF25
import Derived.Test.YtmedflaejnbkoaaQF28
import Derived.Test.YtmedflaejnbkoaaQF37
import Derived.Test.YtmedflaejnbkoaaQF38
import Derived.Test.YtmedflaejnbkoaaQF48
namespace Go.Proofs.Ytmedflaejnbkoaa.Q
open Go.RowKit Go.Proofs.YtmedflaejnbkoaaW.PrintWords Go.Proofs.YtmedflaejnbkoaaW.PrintLast Go.Proofs.YtmedflaejnbkoaaW.PrintMore
attribute [local go_sem] max2_int min2_int max_two min_two max_three min_three max_four min_four   -- for this text's walks alone
set_option linter.unusedVariables false
set_option linter.unusedSimpArgs false

/-! ### galoislaw04_awake: function 14 -/
def galoislaw04_awake.f (k : Nat)  : Option (Bool) := (residue_Factor.f k 360).bind fun bt101 => ((residue_Totient.f k 36).bind fun bt105 => ((residue_Order.f k 2 7).bind fun bt107 => ((residue_PrimitiveRoot.f k 7).bind fun bt109 => ((residue_Jacobi.f k 2 15).bind fun bt111 => ((residue_SquareRoot.f k 2 7).bind fun bt113 => ((residue_Chinese.f k (([2, 3] : List Int)) (([3, 5] : List Int))).bind fun bt121 => ((residue_PrimitiveRoot.f k 8).bind fun bt124 => (if bt101.2 = 0 then (if bt105.2 = 0 then (if bt107.2 = 0 then (if bt109.2 = 0 then (if bt111.2 = 0 then (if bt113.2 = 0 then (if bt121.2.2 = 0 then (if bt124.2 = 10 then ((galoislaw04_samePowers.f k bt101.1 (([(⟨2, 3⟩ : S53), (⟨3, 2⟩ : S53), (⟨5, 1⟩ : S53)] : List (S53)))).bind fun t129 => (if t129 = true then (if bt105.1 = 12 then (if bt107.1 = 3 then (if bt109.1 = 3 then (if bt111.1 = 1 then (if bt113.1 = 3 then (if bt121.1 = 8 then (some (bt121.2.1 == 15)) else (none)) else (none)) else (none)) else (none)) else (none)) else (none)) else (none))) else (none)) else (none)) else (none)) else (none)) else (none)) else (none)) else (none)) else (none)))))))))
theorem galoislaw04_awake.mono : ∀ k, LeO (galoislaw04_awake.f k ) (galoislaw04_awake.f (k + 1) ) := by
  intro  k
  unfold galoislaw04_awake.f
  repeat' first
      | (with_reducible exact galoislaw04_samePowers.mono _ _ _)
      | (with_reducible exact residue_Chinese.mono _ _ _)
      | (with_reducible exact residue_Factor.mono _ _)
      | (with_reducible exact residue_Jacobi.mono _ _ _)
      | (with_reducible exact residue_Order.mono _ _ _)
      | (with_reducible exact residue_PrimitiveRoot.mono _ _)
      | (with_reducible exact residue_SquareRoot.mono _ _ _)
      | (with_reducible exact residue_Totient.mono _ _)
      | (with_reducible exact LeO.refl _)
      | (with_reducible exact LeO.none _)
      | (with_reducible refine LeO.ite ?_ ?_)
      | (with_reducible refine LeO.bind ?_ (fun _ => ?_))
      | exact galoislaw04_samePowers.mono _ _ _
      | exact residue_Chinese.mono _ _ _
      | exact residue_Factor.mono _ _
      | exact residue_Jacobi.mono _ _ _
      | exact residue_Order.mono _ _ _
      | exact residue_PrimitiveRoot.mono _ _
      | exact residue_SquareRoot.mono _ _ _
      | exact residue_Totient.mono _ _
      | exact LeO.none _
      | refine LeO.ite ?_ ?_
      | refine LeO.bind ?_ (fun _ => ?_)
set_option maxHeartbeats 8000000 in
set_option maxRecDepth 100000 in
theorem galoislaw04_awake.calls (k : Nat)  (r : Bool) (w : World) (h : galoislaw04_awake.f k  = some r) :
    Calls Try.prog 14 #[] w fun e w' => e = .returned (.bool r) ∧ Below w.heap.size w w' := by
  have hu53 := Try.underlying53
  have HB := Aside0.mk (Below.refl w.heap.size w)
  have H : ((residue_Factor.f k 360).bind fun bt101 => ((residue_Totient.f k 36).bind fun bt105 => ((residue_Order.f k 2 7).bind fun bt107 => ((residue_PrimitiveRoot.f k 7).bind fun bt109 => ((residue_Jacobi.f k 2 15).bind fun bt111 => ((residue_SquareRoot.f k 2 7).bind fun bt113 => ((residue_Chinese.f k (([2, 3] : List Int)) (([3, 5] : List Int))).bind fun bt121 => ((residue_PrimitiveRoot.f k 8).bind fun bt124 => (if bt101.2 = 0 then (if bt105.2 = 0 then (if bt107.2 = 0 then (if bt109.2 = 0 then (if bt111.2 = 0 then (if bt113.2 = 0 then (if bt121.2.2 = 0 then (if bt124.2 = 10 then ((galoislaw04_samePowers.f k bt101.1 (([(⟨2, 3⟩ : S53), (⟨3, 2⟩ : S53), (⟨5, 1⟩ : S53)] : List (S53)))).bind fun t129 => (if t129 = true then (if bt105.1 = 12 then (if bt107.1 = 3 then (if bt109.1 = 3 then (if bt111.1 = 1 then (if bt113.1 = 3 then (if bt121.1 = 8 then (some (bt121.2.1 == 15)) else (none)) else (none)) else (none)) else (none)) else (none)) else (none)) else (none))) else (none)) else (none)) else (none)) else (none)) else (none)) else (none)) else (none)) else (none)))))))))) = some r := h
  clear h
  replace H := Option.bind_eq_some_iff.mp H
  obtain ⟨⟨t101, t102⟩, A10, H⟩ := H
  replace H : ((residue_Totient.f k 36).bind fun bt105 => ((residue_Order.f k 2 7).bind fun bt107 => ((residue_PrimitiveRoot.f k 7).bind fun bt109 => ((residue_Jacobi.f k 2 15).bind fun bt111 => ((residue_SquareRoot.f k 2 7).bind fun bt113 => ((residue_Chinese.f k (([2, 3] : List Int)) (([3, 5] : List Int))).bind fun bt121 => ((residue_PrimitiveRoot.f k 8).bind fun bt124 => (if t102 = 0 then (if bt105.2 = 0 then (if bt107.2 = 0 then (if bt109.2 = 0 then (if bt111.2 = 0 then (if bt113.2 = 0 then (if bt121.2.2 = 0 then (if bt124.2 = 10 then ((galoislaw04_samePowers.f k t101 (([(⟨2, 3⟩ : S53), (⟨3, 2⟩ : S53), (⟨5, 1⟩ : S53)] : List (S53)))).bind fun t129 => (if t129 = true then (if bt105.1 = 12 then (if bt107.1 = 3 then (if bt109.1 = 3 then (if bt111.1 = 1 then (if bt113.1 = 3 then (if bt121.1 = 8 then (some (bt121.2.1 == 15)) else (none)) else (none)) else (none)) else (none)) else (none)) else (none)) else (none))) else (none)) else (none)) else (none)) else (none)) else (none)) else (none)) else (none)) else (none))))))))) = some r := H
  have A1 := Aside0.mk A10
  clear A10
  replace H := Option.bind_eq_some_iff.mp H
  obtain ⟨⟨t105, t106⟩, A20, H⟩ := H
  replace H : ((residue_Order.f k 2 7).bind fun bt107 => ((residue_PrimitiveRoot.f k 7).bind fun bt109 => ((residue_Jacobi.f k 2 15).bind fun bt111 => ((residue_SquareRoot.f k 2 7).bind fun bt113 => ((residue_Chinese.f k (([2, 3] : List Int)) (([3, 5] : List Int))).bind fun bt121 => ((residue_PrimitiveRoot.f k 8).bind fun bt124 => (if t102 = 0 then (if t106 = 0 then (if bt107.2 = 0 then (if bt109.2 = 0 then (if bt111.2 = 0 then (if bt113.2 = 0 then (if bt121.2.2 = 0 then (if bt124.2 = 10 then ((galoislaw04_samePowers.f k t101 (([(⟨2, 3⟩ : S53), (⟨3, 2⟩ : S53), (⟨5, 1⟩ : S53)] : List (S53)))).bind fun t129 => (if t129 = true then (if t105 = 12 then (if bt107.1 = 3 then (if bt109.1 = 3 then (if bt111.1 = 1 then (if bt113.1 = 3 then (if bt121.1 = 8 then (some (bt121.2.1 == 15)) else (none)) else (none)) else (none)) else (none)) else (none)) else (none)) else (none))) else (none)) else (none)) else (none)) else (none)) else (none)) else (none)) else (none)) else (none)))))))) = some r := H
  have A2 := Aside0.mk A20
  clear A20
  replace H := Option.bind_eq_some_iff.mp H
  obtain ⟨⟨t107, t108⟩, A30, H⟩ := H
  replace H : ((residue_PrimitiveRoot.f k 7).bind fun bt109 => ((residue_Jacobi.f k 2 15).bind fun bt111 => ((residue_SquareRoot.f k 2 7).bind fun bt113 => ((residue_Chinese.f k (([2, 3] : List Int)) (([3, 5] : List Int))).bind fun bt121 => ((residue_PrimitiveRoot.f k 8).bind fun bt124 => (if t102 = 0 then (if t106 = 0 then (if t108 = 0 then (if bt109.2 = 0 then (if bt111.2 = 0 then (if bt113.2 = 0 then (if bt121.2.2 = 0 then (if bt124.2 = 10 then ((galoislaw04_samePowers.f k t101 (([(⟨2, 3⟩ : S53), (⟨3, 2⟩ : S53), (⟨5, 1⟩ : S53)] : List (S53)))).bind fun t129 => (if t129 = true then (if t105 = 12 then (if t107 = 3 then (if bt109.1 = 3 then (if bt111.1 = 1 then (if bt113.1 = 3 then (if bt121.1 = 8 then (some (bt121.2.1 == 15)) else (none)) else (none)) else (none)) else (none)) else (none)) else (none)) else (none))) else (none)) else (none)) else (none)) else (none)) else (none)) else (none)) else (none)) else (none))))))) = some r := H
  have A3 := Aside0.mk A30
  clear A30
  replace H := Option.bind_eq_some_iff.mp H
  obtain ⟨⟨t109, t110⟩, A40, H⟩ := H
  replace H : ((residue_Jacobi.f k 2 15).bind fun bt111 => ((residue_SquareRoot.f k 2 7).bind fun bt113 => ((residue_Chinese.f k (([2, 3] : List Int)) (([3, 5] : List Int))).bind fun bt121 => ((residue_PrimitiveRoot.f k 8).bind fun bt124 => (if t102 = 0 then (if t106 = 0 then (if t108 = 0 then (if t110 = 0 then (if bt111.2 = 0 then (if bt113.2 = 0 then (if bt121.2.2 = 0 then (if bt124.2 = 10 then ((galoislaw04_samePowers.f k t101 (([(⟨2, 3⟩ : S53), (⟨3, 2⟩ : S53), (⟨5, 1⟩ : S53)] : List (S53)))).bind fun t129 => (if t129 = true then (if t105 = 12 then (if t107 = 3 then (if t109 = 3 then (if bt111.1 = 1 then (if bt113.1 = 3 then (if bt121.1 = 8 then (some (bt121.2.1 == 15)) else (none)) else (none)) else (none)) else (none)) else (none)) else (none)) else (none))) else (none)) else (none)) else (none)) else (none)) else (none)) else (none)) else (none)) else (none)))))) = some r := H
  have A4 := Aside0.mk A40
  clear A40
  replace H := Option.bind_eq_some_iff.mp H
  obtain ⟨⟨t111, t112⟩, A50, H⟩ := H
  replace H : ((residue_SquareRoot.f k 2 7).bind fun bt113 => ((residue_Chinese.f k (([2, 3] : List Int)) (([3, 5] : List Int))).bind fun bt121 => ((residue_PrimitiveRoot.f k 8).bind fun bt124 => (if t102 = 0 then (if t106 = 0 then (if t108 = 0 then (if t110 = 0 then (if t112 = 0 then (if bt113.2 = 0 then (if bt121.2.2 = 0 then (if bt124.2 = 10 then ((galoislaw04_samePowers.f k t101 (([(⟨2, 3⟩ : S53), (⟨3, 2⟩ : S53), (⟨5, 1⟩ : S53)] : List (S53)))).bind fun t129 => (if t129 = true then (if t105 = 12 then (if t107 = 3 then (if t109 = 3 then (if t111 = 1 then (if bt113.1 = 3 then (if bt121.1 = 8 then (some (bt121.2.1 == 15)) else (none)) else (none)) else (none)) else (none)) else (none)) else (none)) else (none))) else (none)) else (none)) else (none)) else (none)) else (none)) else (none)) else (none)) else (none))))) = some r := H
  have A5 := Aside0.mk A50
  clear A50
  replace H := Option.bind_eq_some_iff.mp H
  obtain ⟨⟨t113, t114⟩, A60, H⟩ := H
  replace H : ((residue_Chinese.f k (([2, 3] : List Int)) (([3, 5] : List Int))).bind fun bt121 => ((residue_PrimitiveRoot.f k 8).bind fun bt124 => (if t102 = 0 then (if t106 = 0 then (if t108 = 0 then (if t110 = 0 then (if t112 = 0 then (if t114 = 0 then (if bt121.2.2 = 0 then (if bt124.2 = 10 then ((galoislaw04_samePowers.f k t101 (([(⟨2, 3⟩ : S53), (⟨3, 2⟩ : S53), (⟨5, 1⟩ : S53)] : List (S53)))).bind fun t129 => (if t129 = true then (if t105 = 12 then (if t107 = 3 then (if t109 = 3 then (if t111 = 1 then (if t113 = 3 then (if bt121.1 = 8 then (some (bt121.2.1 == 15)) else (none)) else (none)) else (none)) else (none)) else (none)) else (none)) else (none))) else (none)) else (none)) else (none)) else (none)) else (none)) else (none)) else (none)) else (none)))) = some r := H
  have A6 := Aside0.mk A60
  clear A60
  obtain ⟨y115, hy115⟩ : ∃ y_ : List Int, y_ = (([2, 3] : List Int)) := ⟨_, rfl⟩
  replace H : ((residue_Chinese.f k y115 (([3, 5] : List Int))).bind fun bt121 => ((residue_PrimitiveRoot.f k 8).bind fun bt124 => (if t102 = 0 then (if t106 = 0 then (if t108 = 0 then (if t110 = 0 then (if t112 = 0 then (if t114 = 0 then (if bt121.2.2 = 0 then (if bt124.2 = 10 then ((galoislaw04_samePowers.f k t101 (([(⟨2, 3⟩ : S53), (⟨3, 2⟩ : S53), (⟨5, 1⟩ : S53)] : List (S53)))).bind fun t129 => (if t129 = true then (if t105 = 12 then (if t107 = 3 then (if t109 = 3 then (if t111 = 1 then (if t113 = 3 then (if bt121.1 = 8 then (some (bt121.2.1 == 15)) else (none)) else (none)) else (none)) else (none)) else (none)) else (none)) else (none))) else (none)) else (none)) else (none)) else (none)) else (none)) else (none)) else (none)) else (none)))) = some r := by first | (rw [hy115]; with_reducible exact H) | (have H2_ := (Option.bind_some _ _).symm.trans H; rw [hy115]; with_reducible exact H2_) | (have H2_ := (Option.bind_some _ _).symm.trans H; with_reducible exact H2_) | with_reducible exact H | (rw [hy115]; exact H) | exact H
  have Ny115 := Aside0.mk hy115
  clear hy115
  obtain ⟨y118, hy118⟩ : ∃ y_ : List Int, y_ = (([3, 5] : List Int)) := ⟨_, rfl⟩
  replace H : ((residue_Chinese.f k y115 y118).bind fun bt121 => ((residue_PrimitiveRoot.f k 8).bind fun bt124 => (if t102 = 0 then (if t106 = 0 then (if t108 = 0 then (if t110 = 0 then (if t112 = 0 then (if t114 = 0 then (if bt121.2.2 = 0 then (if bt124.2 = 10 then ((galoislaw04_samePowers.f k t101 (([(⟨2, 3⟩ : S53), (⟨3, 2⟩ : S53), (⟨5, 1⟩ : S53)] : List (S53)))).bind fun t129 => (if t129 = true then (if t105 = 12 then (if t107 = 3 then (if t109 = 3 then (if t111 = 1 then (if t113 = 3 then (if bt121.1 = 8 then (some (bt121.2.1 == 15)) else (none)) else (none)) else (none)) else (none)) else (none)) else (none)) else (none))) else (none)) else (none)) else (none)) else (none)) else (none)) else (none)) else (none)) else (none)))) = some r := by first | (rw [hy118]; with_reducible exact H) | (have H2_ := (Option.bind_some _ _).symm.trans H; rw [hy118]; with_reducible exact H2_) | (have H2_ := (Option.bind_some _ _).symm.trans H; with_reducible exact H2_) | with_reducible exact H | (rw [hy118]; exact H) | exact H
  have Ny118 := Aside0.mk hy118
  clear hy118
  replace H := Option.bind_eq_some_iff.mp H
  obtain ⟨⟨t121, t122, t123⟩, A70, H⟩ := H
  replace H : ((residue_PrimitiveRoot.f k 8).bind fun bt124 => (if t102 = 0 then (if t106 = 0 then (if t108 = 0 then (if t110 = 0 then (if t112 = 0 then (if t114 = 0 then (if t123 = 0 then (if bt124.2 = 10 then ((galoislaw04_samePowers.f k t101 (([(⟨2, 3⟩ : S53), (⟨3, 2⟩ : S53), (⟨5, 1⟩ : S53)] : List (S53)))).bind fun t129 => (if t129 = true then (if t105 = 12 then (if t107 = 3 then (if t109 = 3 then (if t111 = 1 then (if t113 = 3 then (if t121 = 8 then (some (t122 == 15)) else (none)) else (none)) else (none)) else (none)) else (none)) else (none)) else (none))) else (none)) else (none)) else (none)) else (none)) else (none)) else (none)) else (none)) else (none))) = some r := H
  have A7 := Aside0.mk A70
  clear A70
  replace H := Option.bind_eq_some_iff.mp H
  obtain ⟨⟨t124, t125⟩, A80, H⟩ := H
  replace H : (if t102 = 0 then (if t106 = 0 then (if t108 = 0 then (if t110 = 0 then (if t112 = 0 then (if t114 = 0 then (if t123 = 0 then (if t125 = 10 then ((galoislaw04_samePowers.f k t101 (([(⟨2, 3⟩ : S53), (⟨3, 2⟩ : S53), (⟨5, 1⟩ : S53)] : List (S53)))).bind fun t129 => (if t129 = true then (if t105 = 12 then (if t107 = 3 then (if t109 = 3 then (if t111 = 1 then (if t113 = 3 then (if t121 = 8 then (some (t122 == 15)) else (none)) else (none)) else (none)) else (none)) else (none)) else (none)) else (none))) else (none)) else (none)) else (none)) else (none)) else (none)) else (none)) else (none)) else (none)) = some r := H
  have A8 := Aside0.mk A80
  clear A80
  by_cases c9 : t102 = 0
  · rw [if_pos c9] at H
    have c9b0 : (t102 == 0) = true := beq_iff_eq.mpr c9
    have c9b1 : (t102 != 0) = false := bne_eq_false_iff_eq.mpr c9
    clear c9
    by_cases c10 : t106 = 0
    · rw [if_pos c10] at H
      have c10b0 : (t106 == 0) = true := beq_iff_eq.mpr c10
      have c10b1 : (t106 != 0) = false := bne_eq_false_iff_eq.mpr c10
      clear c10
      by_cases c11 : t108 = 0
      · rw [if_pos c11] at H
        have c11b0 : (t108 == 0) = true := beq_iff_eq.mpr c11
        have c11b1 : (t108 != 0) = false := bne_eq_false_iff_eq.mpr c11
        clear c11
        by_cases c12 : t110 = 0
        · rw [if_pos c12] at H
          have c12b0 : (t110 == 0) = true := beq_iff_eq.mpr c12
          have c12b1 : (t110 != 0) = false := bne_eq_false_iff_eq.mpr c12
          clear c12
          by_cases c13 : t112 = 0
          · rw [if_pos c13] at H
            have c13b0 : (t112 == 0) = true := beq_iff_eq.mpr c13
            have c13b1 : (t112 != 0) = false := bne_eq_false_iff_eq.mpr c13
            clear c13
            by_cases c14 : t114 = 0
            · rw [if_pos c14] at H
              have c14b0 : (t114 == 0) = true := beq_iff_eq.mpr c14
              have c14b1 : (t114 != 0) = false := bne_eq_false_iff_eq.mpr c14
              clear c14
              by_cases c15 : t123 = 0
              · rw [if_pos c15] at H
                have c15b0 : (t123 == 0) = true := beq_iff_eq.mpr c15
                have c15b1 : (t123 != 0) = false := bne_eq_false_iff_eq.mpr c15
                clear c15
                by_cases c16 : t125 = 10
                · rw [if_pos c16] at H
                  have c16b0 : (t125 == 10) = true := beq_iff_eq.mpr c16
                  have c16b1 : (t125 != 10) = false := bne_eq_false_iff_eq.mpr c16
                  clear c16
                  obtain ⟨y126, hy126⟩ : ∃ y_ : List (S53), y_ = (([(⟨2, 3⟩ : S53), (⟨3, 2⟩ : S53), (⟨5, 1⟩ : S53)] : List (S53))) := ⟨_, rfl⟩
                  replace H : ((galoislaw04_samePowers.f k t101 y126).bind fun t129 => (if t129 = true then (if t105 = 12 then (if t107 = 3 then (if t109 = 3 then (if t111 = 1 then (if t113 = 3 then (if t121 = 8 then (some (t122 == 15)) else (none)) else (none)) else (none)) else (none)) else (none)) else (none)) else (none))) = some r := by first | (rw [hy126]; with_reducible exact H) | (have H2_ := (Option.bind_some _ _).symm.trans H; rw [hy126]; with_reducible exact H2_) | (have H2_ := (Option.bind_some _ _).symm.trans H; with_reducible exact H2_) | with_reducible exact H | (rw [hy126]; exact H) | exact H
                  have Ny126 := Aside0.mk hy126
                  clear hy126
                  replace H := Option.bind_eq_some_iff.mp H
                  obtain ⟨t129, A170, H⟩ := H
                  replace H : (if t129 = true then (if t105 = 12 then (if t107 = 3 then (if t109 = 3 then (if t111 = 1 then (if t113 = 3 then (if t121 = 8 then (some (t122 == 15)) else (none)) else (none)) else (none)) else (none)) else (none)) else (none)) else (none)) = some r := H
                  have A17 := Aside0.mk A170
                  clear A170
                  by_cases c18 : t129 = true
                  · subst c18
                    have H1 : (if t105 = 12 then (if t107 = 3 then (if t109 = 3 then (if t111 = 1 then (if t113 = 3 then (if t121 = 8 then (some (t122 == 15)) else (none)) else (none)) else (none)) else (none)) else (none)) else (none)) = some r := by rw [if_pos rfl] at H; exact H
                    clear H
                    have H := H1
                    clear H1
                    by_cases c19 : t105 = 12
                    · rw [if_pos c19] at H
                      have c19b0 : (t105 == 12) = true := beq_iff_eq.mpr c19
                      have c19b1 : (t105 != 12) = false := bne_eq_false_iff_eq.mpr c19
                      clear c19
                      by_cases c20 : t107 = 3
                      · rw [if_pos c20] at H
                        have c20b0 : (t107 == 3) = true := beq_iff_eq.mpr c20
                        have c20b1 : (t107 != 3) = false := bne_eq_false_iff_eq.mpr c20
                        clear c20
                        by_cases c21 : t109 = 3
                        · rw [if_pos c21] at H
                          have c21b0 : (t109 == 3) = true := beq_iff_eq.mpr c21
                          have c21b1 : (t109 != 3) = false := bne_eq_false_iff_eq.mpr c21
                          clear c21
                          by_cases c22 : t111 = 1
                          · rw [if_pos c22] at H
                            have c22b0 : (t111 == 1) = true := beq_iff_eq.mpr c22
                            have c22b1 : (t111 != 1) = false := bne_eq_false_iff_eq.mpr c22
                            clear c22
                            by_cases c23 : t113 = 3
                            · rw [if_pos c23] at H
                              have c23b0 : (t113 == 3) = true := beq_iff_eq.mpr c23
                              have c23b1 : (t113 != 3) = false := bne_eq_false_iff_eq.mpr c23
                              clear c23
                              by_cases c24 : t121 = 8
                              · rw [if_pos c24] at H
                                have c24b0 : (t121 == 8) = true := beq_iff_eq.mpr c24
                                have c24b1 : (t121 != 8) = false := bne_eq_false_iff_eq.mpr c24
                                clear c24
                                obtain rfl := Option.some.inj H
                                go_enter Try.func14, Try.ntmps14
                                go_wp2_with (first | ((with_reducible refine gate_callee (f := 38) rfl ?_); refine goesL_ (some 19) rfl rfl Try.func38 (by kernel_rfl) rfl #[.int .i64 360] rfl (by (try simp only [List.map_toArray, List.map_cons, List.map_nil]); first | done | rfl | (simp only [List.length_drop, List.length_take]; rfl)) ?_; (with_reducible refine (residue_Factor.calls k 360 t101 t102 _ A1.out).mono ?_); rintro e w25 ⟨v103, rfl, ho0, hb⟩; refine ⟨_, rfl, ?_⟩; have n0_ := Aside0.mk (Kd.R_lower ho0 (below_size (by repeat (first | (with_reducible first | exact HB.out | apply below_alloc | apply pw_below_drewN | apply below_drew1) | exact HB.out)))); have n1_ := Aside0.mk (below_step (by repeat (first | (with_reducible first | exact HB.out | apply below_alloc | apply pw_below_drewN | apply below_drew1) | exact HB.out)) hb); clear HB; have HO104 := n0_; have HB := n1_; clear n0_ n1_; (try clear hb); (try clear hb2); (try clear hk); (try clear hi); (try clear ho0)) | ((with_reducible refine gate_callee (f := 37) rfl ?_); refine goesL_ (some 23) rfl rfl Try.func37 (by kernel_rfl) rfl #[.int .i64 36] rfl (by (try simp only [List.map_toArray, List.map_cons, List.map_nil]); first | done | rfl | (simp only [List.length_drop, List.length_take]; rfl)) ?_; (with_reducible refine (residue_Totient.calls k 36 t105 t106 _ A2.out).mono ?_); rintro e w26 ⟨rfl, hb⟩; refine ⟨_, rfl, ?_⟩; have n0_ := Aside0.mk (Kd.R_below (by (with_reducible repeat (first | apply Kd.R_alloc | apply Kd.R_drewN | apply Kd.R_drew)); exact HO104.out) hb); have n1_ := Aside0.mk (below_step (by repeat (first | (with_reducible first | exact HB.out | apply below_alloc | apply pw_below_drewN | apply below_drew1) | exact HB.out)) hb); clear HO104; clear HB; have HO104 := n0_; have HB := n1_; clear n0_ n1_; (try clear hb); (try clear hb2); (try clear hk); (try clear hi)) | ((with_reducible refine gate_callee (f := 16) rfl ?_); refine goesL_ (some 27) rfl rfl Try.func16 (by kernel_rfl) rfl #[.int .i64 2, .int .i64 7] rfl (by (try simp only [List.map_toArray, List.map_cons, List.map_nil]); first | done | rfl | (simp only [List.length_drop, List.length_take]; rfl)) ?_; (with_reducible refine (residue_Order.calls k 2 7 t107 t108 _ A3.out).mono ?_); rintro e w27 ⟨rfl, hb⟩; refine ⟨_, rfl, ?_⟩; have n0_ := Aside0.mk (Kd.R_below (by (with_reducible repeat (first | apply Kd.R_alloc | apply Kd.R_drewN | apply Kd.R_drew)); exact HO104.out) hb); have n1_ := Aside0.mk (below_step (by repeat (first | (with_reducible first | exact HB.out | apply below_alloc | apply pw_below_drewN | apply below_drew1) | exact HB.out)) hb); clear HO104; clear HB; have HO104 := n0_; have HB := n1_; clear n0_ n1_; (try clear hb); (try clear hb2); (try clear hk); (try clear hi)) | ((with_reducible refine gate_callee (f := 17) rfl ?_); refine goesL_ (some 31) rfl rfl Try.func17 (by kernel_rfl) rfl #[.int .i64 7] rfl (by (try simp only [List.map_toArray, List.map_cons, List.map_nil]); first | done | rfl | (simp only [List.length_drop, List.length_take]; rfl)) ?_; (with_reducible refine (residue_PrimitiveRoot.calls k 7 t109 t110 _ A4.out).mono ?_); rintro e w28 ⟨rfl, hb⟩; refine ⟨_, rfl, ?_⟩; have n0_ := Aside0.mk (Kd.R_below (by (with_reducible repeat (first | apply Kd.R_alloc | apply Kd.R_drewN | apply Kd.R_drew)); exact HO104.out) hb); have n1_ := Aside0.mk (below_step (by repeat (first | (with_reducible first | exact HB.out | apply below_alloc | apply pw_below_drewN | apply below_drew1) | exact HB.out)) hb); clear HO104; clear HB; have HO104 := n0_; have HB := n1_; clear n0_ n1_; (try clear hb); (try clear hb2); (try clear hk); (try clear hi)) | ((with_reducible refine gate_callee (f := 25) rfl ?_); refine goesL_ (some 35) rfl rfl Try.func25 (by kernel_rfl) rfl #[.int .i64 2, .int .i64 15] rfl (by (try simp only [List.map_toArray, List.map_cons, List.map_nil]); first | done | rfl | (simp only [List.length_drop, List.length_take]; rfl)) ?_; (with_reducible refine (residue_Jacobi.calls k 2 15 t111 t112 _ A5.out).mono ?_); rintro e w29 ⟨rfl, hb⟩; refine ⟨_, rfl, ?_⟩; have n0_ := Aside0.mk (Kd.R_below (by (with_reducible repeat (first | apply Kd.R_alloc | apply Kd.R_drewN | apply Kd.R_drew)); exact HO104.out) hb); have n1_ := Aside0.mk (below_step (by repeat (first | (with_reducible first | exact HB.out | apply below_alloc | apply pw_below_drewN | apply below_drew1) | exact HB.out)) hb); clear HO104; clear HB; have HO104 := n0_; have HB := n1_; clear n0_ n1_; (try clear hb); (try clear hb2); (try clear hk); (try clear hi)) | ((with_reducible refine gate_callee (f := 28) rfl ?_); refine goesL_ (some 39) rfl rfl Try.func28 (by kernel_rfl) rfl #[.int .i64 2, .int .i64 7] rfl (by (try simp only [List.map_toArray, List.map_cons, List.map_nil]); first | done | rfl | (simp only [List.length_drop, List.length_take]; rfl)) ?_; (with_reducible refine (residue_SquareRoot.calls k 2 7 t113 t114 _ A6.out).mono ?_); rintro e w30 ⟨rfl, hb⟩; refine ⟨_, rfl, ?_⟩; have n0_ := Aside0.mk (Kd.R_below (by (with_reducible repeat (first | apply Kd.R_alloc | apply Kd.R_drewN | apply Kd.R_drew)); exact HO104.out) hb); have n1_ := Aside0.mk (below_step (by repeat (first | (with_reducible first | exact HB.out | apply below_alloc | apply pw_below_drewN | apply below_drew1) | exact HB.out)) hb); clear HO104; clear HB; have HO104 := n0_; have HB := n1_; clear n0_ n1_; (try clear hb); (try clear hb2); (try clear hk); (try clear hi)) | ((with_reducible refine gate_dst (N := 43) rfl ?_); refine Kd.R_lit (Kd.int .i64) _ 3 ?hg (N := 43) ?hd (xs := ([2, 3] : List Int)) (inner := [.int .i64 2, .int .i64 3]) (ok := fun _ => True) (okp := fun _ => True) ?hr ?hp (fun _ hk => hk) trivial (Below.refl _ _) (Nat.le_refl _) (by simp) ?_; (case hd => rfl); (case hg => rfl); (case hr => first | (go_simp; done) | (go_simp; rfl)); (case hp => exact (Reps.one (show Kd.M (Kd.int .i64) _ _ _ 2 [.int .i64 2] from rfl) (Reps.one (show Kd.M (Kd.int .i64) _ _ _ 3 [.int .i64 3] from rfl) (Reps.none _ _)))); intro v116 w31 ho32 hb hg_ hnew_; clear hg_ hnew_; (first | rw [← Ny115.out] at ho32 | (simp only [Int.reduceToNat] at ho32; rw [← Ny115.out] at ho32)); have n0_ := Aside0.mk (Kd.R_below (by (with_reducible repeat (first | apply Kd.R_alloc | apply Kd.R_drewN | apply Kd.R_drew)); exact HO104.out) hb); have n1_ := Aside0.mk (Kd.R_lower ho32 (below_size (by repeat (first | (with_reducible first | exact HB.out | apply below_alloc | apply pw_below_drewN | apply below_drew1) | exact HB.out)))); have n2_ := Aside0.mk (below_step (by repeat (first | (with_reducible first | exact HB.out | apply below_alloc | apply pw_below_drewN | apply below_drew1) | exact HB.out)) hb); clear HO104; clear HB; have HO104 := n0_; have HO117 := n1_; have HB := n2_; clear n0_ n1_ n2_; clear hb ho32) | ((with_reducible refine gate_dst (N := 44) rfl ?_); refine Kd.R_lit (Kd.int .i64) _ 3 ?hg (N := 44) ?hd (xs := ([3, 5] : List Int)) (inner := [.int .i64 3, .int .i64 5]) (ok := fun _ => True) (okp := fun _ => True) ?hr ?hp (fun _ hk => hk) trivial (Below.refl _ _) (Nat.le_refl _) (by simp) ?_; (case hd => rfl); (case hg => rfl); (case hr => first | (go_simp; done) | (go_simp; rfl)); (case hp => exact (Reps.one (show Kd.M (Kd.int .i64) _ _ _ 3 [.int .i64 3] from rfl) (Reps.one (show Kd.M (Kd.int .i64) _ _ _ 5 [.int .i64 5] from rfl) (Reps.none _ _)))); intro v119 w33 ho34 hb hg_ hnew_; clear hg_ hnew_; (first | rw [← Ny118.out] at ho34 | (simp only [Int.reduceToNat] at ho34; rw [← Ny118.out] at ho34)); have n0_ := Aside0.mk (Kd.R_below (by (with_reducible repeat (first | apply Kd.R_alloc | apply Kd.R_drewN | apply Kd.R_drew)); exact HO104.out) hb); have n1_ := Aside0.mk (Kd.R_elder' (by (with_reducible repeat (first | apply Kd.R_alloc | apply Kd.R_drewN | apply Kd.R_drew)); exact HO117.out) (Kd.R_base ho34) hb); have n2_ := Aside0.mk (Kd.R_lower (Kd.R_new' ho34 (Kd.R_lt (by (with_reducible repeat (first | apply Kd.R_alloc | apply Kd.R_drewN | apply Kd.R_drew)); exact HO117.out))) (below_size (by repeat (first | (with_reducible first | exact HB.out | apply below_alloc | apply pw_below_drewN | apply below_drew1) | exact HB.out)))); have n3_ := Aside0.mk (below_step (by repeat (first | (with_reducible first | exact HB.out | apply below_alloc | apply pw_below_drewN | apply below_drew1) | exact HB.out)) hb); clear HO104; clear HO117; clear HB; have HO104 := n0_; have HO117 := n1_; have HO120 := n2_; have HB := n3_; clear n0_ n1_ n2_ n3_; clear hb ho34; obtain ⟨Ao35, co35, eo35⟩ := Kd.R_slice HO117.out; subst eo35; obtain ⟨Ao36, co36, eo36⟩ := Kd.R_slice HO120.out; subst eo36) | ((with_reducible refine gate_callee (f := 22) rfl ?_); refine goesL_ (some 45) rfl rfl Try.func22 (by kernel_rfl) rfl #[.slice Ao35 y115.length co35, .slice Ao36 y118.length co36] rfl (by (try simp only [List.map_toArray, List.map_cons, List.map_nil]); first | done | rfl | (simp only [List.length_drop, List.length_take]; rfl)) ?_; (with_reducible refine (residue_Chinese.calls k _ _ y115 _ _ y118 t121 t122 t123 _ ?side1 ?side2 ?side3 ?side4 A7.out).mono ?_); (case side1 => repeat (first | exact (Kd.R_reads' HO117.out).2.2 | (with_reducible refine Kd.C_alloc ?_ _) | (with_reducible refine Kd.C_drewN ?_ _) | (with_reducible refine Kd.C_drew ?_))); (case side2 => exact (Kd.R_reads' HO117.out).2.1); (case side3 => repeat (first | exact (Kd.R_reads' HO120.out).2.2 | (with_reducible refine Kd.C_alloc ?_ _) | (with_reducible refine Kd.C_drewN ?_ _) | (with_reducible refine Kd.C_drew ?_))); (case side4 => exact (Kd.R_reads' HO120.out).2.1); rintro e w37 ⟨rfl, hb⟩; refine ⟨_, rfl, ?_⟩; have n0_ := Aside0.mk (Kd.R_below (by (with_reducible repeat (first | apply Kd.R_alloc | apply Kd.R_drewN | apply Kd.R_drew)); exact HO104.out) hb); have n1_ := Aside0.mk (Kd.R_below (by (with_reducible repeat (first | apply Kd.R_alloc | apply Kd.R_drewN | apply Kd.R_drew)); exact HO117.out) hb); have n2_ := Aside0.mk (Kd.R_below (by (with_reducible repeat (first | apply Kd.R_alloc | apply Kd.R_drewN | apply Kd.R_drew)); exact HO120.out) hb); have n3_ := Aside0.mk (below_step (by repeat (first | (with_reducible first | exact HB.out | apply below_alloc | apply pw_below_drewN | apply below_drew1) | exact HB.out)) hb); clear HO104; clear HO117; clear HO120; clear HB; have HO104 := n0_; have HO117 := n1_; have HO120 := n2_; have HB := n3_; clear n0_ n1_ n2_ n3_; (try clear hb); (try clear hb2); (try clear hk); (try clear hi)) | ((with_reducible refine gate_callee (f := 17) rfl ?_); refine goesL_ (some 50) rfl rfl Try.func17 (by kernel_rfl) rfl #[.int .i64 8] rfl (by (try simp only [List.map_toArray, List.map_cons, List.map_nil]); first | done | rfl | (simp only [List.length_drop, List.length_take]; rfl)) ?_; (with_reducible refine (residue_PrimitiveRoot.calls k 8 t124 t125 _ A8.out).mono ?_); rintro e w38 ⟨rfl, hb⟩; refine ⟨_, rfl, ?_⟩; have n0_ := Aside0.mk (Kd.R_below (by (with_reducible repeat (first | apply Kd.R_alloc | apply Kd.R_drewN | apply Kd.R_drew)); exact HO104.out) hb); have n1_ := Aside0.mk (Kd.R_below (by (with_reducible repeat (first | apply Kd.R_alloc | apply Kd.R_drewN | apply Kd.R_drew)); exact HO117.out) hb); have n2_ := Aside0.mk (Kd.R_below (by (with_reducible repeat (first | apply Kd.R_alloc | apply Kd.R_drewN | apply Kd.R_drew)); exact HO120.out) hb); have n3_ := Aside0.mk (below_step (by repeat (first | (with_reducible first | exact HB.out | apply below_alloc | apply pw_below_drewN | apply below_drew1) | exact HB.out)) hb); clear HO104; clear HO117; clear HO120; clear HB; have HO104 := n0_; have HO117 := n1_; have HO120 := n2_; have HB := n3_; clear n0_ n1_ n2_ n3_; (try clear hb); (try clear hb2); (try clear hk); (try clear hi)) | ((with_reducible refine gate_dst (N := 87) rfl ?_); refine Kd.R_lit k53 _ 53 ?hg (N := 87) ?hd (xs := ([(⟨2, 3⟩ : S53), (⟨3, 2⟩ : S53), (⟨5, 1⟩ : S53)] : List (S53))) (inner := [.int .i64 2, .int .i64 3, .int .i64 3, .int .i64 2, .int .i64 5, .int .i64 1]) (ok := fun _ => True) (okp := fun _ => True) ?hr ?hp (fun _ hk => hk) trivial (Below.refl _ _) (Nat.le_refl _) (by simp) ?_; (case hd => rfl); (case hg => rfl); (case hr => first | (go_simp; done) | (go_simp; rfl)); (case hp => exact (Reps.c2 (show Kd.M k53 _ _ _ (⟨2, 3⟩ : S53) [.int .i64 2, .int .i64 3] from (k53_mkM _ _ _ (⟨2, 3⟩ : S53) )) (Reps.c2 (show Kd.M k53 _ _ _ (⟨3, 2⟩ : S53) [.int .i64 3, .int .i64 2] from (k53_mkM _ _ _ (⟨3, 2⟩ : S53) )) (Reps.c2 (show Kd.M k53 _ _ _ (⟨5, 1⟩ : S53) [.int .i64 5, .int .i64 1] from (k53_mkM _ _ _ (⟨5, 1⟩ : S53) )) (Reps.none _ _))))); intro v127 w39 ho40 hb hg_ hnew_; clear hg_ hnew_; (first | rw [← Ny126.out] at ho40 | (simp only [Int.reduceToNat] at ho40; rw [← Ny126.out] at ho40)); have n0_ := Aside0.mk (Kd.R_elder' (by (with_reducible repeat (first | apply Kd.R_alloc | apply Kd.R_drewN | apply Kd.R_drew)); exact HO104.out) (Kd.R_base ho40) hb); have n1_ := Aside0.mk (Kd.R_below (by (with_reducible repeat (first | apply Kd.R_alloc | apply Kd.R_drewN | apply Kd.R_drew)); exact HO117.out) hb); have n2_ := Aside0.mk (Kd.R_below (by (with_reducible repeat (first | apply Kd.R_alloc | apply Kd.R_drewN | apply Kd.R_drew)); exact HO120.out) hb); have n3_ := Aside0.mk (Kd.R_lower (Kd.R_new' ho40 (Kd.R_lt (by (with_reducible repeat (first | apply Kd.R_alloc | apply Kd.R_drewN | apply Kd.R_drew)); exact HO104.out))) (below_size (by repeat (first | (with_reducible first | exact HB.out | apply below_alloc | apply pw_below_drewN | apply below_drew1) | exact HB.out)))); have n4_ := Aside0.mk (below_step (by repeat (first | (with_reducible first | exact HB.out | apply below_alloc | apply pw_below_drewN | apply below_drew1) | exact HB.out)) hb); clear HO104; clear HO117; clear HO120; clear HB; have HO104 := n0_; have HO117 := n1_; have HO120 := n2_; have HO128 := n3_; have HB := n4_; clear n0_ n1_ n2_ n3_ n4_; clear hb ho40; obtain ⟨Ao41, co41, eo41⟩ := Kd.R_slice HO104.out; subst eo41; obtain ⟨Ao42, co42, eo42⟩ := Kd.R_slice HO128.out; subst eo42) | ((with_reducible refine gate_callee (f := 48) rfl ?_); refine goesL_ (some 88) rfl rfl Try.func48 (by kernel_rfl) rfl #[.slice Ao41 t101.length co41, .slice Ao42 y126.length co42] rfl (by (try simp only [List.map_toArray, List.map_cons, List.map_nil]); first | done | rfl | (simp only [List.length_drop, List.length_take]; rfl)) ?_; (with_reducible refine (galoislaw04_samePowers.calls k _ _ t101 _ _ y126 true _ ?side1 ?side2 ?side3 ?side4 A17.out).mono ?_); (case side1 => repeat (first | exact (Kd.R_reads' HO104.out).2.2 | (with_reducible refine Kd.C_alloc ?_ _) | (with_reducible refine Kd.C_drewN ?_ _) | (with_reducible refine Kd.C_drew ?_))); (case side2 => exact (Kd.R_reads' HO104.out).2.1); (case side3 => repeat (first | exact (Kd.R_reads' HO128.out).2.2 | (with_reducible refine Kd.C_alloc ?_ _) | (with_reducible refine Kd.C_drewN ?_ _) | (with_reducible refine Kd.C_drew ?_))); (case side4 => exact (Kd.R_reads' HO128.out).2.1); rintro e w' ⟨rfl, ⟨nd, rfl⟩⟩; refine ⟨_, rfl, ?_⟩))
                                go_ret
                                exact ⟨by first | rfl | (simp [errW_none, errW_some] <;> rfl) | (simp [*, errW_none, errW_some] <;> rfl), by repeat (first | (with_reducible first | exact HB.out | apply below_alloc | apply pw_below_drewN | apply below_drew1) | exact HB.out)⟩
                              · rw [if_neg c24] at H
                                exact absurd H (by simp)
                            · rw [if_neg c23] at H
                              exact absurd H (by simp)
                          · rw [if_neg c22] at H
                            exact absurd H (by simp)
                        · rw [if_neg c21] at H
                          exact absurd H (by simp)
                      · rw [if_neg c20] at H
                        exact absurd H (by simp)
                    · rw [if_neg c19] at H
                      exact absurd H (by simp)
                  · replace c18 := Bool.eq_false_iff.mpr c18
                    subst c18
                    have H1 : (none) = some r := by rw [if_neg (show ¬ (false = true) by decide)] at H; exact H
                    clear H
                    have H := H1
                    clear H1
                    exact absurd H (by simp)
                · rw [if_neg c16] at H
                  exact absurd H (by simp)
              · rw [if_neg c15] at H
                exact absurd H (by simp)
            · rw [if_neg c14] at H
              exact absurd H (by simp)
          · rw [if_neg c13] at H
            exact absurd H (by simp)
        · rw [if_neg c12] at H
          exact absurd H (by simp)
      · rw [if_neg c11] at H
        exact absurd H (by simp)
    · rw [if_neg c10] at H
      exact absurd H (by simp)
  · rw [if_neg c9] at H
    exact absurd H (by simp)

end Go.Proofs.Ytmedflaejnbkoaa.Q

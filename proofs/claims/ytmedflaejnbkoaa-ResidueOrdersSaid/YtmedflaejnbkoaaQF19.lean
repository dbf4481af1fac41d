/- Machine side: a program of the session wrote this text (the kit's print.py and the session's own contracts). Conditions: none of its own. -/
import Derived.Test.YtmedflaejnbkoaaQ0
import Derived.Test.YtmedflaejnbkoaaQF20
import Derived.Test.YtmedflaejnbkoaaQF21
import Derived.Test.YtmedflaejnbkoaaQF52
namespace Go.Proofs.Ytmedflaejnbkoaa.Q
open Go.RowKit Go.Proofs.YtmedflaejnbkoaaW.PrintWords Go.Proofs.YtmedflaejnbkoaaW.PrintLast Go.Proofs.YtmedflaejnbkoaaW.PrintMore
attribute [local go_sem] max2_int min2_int max_two min_two max_three min_three max_four min_four   -- for this text's walks alone
set_option linter.unusedVariables false
set_option linter.unusedSimpArgs false

/-! ### galoisref04_PrimitiveRoot: function 19 -/
def galoisref04_PrimitiveRoot.l0 : Nat → Int → Int → Option (Int × Bool)
  | 0, _, _ => none
  | k + 1, x0, x4 => if x4 < x0 then ((galoisref04_Coprime.f k x4 x0).bind fun t101 => (if t101 = true then ((galoisref04_Order.f k x4 x0).bind fun t102 => ((galoisref04_Totient.f k x0).bind fun t103 => (if t102 = t103 then (some (x4, true)) else (galoisref04_PrimitiveRoot.l0 k x0 (wrap64 (x4 + 1)))))) else (galoisref04_PrimitiveRoot.l0 k x0 (wrap64 (x4 + 1))))) else (some (0, false))
def galoisref04_PrimitiveRoot.f (k : Nat) (a0 : Int) : Option (Int × Bool) := galoisref04_PrimitiveRoot.l0 k a0 0
theorem galoisref04_PrimitiveRoot.mono_l : ∀ k, (∀ y0 y1, LeO (galoisref04_PrimitiveRoot.l0 k y0 y1) (galoisref04_PrimitiveRoot.l0 (k + 1) y0 y1))
  | 0 => fun _ _ r h => by simp [galoisref04_PrimitiveRoot.l0] at h
  | k + 1 => by
    have ih0 := galoisref04_PrimitiveRoot.mono_l k
    · intro y0 y1
      unfold galoisref04_PrimitiveRoot.l0
      repeat' first
      | (with_reducible exact ih0 _ _)
      | (with_reducible exact galoisref04_Coprime.mono _ _ _)
      | (with_reducible exact galoisref04_Order.mono _ _ _)
      | (with_reducible exact galoisref04_Totient.mono _ _)
      | (with_reducible exact LeO.refl _)
      | (with_reducible exact LeO.none _)
      | (with_reducible refine LeO.ite ?_ ?_)
      | (with_reducible refine LeO.bind ?_ (fun _ => ?_))
      | exact ih0 _ _
      | exact galoisref04_Coprime.mono _ _ _
      | exact galoisref04_Order.mono _ _ _
      | exact galoisref04_Totient.mono _ _
      | exact LeO.none _
      | refine LeO.ite ?_ ?_
      | refine LeO.bind ?_ (fun _ => ?_)
theorem galoisref04_PrimitiveRoot.mono : ∀ a0 k, LeO (galoisref04_PrimitiveRoot.f k a0) (galoisref04_PrimitiveRoot.f (k + 1) a0) := by
  intro a0 k
  have ih0 := galoisref04_PrimitiveRoot.mono_l k
  unfold galoisref04_PrimitiveRoot.f
  repeat' first
      | (with_reducible exact ih0 _ _)
      | (with_reducible exact galoisref04_Coprime.mono _ _ _)
      | (with_reducible exact galoisref04_Order.mono _ _ _)
      | (with_reducible exact galoisref04_Totient.mono _ _)
      | (with_reducible exact LeO.refl _)
      | (with_reducible exact LeO.none _)
      | (with_reducible refine LeO.ite ?_ ?_)
      | (with_reducible refine LeO.bind ?_ (fun _ => ?_))
      | exact ih0 _ _
      | exact galoisref04_Coprime.mono _ _ _
      | exact galoisref04_Order.mono _ _ _
      | exact galoisref04_Totient.mono _ _
      | exact LeO.none _
      | refine LeO.ite ?_ ?_
      | refine LeO.bind ?_ (fun _ => ?_)
set_option maxHeartbeats 8000000 in
set_option maxRecDepth 100000 in
theorem galoisref04_PrimitiveRoot.calls (k : Nat) (a0 : Int) (r1 : Int) (r2 : Bool) (w : World) (h : galoisref04_PrimitiveRoot.f k a0 = some (r1, r2)) :
    Calls Try.prog 19 #[.int .i64 a0] w fun e w' => e = .returned (.tuple #[.int .i64 r1, .bool r2]) ∧ Below w.heap.size w w' := by
  have HB := Aside0.mk (Below.refl w.heap.size w)
  have H : (galoisref04_PrimitiveRoot.l0 k a0 0) = some (r1, r2) := h
  clear h
  have H' := Aside0.mk H
  clear H
  go_enter Try.func19, Try.ntmps19
  go_wp2
  go_loopg [4] k (fun kq v4 w' => ∃ (x4_1 : Int), v4 = .int .i64 x4_1 ∧ Aside0 (galoisref04_PrimitiveRoot.l0 kq a0 x4_1 = some (r1, r2)) ∧ Aside0 (kq ≤ k) ∧ Aside0 (Below w.heap.size w w'))
  case atStart => exact ⟨(0), (by first | rfl | (simp; done) | (simp [*]; done)), H', ⟨Nat.le_refl _⟩, ⟨by repeat (first | (with_reducible first | exact HB.out | apply below_alloc | apply pw_below_drewN | apply below_drew1) | exact HB.out)⟩⟩
  case round =>
    clear H'
    try clear c1
    obtain ⟨x4_1, rfl, HA, HK1, HB⟩ := hrel
    cases gk with
    | zero => exact absurd HA.out (by simp [galoisref04_PrimitiveRoot.l0])
    | succ k1 =>
      have H := HA.out
      clear HA
      simp only [galoisref04_PrimitiveRoot.l0] at H
      by_cases c2 : x4_1 < a0
      · rw [if_pos c2] at H
        have c2b0 : decide (x4_1 < a0) = true := decide_eq_true c2
        clear c2
        replace H := Option.bind_eq_some_iff.mp H
        obtain ⟨t101, A30, H⟩ := H
        replace H : (if t101 = true then ((galoisref04_Order.f k1 x4_1 a0).bind fun t102 => ((galoisref04_Totient.f k1 a0).bind fun t103 => (if t102 = t103 then (some (x4_1, true)) else (galoisref04_PrimitiveRoot.l0 k1 a0 (wrap64 (x4_1 + 1)))))) else (galoisref04_PrimitiveRoot.l0 k1 a0 (wrap64 (x4_1 + 1)))) = some (r1, r2) := H
        have A3 := Aside0.mk A30
        clear A30
        by_cases c4 : t101 = true
        · subst c4
          have H1 : ((galoisref04_Order.f k1 x4_1 a0).bind fun t102 => ((galoisref04_Totient.f k1 a0).bind fun t103 => (if t102 = t103 then (some (x4_1, true)) else (galoisref04_PrimitiveRoot.l0 k1 a0 (wrap64 (x4_1 + 1)))))) = some (r1, r2) := by rw [if_pos rfl] at H; exact H
          clear H
          have H := H1
          clear H1
          replace H := Option.bind_eq_some_iff.mp H
          obtain ⟨t102, A50, H⟩ := H
          replace H : ((galoisref04_Totient.f k1 a0).bind fun t103 => (if t102 = t103 then (some (x4_1, true)) else (galoisref04_PrimitiveRoot.l0 k1 a0 (wrap64 (x4_1 + 1))))) = some (r1, r2) := H
          have A5 := Aside0.mk A50
          clear A50
          replace H := Option.bind_eq_some_iff.mp H
          obtain ⟨t103, A60, H⟩ := H
          replace H : (if t102 = t103 then (some (x4_1, true)) else (galoisref04_PrimitiveRoot.l0 k1 a0 (wrap64 (x4_1 + 1)))) = some (r1, r2) := H
          have A6 := Aside0.mk A60
          clear A60
          by_cases c7 : t102 = t103
          · rw [if_pos c7] at H
            have c7b0 : (t102 == t103) = true := beq_iff_eq.mpr c7
            have c7b1 : (t102 != t103) = false := bne_eq_false_iff_eq.mpr c7
            clear c7
            simp only [Option.some.injEq, Prod.mk.injEq] at H
            obtain ⟨rfl, rfl⟩ := H
            go_wp2_with (first | ((with_reducible refine gate_callee (f := 20) rfl ?_); refine goesL_ (some 12) rfl rfl Try.func20 (by kernel_rfl) rfl #[.int .i64 x4_1, .int .i64 a0] rfl (by (try simp only [List.map_toArray, List.map_cons, List.map_nil]); first | done | rfl | (simp only [List.length_drop, List.length_take]; rfl)) ?_; (with_reducible refine (galoisref04_Coprime.calls k1 x4_1 a0 true _ A3.out).mono ?_); rintro e w' ⟨rfl, ⟨nd, rfl⟩⟩; refine ⟨_, rfl, ?_⟩) | (go_at_call 21; (with_reducible refine (galoisref04_Order.calls k1 x4_1 a0 t102 _ A5.out).mono ?_); rintro e w' ⟨rfl, ⟨nd, rfl⟩⟩) | (go_at_call 52; (with_reducible refine (galoisref04_Totient.calls k1 a0 t103 _ A6.out).mono ?_); rintro e w8 ⟨rfl, hb⟩; have n0_ := Aside0.mk (below_step (by repeat (first | (with_reducible first | exact HB.out | apply below_alloc | apply pw_below_drewN | apply below_drew1) | exact HB.out)) hb); clear HB; have HB := n0_; clear n0_; (try clear hb); (try clear hb2); (try clear hk); (try clear hi)))
            go_ret2
            exact ⟨by first | rfl | (simp [errW_none, errW_some] <;> rfl) | (simp [*, errW_none, errW_some] <;> rfl), by repeat (first | (with_reducible first | exact HB.out | apply below_alloc | apply pw_below_drewN | apply below_drew1) | exact HB.out)⟩
          · rw [if_neg c7] at H
            have c7b0 : (t102 == t103) = false := beq_eq_false_iff_ne.mpr c7
            have c7b1 : (t102 != t103) = true := bne_iff_ne.mpr c7
            have H' := Aside0.mk H
            clear H
            go_wp2_with (first | ((with_reducible refine gate_callee (f := 20) rfl ?_); refine goesL_ (some 12) rfl rfl Try.func20 (by kernel_rfl) rfl #[.int .i64 x4_1, .int .i64 a0] rfl (by (try simp only [List.map_toArray, List.map_cons, List.map_nil]); first | done | rfl | (simp only [List.length_drop, List.length_take]; rfl)) ?_; (with_reducible refine (galoisref04_Coprime.calls k1 x4_1 a0 true _ A3.out).mono ?_); rintro e w' ⟨rfl, ⟨nd, rfl⟩⟩; refine ⟨_, rfl, ?_⟩) | (go_at_call 21; (with_reducible refine (galoisref04_Order.calls k1 x4_1 a0 t102 _ A5.out).mono ?_); rintro e w' ⟨rfl, ⟨nd, rfl⟩⟩) | (go_at_call 52; (with_reducible refine (galoisref04_Totient.calls k1 a0 t103 _ A6.out).mono ?_); rintro e w9 ⟨rfl, hb⟩; have n0_ := Aside0.mk (below_step (by repeat (first | (with_reducible first | exact HB.out | apply below_alloc | apply pw_below_drewN | apply below_drew1) | exact HB.out)) hb); clear HB; have HB := n0_; clear n0_; (try clear hb); (try clear hb2); (try clear hk); (try clear hi)))
            go_roundg k1
            case measure => have := HK1.out; omega
            case rel => exact ⟨(wrap64 (x4_1 + 1)), (by first | rfl | (simp; done) | (simp [*]; done)), H', ⟨by have := HK1.out; omega⟩, ⟨by repeat (first | (with_reducible first | exact HB.out | apply below_alloc | apply pw_below_drewN | apply below_drew1) | exact HB.out)⟩⟩
        · replace c4 := Bool.eq_false_iff.mpr c4
          subst c4
          have H1 : (galoisref04_PrimitiveRoot.l0 k1 a0 (wrap64 (x4_1 + 1))) = some (r1, r2) := by rw [if_neg (show ¬ (false = true) by decide)] at H; exact H
          clear H
          have H := H1
          clear H1
          have H' := Aside0.mk H
          clear H
          go_wp2_with (first | ((with_reducible refine gate_callee (f := 20) rfl ?_); refine goesL_ (some 12) rfl rfl Try.func20 (by kernel_rfl) rfl #[.int .i64 x4_1, .int .i64 a0] rfl (by (try simp only [List.map_toArray, List.map_cons, List.map_nil]); first | done | rfl | (simp only [List.length_drop, List.length_take]; rfl)) ?_; (with_reducible refine (galoisref04_Coprime.calls k1 x4_1 a0 false _ A3.out).mono ?_); rintro e w' ⟨rfl, ⟨nd, rfl⟩⟩; refine ⟨_, rfl, ?_⟩))
          go_roundg k1
          case measure => have := HK1.out; omega
          case rel => exact ⟨(wrap64 (x4_1 + 1)), (by first | rfl | (simp; done) | (simp [*]; done)), H', ⟨by have := HK1.out; omega⟩, ⟨by repeat (first | (with_reducible first | exact HB.out | apply below_alloc | apply pw_below_drewN | apply below_drew1) | exact HB.out)⟩⟩
      · rw [if_neg c2] at H
        have c2b0 : decide (x4_1 < a0) = false := decide_eq_false c2
        clear c2
        simp only [Option.some.injEq, Prod.mk.injEq] at H
        obtain ⟨rfl, rfl⟩ := H
        go_wp2
        go_ret2
        exact ⟨by first | rfl | (simp [errW_none, errW_some] <;> rfl) | (simp [*, errW_none, errW_some] <;> rfl), by repeat (first | (with_reducible first | exact HB.out | apply below_alloc | apply pw_below_drewN | apply below_drew1) | exact HB.out)⟩

end Go.Proofs.Ytmedflaejnbkoaa.Q

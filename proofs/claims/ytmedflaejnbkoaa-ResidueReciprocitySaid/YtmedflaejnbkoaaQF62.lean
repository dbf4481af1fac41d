/- Machine side: a program of the session wrote this text (the kit's print.py and the session's own contracts). Conditions: none of its own. -/
import Derived.Test.YtmedflaejnbkoaaQ0
import Derived.Test.YtmedflaejnbkoaaQF58
namespace Go.Proofs.Ytmedflaejnbkoaa.Q
open Go.RowKit Go.Proofs.YtmedflaejnbkoaaW.PrintWords Go.Proofs.YtmedflaejnbkoaaW.PrintLast Go.Proofs.YtmedflaejnbkoaaW.PrintMore
attribute [local go_sem] max2_int min2_int max_two min_two max_three min_three max_four min_four   -- for this text's walks alone
set_option linter.unusedVariables false
set_option linter.unusedSimpArgs false

/-! ### residue_prime: function 62 -/
def residue_prime.f (k : Nat) (a0 : Int) : Option (Bool) := (residue_factor.f k a0).bind fun t101 => (if (t101.length : Int) = 1 then (if 0 < (t101.length : Int) then (some (((rd_T53 t101 0).f1) == 1)) else (none)) else (some false))
theorem residue_prime.mono : ∀ a0 k, LeO (residue_prime.f k a0) (residue_prime.f (k + 1) a0) := by
  intro a0 k
  unfold residue_prime.f
  repeat' first
      | (with_reducible exact residue_factor.mono _ _)
      | (with_reducible exact LeO.refl _)
      | (with_reducible exact LeO.none _)
      | (with_reducible refine LeO.ite ?_ ?_)
      | (with_reducible refine LeO.bind ?_ (fun _ => ?_))
      | exact residue_factor.mono _ _
      | exact LeO.none _
      | refine LeO.ite ?_ ?_
      | refine LeO.bind ?_ (fun _ => ?_)
set_option maxHeartbeats 8000000 in
set_option maxRecDepth 100000 in
theorem residue_prime.calls (k : Nat) (a0 : Int) (r : Bool) (w : World) (h : residue_prime.f k a0 = some r) :
    Calls Try.prog 62 #[.int .i64 a0] w fun e w' => e = .returned (.bool r) ∧ Below w.heap.size w w' := by
  have HB := Aside0.mk (Below.refl w.heap.size w)
  have H : ((residue_factor.f k a0).bind fun t101 => (if (t101.length : Int) = 1 then (if 0 < (t101.length : Int) then (some (((rd_T53 t101 0).f1) == 1)) else (none)) else (some false))) = some r := h
  clear h
  replace H := Option.bind_eq_some_iff.mp H
  obtain ⟨t101, A20, H⟩ := H
  replace H : (if (t101.length : Int) = 1 then (if 0 < (t101.length : Int) then (some (((rd_T53 t101 0).f1) == 1)) else (none)) else (some false)) = some r := H
  have A2 := Aside0.mk A20
  clear A20
  by_cases c3 : (t101.length : Int) = 1
  · rw [if_pos c3] at H
    have c3b0 : ((t101.length : Int) == 1) = true := beq_iff_eq.mpr c3
    have c3b1 : ((t101.length : Int) != 1) = false := bne_eq_false_iff_eq.mpr c3
    clear c3
    by_cases c4 : 0 < (t101.length : Int)
    · rw [if_pos c4] at H
      have c4b0 : decide (0 < (t101.length : Int)) = true := decide_eq_true c4
      have c4b1 : decide (0 < t101.length) = true := decide_eq_true (by omega)
      clear c4
      obtain rfl := Option.some.inj H
      go_enter Try.func62, Try.ntmps62
      go_wp2_with (first | ((with_reducible refine gate_callee (f := 58) rfl ?_); refine goesL_ (some 5) rfl rfl Try.func58 (by kernel_rfl) rfl #[.int .i64 a0] rfl (by (try simp only [List.map_toArray, List.map_cons, List.map_nil]); first | done | rfl | (simp only [List.length_drop, List.length_take]; rfl)) ?_; (with_reducible refine (residue_factor.calls k a0 t101 _ A2.out).mono ?_); rintro e w5 ⟨v102, rfl, ho0, hb⟩; refine ⟨_, rfl, ?_⟩; have n0_ := Aside0.mk (Kd.R_lower ho0 (below_size (by repeat (first | (with_reducible first | exact HB.out | apply below_alloc | apply pw_below_drewN | apply below_drew1) | exact HB.out)))); have n1_ := Aside0.mk (below_step (by repeat (first | (with_reducible first | exact HB.out | apply below_alloc | apply pw_below_drewN | apply below_drew1) | exact HB.out)) hb); clear HB; have HO103 := n0_; have HB := n1_; clear n0_ n1_; (try clear hb); (try clear hb2); (try clear hk); (try clear hi); (try clear ho0); obtain ⟨Ao6, co6, eo6⟩ := Kd.R_slice HO103.out; subst eo6; have p104 : 0 ≤ (0 : Int) := (by omega); have q104 : 0 < (t101.length : Int) := of_decide_eq_true (by first | (with_reducible assumption) | assumption); obtain ⟨ad104, e104, hx104_0, hx104_1⟩ := at_T53 (Kd.R_reads' HO103.out).2.2 0 p104 q104; cases e104; have qi104 : (0 < t101.length) = True := eq_true (by omega); (try rw [show ((0 : Int)).toNat = 0 from rfl] at hx104_0); (try rw [show 0 * 2 = 0 from rfl] at hx104_0); (try rw [Addr.add_zero'] at hx104_0); (try rw [show ((0 : Int)).toNat = 0 from rfl] at hx104_1); (try rw [show 0 * 2 = 0 from rfl] at hx104_1); (try rw [Addr.add_zero'] at hx104_1); replace p104 := eq_true p104; replace q104 := eq_true q104))
      go_ret
      exact ⟨by first | rfl | (simp [errW_none, errW_some] <;> rfl) | (simp [*, errW_none, errW_some] <;> rfl), by repeat (first | (with_reducible first | exact HB.out | apply below_alloc | apply pw_below_drewN | apply below_drew1) | exact HB.out)⟩
    · rw [if_neg c4] at H
      exact absurd H (by simp)
  · rw [if_neg c3] at H
    have c3b0 : ((t101.length : Int) == 1) = false := beq_eq_false_iff_ne.mpr c3
    have c3b1 : ((t101.length : Int) != 1) = true := bne_iff_ne.mpr c3
    obtain rfl := Option.some.inj H
    go_enter Try.func62, Try.ntmps62
    go_wp2_with (first | ((with_reducible refine gate_callee (f := 58) rfl ?_); refine goesL_ (some 5) rfl rfl Try.func58 (by kernel_rfl) rfl #[.int .i64 a0] rfl (by (try simp only [List.map_toArray, List.map_cons, List.map_nil]); first | done | rfl | (simp only [List.length_drop, List.length_take]; rfl)) ?_; (with_reducible refine (residue_factor.calls k a0 t101 _ A2.out).mono ?_); rintro e w7 ⟨v102, rfl, ho0, hb⟩; refine ⟨_, rfl, ?_⟩; have n0_ := Aside0.mk (Kd.R_lower ho0 (below_size (by repeat (first | (with_reducible first | exact HB.out | apply below_alloc | apply pw_below_drewN | apply below_drew1) | exact HB.out)))); have n1_ := Aside0.mk (below_step (by repeat (first | (with_reducible first | exact HB.out | apply below_alloc | apply pw_below_drewN | apply below_drew1) | exact HB.out)) hb); clear HB; have HO103 := n0_; have HB := n1_; clear n0_ n1_; (try clear hb); (try clear hb2); (try clear hk); (try clear hi); (try clear ho0); obtain ⟨Ao8, co8, eo8⟩ := Kd.R_slice HO103.out; subst eo8))
    go_ret
    exact ⟨by first | rfl | (simp [errW_none, errW_some] <;> rfl) | (simp [*, errW_none, errW_some] <;> rfl), by repeat (first | (with_reducible first | exact HB.out | apply below_alloc | apply pw_below_drewN | apply below_drew1) | exact HB.out)⟩

end Go.Proofs.Ytmedflaejnbkoaa.Q

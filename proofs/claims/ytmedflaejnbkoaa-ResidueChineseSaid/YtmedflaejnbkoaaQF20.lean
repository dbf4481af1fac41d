/- Machine side: a program of the session wrote this text (the kit's print.py and the session's own contracts). Conditions: none of its own. -/
import Derived.Test.YtmedflaejnbkoaaQ0
import Derived.Test.YtmedflaejnbkoaaQF24
import Derived.Test.YtmedflaejnbkoaaQF26
namespace Go.Proofs.Ytmedflaejnbkoaa.Q
open Go.RowKit Go.Proofs.YtmedflaejnbkoaaW.PrintWords Go.Proofs.YtmedflaejnbkoaaW.PrintLast Go.Proofs.YtmedflaejnbkoaaW.PrintMore
attribute [local go_sem] max2_int min2_int max_two min_two max_three min_three max_four min_four   -- for this text's walks alone
set_option linter.unusedVariables false
set_option linter.unusedSimpArgs false

/-! ### galoisref04_Coprime: function 20 -/
def galoisref04_Coprime.f (k : Nat) (a0 : Int) (a1 : Int) : Option (Bool) := (galoisref04_Mod.f a0 a1).bind fun t101 => ((galoisref04_Gcd.f k t101 a1).bind fun t102 => (some (t102 == 1)))
theorem galoisref04_Coprime.mono : ∀ a0 a1 k, LeO (galoisref04_Coprime.f k a0 a1) (galoisref04_Coprime.f (k + 1) a0 a1) := by
  intro a0 a1 k
  unfold galoisref04_Coprime.f
  repeat' first
      | (with_reducible exact galoisref04_Gcd.mono _ _ _)
      | (with_reducible exact LeO.refl _)
      | (with_reducible exact LeO.none _)
      | (with_reducible refine LeO.ite ?_ ?_)
      | (with_reducible refine LeO.bind ?_ (fun _ => ?_))
      | exact galoisref04_Gcd.mono _ _ _
      | exact LeO.none _
      | refine LeO.ite ?_ ?_
      | refine LeO.bind ?_ (fun _ => ?_)
set_option maxHeartbeats 8000000 in
set_option maxRecDepth 100000 in
theorem galoisref04_Coprime.calls (k : Nat) (a0 : Int) (a1 : Int) (r : Bool) (w : World) (h : galoisref04_Coprime.f k a0 a1 = some r) :
    Calls Try.prog 20 #[.int .i64 a0, .int .i64 a1] w fun e w' => e = .returned (.bool r) ∧ Drawn0 w w' := by
  have H : ((galoisref04_Mod.f a0 a1).bind fun t101 => ((galoisref04_Gcd.f k t101 a1).bind fun t102 => (some (t102 == 1)))) = some r := h
  clear h
  replace H := Option.bind_eq_some_iff.mp H
  obtain ⟨t101, A30, H⟩ := H
  replace H : ((galoisref04_Gcd.f k t101 a1).bind fun t102 => (some (t102 == 1))) = some r := H
  have A3 := Aside0.mk A30
  clear A30
  replace H := Option.bind_eq_some_iff.mp H
  obtain ⟨t102, A40, H⟩ := H
  replace H : (some (t102 == 1)) = some r := H
  have A4 := Aside0.mk A40
  clear A40
  obtain rfl := Option.some.inj H
  go_enter Try.func20, Try.ntmps20
  go_wp2_with (first | ((with_reducible refine gate_callee (f := 26) rfl ?_); refine goesL_ (some 7) rfl rfl Try.func26 (by kernel_rfl) rfl #[.int .i64 a0, .int .i64 a1] rfl (by (try simp only [List.map_toArray, List.map_cons, List.map_nil]); first | done | rfl | (simp only [List.length_drop, List.length_take]; rfl)) ?_; (with_reducible refine (galoisref04_Mod.calls a0 a1 t101 _ A3.out).mono ?_); rintro e w' ⟨rfl, ⟨nd, rfl⟩⟩; refine ⟨_, rfl, ?_⟩) | ((with_reducible refine gate_callee (f := 24) rfl ?_); refine goesL_ (some 9) rfl rfl Try.func24 (by kernel_rfl) rfl #[.int .i64 t101, .int .i64 a1] rfl (by (try simp only [List.map_toArray, List.map_cons, List.map_nil]); first | done | rfl | (simp only [List.length_drop, List.length_take]; rfl)) ?_; (with_reducible refine (galoisref04_Gcd.calls k t101 a1 t102 _ A4.out).mono ?_); rintro e w' ⟨rfl, ⟨nd, rfl⟩⟩; refine ⟨_, rfl, ?_⟩))
  go_ret
  exact ⟨by first | rfl | (simp; done) | (simp [*]; done), by repeat (first | exact Drawn0.refl _ | apply Drawn0.step)⟩

end Go.Proofs.Ytmedflaejnbkoaa.Q

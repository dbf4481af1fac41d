/- The pure statement of ResidueSystems: the program's Chinese returns what the reference returns, for any lists whose moduli are up to 3000 or no moduli. No conditions. -/
import Derived.Test.YtmedflaejnbkoaaS9
import Derived.Test.YtmedflaejnbkoaaS2
import Derived.Test.YtmedflaejnbkoaaQF4
namespace Go.Proofs.Ytmedflaejnbkoaa.Pure
open Go.RowKit Go.Proofs.YtmedflaejnbkoaaW.PrintWords Go.Proofs.YtmedflaejnbkoaaW.PrintLast Go.Proofs.YtmedflaejnbkoaaW.PrintMore Go.Proofs.Ytmedflaejnbkoaa.M Go.Proofs.Ytmedflaejnbkoaa.Q
set_option linter.unusedVariables false
set_option linter.unusedSimpArgs false

theorem systems_loop (l0 l1 : List Int) (hn : l1.length ≤ 300) : ∀ d i, i + d = l1.length → (∀ j, j < i → rd l1 (j : Int) ≤ 3000 ∨ 2147483647 < rd l1 (j : Int)) → Ev (fun q => galoislaw04_ResidueSystems.l0 q l0 l1 (i : Int)) true
  | 0, i, hi, hsm => by
    obtain ⟨out, ⟨K1, h1⟩, ⟨K2, h2⟩⟩ := chinese_both l0 l1 fun x hx => by
      obtain ⟨j, hj, e⟩ := mem_rd hx
      rw [← e]
      exact hsm j (by omega)
    dsimp only at h1 h2
    refine ⟨K1 + K2 + 1, fun q hq => ?_⟩
    obtain ⟨j, rfl, hj⟩ := ex_succ hq
    simp only [galoislaw04_ResidueSystems.l0]
    rw [if_neg (by omega), h1 j (by omega), Option.bind_some, h2 j (by omega), Option.bind_some, if_pos rfl, if_pos rfl, beq_self_eq_true]
  | d + 1, i, hi, hsm => by
    have next : (rd l1 (i : Int) ≤ 3000 ∨ 2147483647 < rd l1 (i : Int)) → Ev (fun q => galoislaw04_ResidueSystems.l0 q l0 l1 ((i + 1 : Nat) : Int)) true := fun h => systems_loop l0 l1 hn d (i + 1) (by omega) fun j hj => by
      rcases Nat.lt_or_ge j i with h3 | h3
      · exact hsm j h3
      · obtain rfl : j = i := by omega
        exact h
    by_cases hbig : rd l1 (i : Int) > 3000
    · by_cases hm : 1 ≤ rd l1 (i : Int) ∧ rd l1 (i : Int) ≤ 2147483647
      · refine ⟨1, fun q hq => ?_⟩
        obtain ⟨j, rfl, hj⟩ := ex_succ hq
        simp only [galoislaw04_ResidueSystems.l0]
        rw [if_pos (by omega), if_pos (by omega), if_pos hbig, isMod_spec, Option.bind_some, decide_eq_true hm, if_pos rfl]
      · obtain ⟨K, hK⟩ := next (by omega)
        dsimp only at hK
        refine ⟨K + 1, fun q hq => ?_⟩
        obtain ⟨j, rfl, hj⟩ := ex_succ hq
        simp only [galoislaw04_ResidueSystems.l0]
        rw [if_pos (by omega), if_pos (by omega), if_pos hbig, isMod_spec, Option.bind_some, decide_eq_false hm, if_neg (by simp), wrap_id (by omega) (by omega)]
        exact hK j hj
    · obtain ⟨K, hK⟩ := next (by omega)
      dsimp only at hK
      refine ⟨K + 1, fun q hq => ?_⟩
      obtain ⟨j, rfl, hj⟩ := ex_succ hq
      simp only [galoislaw04_ResidueSystems.l0]
      rw [if_pos (by omega), if_pos (by omega), if_neg hbig, wrap_id (by omega) (by omega)]
      exact hK j hj
theorem ResidueSystems : galoislaw04_ResidueSystems.Pure := by
  intro l0 l1 _ _ _ _ _ _
  obtain ⟨Ka, ha⟩ := awake_ev
  have hj0 : ∀ k, Ka ≤ k → galoislaw04_ResidueSystems.j0 (k + 1) l0 l1 true = some true := by
    intro k hk
    simp only [galoislaw04_ResidueSystems.j0]
    rw [if_pos trivial, ha k hk, Option.bind_some]
  by_cases h0 : (l0.length : Int) > 300
  · refine ⟨Ka + 1, ?_⟩
    simp only [galoislaw04_ResidueSystems.f]
    rw [ha _ (by omega), Option.bind_some, if_pos rfl, if_pos h0]
    exact hj0 Ka (Nat.le_refl _)
  · by_cases h1 : (l1.length : Int) > 300
    · refine ⟨Ka + 1, ?_⟩
      simp only [galoislaw04_ResidueSystems.f]
      rw [ha _ (by omega), Option.bind_some, if_pos rfl, if_neg h0, decide_eq_true h1]
      exact hj0 Ka (Nat.le_refl _)
    · obtain ⟨K, hK⟩ := systems_loop l0 l1 (by omega) l1.length 0 (by omega) (fun j hj => by omega)
      dsimp only at hK
      refine ⟨Ka + K + 1, ?_⟩
      simp only [galoislaw04_ResidueSystems.f]
      rw [ha _ (by omega), Option.bind_some, if_pos rfl, if_neg h0, decide_eq_false h1]
      simp only [galoislaw04_ResidueSystems.j0]
      rw [if_neg (by simp)]
      exact hK _ (by omega)
end Go.Proofs.Ytmedflaejnbkoaa.Pure

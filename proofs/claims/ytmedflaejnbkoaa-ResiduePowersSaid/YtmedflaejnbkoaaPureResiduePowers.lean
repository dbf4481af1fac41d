/- The pure statement of ResiduePowers: the program's Pow and Inverse are the reference's, or return its errors, for any machine integers. No conditions. -/
import Derived.Test.YtmedflaejnbkoaaS3
import Derived.Test.YtmedflaejnbkoaaQF8
namespace Go.Proofs.Ytmedflaejnbkoaa.Pure
open Go.RowKit Go.Proofs.YtmedflaejnbkoaaW.PrintWords Go.Proofs.YtmedflaejnbkoaaW.PrintLast Go.Proofs.YtmedflaejnbkoaaW.PrintMore Go.Proofs.Ytmedflaejnbkoaa.M Go.Proofs.Ytmedflaejnbkoaa.Q
set_option linter.unusedVariables false
set_option linter.unusedSimpArgs false

theorem powers_tail (a : Int) {m : Nat} (hm : 0 < m) (hM : m ≤ 2147483647) : ∃ x e : Int, Ev (fun k => residue_Inverse.f k a (m : Int)) (x, e) ∧ Ev (fun k => galoislaw04_ResiduePowers.j0 k a (m : Int) x e) true := by
  obtain ⟨Kc, hc⟩ := Coprime_spec a hm hM
  dsimp only at hc
  by_cases hcop : Nat.Coprime (res a m) m
  · obtain ⟨v, h1, h2, h3⟩ := Inverse_spec a hm hM hcop
    obtain ⟨v', h1', h2', K, h⟩ := Inverse_ref_spec a hm hM hcop
    obtain rfl := inv_unique hcop.symm h1 h1' h2 h2'
    dsimp only at h
    refine ⟨_, _, h3, Kc + K + 1, fun k hk => ?_⟩
    obtain ⟨j, rfl, hj⟩ := ex_succ hk
    simp only [galoislaw04_ResiduePowers.j0]
    rw [hc j (by omega), Option.bind_some, decide_eq_true hcop, if_pos rfl, h j (by omega), Option.bind_some, is_val, Option.bind_some]
  · refine ⟨_, _, Inverse_zero a hm hM hcop, Kc + 1, fun k hk => ?_⟩
    obtain ⟨j, rfl, hj⟩ := ex_succ hk
    simp only [galoislaw04_ResiduePowers.j0]
    rw [hc j (by omega), Option.bind_some, decide_eq_false hcop, if_neg (by simp), is_err (by omega), Option.bind_some]

theorem ResiduePowers : galoislaw04_ResiduePowers.Pure := by
  intro a0 a1 a2 w0 w1 w2
  obtain ⟨Ka, ha⟩ := awake_ev
  have b1 := wf_i64 w1
  by_cases hm : 1 ≤ a2 ∧ a2 ≤ 2147483647
  · obtain ⟨m, rfl⟩ := Int.eq_ofNat_of_zero_le (show 0 ≤ a2 by omega)
    obtain ⟨x, e, ⟨Ki, hi⟩, ⟨Kt, ht⟩⟩ := powers_tail a0 (m := m) (by omega) (by omega)
    dsimp only at hi ht
    by_cases hk : a1 < 0
    · refine ⟨Ka + Ki + Kt, ?_⟩
      simp only [galoislaw04_ResiduePowers.f]
      rw [ha _ (by omega), Option.bind_some, if_pos rfl, Pow_bad _ _ _ (Or.inl hk), Option.bind_some, hi _ (by omega), Option.bind_some, isMod_spec, Option.bind_some, decide_eq_true hm, if_pos rfl, if_pos hk]
      simp only []
      rw [is_err (by omega), Option.bind_some, if_pos rfl, ht _ (by omega)]
    · obtain ⟨Kp, hp⟩ := Pow_prog a0 (e := a1) (m := m) (by omega) (by omega) (by omega) (by omega)
      obtain ⟨Kq, hq⟩ := Pow_spec a0 (e := a1.toNat) (m := m) (by omega) (by omega) (by omega)
      dsimp only at hp hq
      rw [Int.toNat_of_nonneg (by omega)] at hq
      refine ⟨Ka + Ki + Kt + Kp + Kq, ?_⟩
      simp only [galoislaw04_ResiduePowers.f]
      rw [ha _ (by omega), Option.bind_some, if_pos rfl, hp _ (by omega), Option.bind_some, hi _ (by omega), Option.bind_some, isMod_spec, Option.bind_some, decide_eq_true hm, if_pos rfl, if_neg hk, hq _ (by omega), Option.bind_some]
      simp only []
      rw [is_val, Option.bind_some, if_pos rfl, ht _ (by omega)]
  · refine ⟨Ka, ?_⟩
    simp only [galoislaw04_ResiduePowers.f]
    rw [ha _ (by omega), Option.bind_some, if_pos rfl, Pow_bad _ _ _ (Or.inr hm), Option.bind_some, Inverse_bad _ _ hm, Option.bind_some, isMod_spec, Option.bind_some, decide_eq_false hm, if_neg (by simp)]
    simp only []
    rw [is_err (by omega), Option.bind_some, if_pos rfl, Option.bind_some]
end Go.Proofs.Ytmedflaejnbkoaa.Pure

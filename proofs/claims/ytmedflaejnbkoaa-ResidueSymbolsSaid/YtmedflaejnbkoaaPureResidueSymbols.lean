/- The pure statement of ResidueSymbols: the program's Legendre and Jacobi symbols are the reference's, and so are its square roots for moduli up to 100000, for any machine integers. No conditions. -/
import Derived.Test.YtmedflaejnbkoaaS7
import Derived.Test.YtmedflaejnbkoaaQF7
namespace Go.Proofs.Ytmedflaejnbkoaa.Pure
open Go.RowKit Go.Proofs.YtmedflaejnbkoaaW.PrintWords Go.Proofs.YtmedflaejnbkoaaW.PrintLast Go.Proofs.YtmedflaejnbkoaaW.PrintMore Go.Proofs.Ytmedflaejnbkoaa.M Go.Proofs.Ytmedflaejnbkoaa.Q
set_option linter.unusedVariables false
set_option linter.unusedSimpArgs false

theorem symbols_roots (a : Int) {n : Nat} (h0 : 0 < n) (hM : n ≤ 2147483647) (b : Bool) (hb : b = true ↔ Prm n) : Ev (fun k => galoislaw04_ResidueSymbols.j0 k a (n : Int) b) true := by
  by_cases hbig : (n : Int) > 100000
  · refine ⟨1, fun k hk => ?_⟩
    obtain ⟨j, rfl, hj⟩ := ex_succ hk
    simp only [galoislaw04_ResidueSymbols.j0]
    rw [if_pos hbig]
  · by_cases hp : Prm n
    · have hbt := hb.2 hp
      subst hbt
      have hlt := res_lt a h0
      have href := ref_sqrt_loop (res a n) h0 hM (n / 2 + 1) 0 (by omega)
      rcases SquareRoot_spec a hp hM with ⟨r, hr1, hr2, K1, hr3⟩ | ⟨hno, _, _, K1, hr3⟩
      · rcases href with ⟨r', _, h2, h3, _, K2, h5⟩ | ⟨h1, _⟩
        · obtain rfl := root_unique hp hr1 h2 (by rw [hr2, h3])
          dsimp only at hr3 h5
          refine ⟨K1 + K2 + 1, fun k hk => ?_⟩
          obtain ⟨j, rfl, hj⟩ := ex_succ hk
          simp only [galoislaw04_ResidueSymbols.j0, galoisref04_SquareRoot.f]
          rw [if_neg hbig, hr3 j (by omega), Option.bind_some, if_pos trivial, Mod_nat h0 hM, Option.bind_some]
          have h6 := h5 j (by omega)
          rw [show ((0 : Nat) : Int) = 0 from rfl] at h6
          rw [h6, Option.bind_some, if_pos rfl, is_val, Option.bind_some]
        · exact absurd hr2 (h1 r (by omega) hr1)
      · rcases href with ⟨r', _, _, h3, _⟩ | ⟨_, K2, h5⟩
        · exact absurd h3 (hno r')
        · dsimp only at hr3 h5
          refine ⟨K1 + K2 + 1, fun k hk => ?_⟩
          obtain ⟨j, rfl, hj⟩ := ex_succ hk
          simp only [galoislaw04_ResidueSymbols.j0, galoisref04_SquareRoot.f]
          rw [if_neg hbig, hr3 j (by omega), Option.bind_some, if_pos trivial, Mod_nat h0 hM, Option.bind_some]
          have h6 := h5 j (by omega)
          rw [show ((0 : Nat) : Int) = 0 from rfl] at h6
          rw [h6, Option.bind_some, if_neg (by simp), is_err (by omega), Option.bind_some]
    · have hbf : b = false := by
        cases b with
        | false => rfl
        | true => exact absurd (hb.1 rfl) hp
      subst hbf
      obtain ⟨K1, h1⟩ := SquareRoot_no a h0 hM hp
      dsimp only at h1
      refine ⟨K1 + 1, fun k hk => ?_⟩
      obtain ⟨j, rfl, hj⟩ := ex_succ hk
      simp only [galoislaw04_ResidueSymbols.j0]
      rw [if_neg hbig, h1 j (by omega), Option.bind_some, if_neg (by simp), is_err (by omega), Option.bind_some]

theorem ResidueSymbols : galoislaw04_ResidueSymbols.Pure := by
  intro a0 a1 w0 w1
  obtain ⟨Ka, ha⟩ := awake_ev
  by_cases hm : 1 ≤ a1 ∧ a1 ≤ 2147483647
  · obtain ⟨n, rfl⟩ := Int.eq_ofNat_of_zero_le (show 0 ≤ a1 by omega)
    have h0 : 0 < n := by omega
    have hM : n ≤ 2147483647 := by omega
    obtain ⟨b, hb, Kb, hpr⟩ := ref_IsPrime_spec h0 hM
    obtain ⟨Kj, hj⟩ := symbols_roots a0 h0 hM b hb
    dsimp only at hpr hj
    rcases Nat.mod_two_eq_zero_or_one n with he | ho
    · obtain ⟨K1, h1⟩ := Legendre_no a0 h0 hM (fun h => by omega)
      obtain ⟨K2, h2⟩ := Jacobi_even a0 (n := (n : Int)) (Or.inl (by omega))
      dsimp only at h1 h2
      refine ⟨Ka + Kb + Kj + K1 + K2, ?_⟩
      simp only [galoislaw04_ResidueSymbols.f]
      rw [ha _ (by omega), Option.bind_some, if_pos rfl, h1 _ (by omega), Option.bind_some, h2 _ (by omega), Option.bind_some, isMod_spec, Option.bind_some, decide_eq_true hm, if_pos rfl, hpr _ (by omega), Option.bind_some, Int.tmod_eq_emod_of_nonneg (by omega), if_pos (by omega), is_err (by omega), Option.bind_some, if_pos rfl]
      simp only []
      rw [is_err (by omega), Option.bind_some, if_pos rfl]
      exact hj _ (by omega)
    · obtain ⟨K2, h2⟩ := Jacobi_spec a0 ho hM
      obtain ⟨K3, h3⟩ := ref_Jacobi_spec a0 ho hM
      dsimp only at h2 h3
      by_cases hp : Prm n
      · have hbt := hb.2 hp
        subst hbt
        obtain ⟨K1, h1⟩ := Legendre_spec a0 hp ho hM
        obtain ⟨K4, h4⟩ := ref_Legendre_spec a0 hp ho hM
        dsimp only at h1 h4
        refine ⟨Ka + Kb + Kj + K1 + K2 + K3 + K4, ?_⟩
        simp only [galoislaw04_ResidueSymbols.f]
        rw [ha _ (by omega), Option.bind_some, if_pos rfl, h1 _ (by omega), Option.bind_some, h2 _ (by omega), Option.bind_some, isMod_spec, Option.bind_some, decide_eq_true hm, if_pos rfl, hpr _ (by omega), Option.bind_some, Int.tmod_eq_emod_of_nonneg (by omega), if_neg (by omega), h3 _ (by omega), Option.bind_some]
        simp only []
        rw [is_val, Option.bind_some, if_pos rfl, if_pos trivial, h4 _ (by omega), Option.bind_some, is_val, Option.bind_some, if_pos rfl]
        exact hj _ (by omega)
      · have hbf : b = false := by
          cases b with
          | false => rfl
          | true => exact absurd (hb.1 rfl) hp
        subst hbf
        obtain ⟨K1, h1⟩ := Legendre_no a0 h0 hM (fun h => hp h.1)
        dsimp only at h1
        refine ⟨Ka + Kb + Kj + K1 + K2 + K3, ?_⟩
        simp only [galoislaw04_ResidueSymbols.f]
        rw [ha _ (by omega), Option.bind_some, if_pos rfl, h1 _ (by omega), Option.bind_some, h2 _ (by omega), Option.bind_some, isMod_spec, Option.bind_some, decide_eq_true hm, if_pos rfl, hpr _ (by omega), Option.bind_some, Int.tmod_eq_emod_of_nonneg (by omega), if_neg (by omega), h3 _ (by omega), Option.bind_some]
        simp only []
        rw [is_val, Option.bind_some, if_pos rfl, if_neg (by simp), is_err (by omega), Option.bind_some, if_pos rfl]
        exact hj _ (by omega)
  · obtain ⟨K2, h2⟩ := Jacobi_even a0 (n := a1) (Or.inr hm)
    dsimp only at h2
    refine ⟨Ka + K2, ?_⟩
    simp only [galoislaw04_ResidueSymbols.f]
    rw [ha _ (by omega), Option.bind_some, if_pos rfl, Legendre_bad _ _ hm, Option.bind_some, h2 _ (by omega), Option.bind_some, isMod_spec, Option.bind_some, decide_eq_false hm, if_neg (by simp), SquareRoot_bad _ _ hm, Option.bind_some]
    simp only []
    rw [is_err (by omega), Option.bind_some, if_pos rfl, Option.bind_some, if_pos rfl, Option.bind_some]
end Go.Proofs.Ytmedflaejnbkoaa.Pure

/- The pure statement of ResidueFactors: the program's IsPrime, Factor, Divisors, Totient and Moebius are the reference's, or return its errors, for any machine integer. No conditions. -/
import Derived.Test.YtmedflaejnbkoaaS10b
import Derived.Test.YtmedflaejnbkoaaQF12
namespace Go.Proofs.Ytmedflaejnbkoaa.Pure
open Go.RowKit Go.Proofs.YtmedflaejnbkoaaW.PrintWords Go.Proofs.YtmedflaejnbkoaaW.PrintLast Go.Proofs.YtmedflaejnbkoaaW.PrintMore Go.Proofs.Ytmedflaejnbkoaa.M Go.Proofs.Ytmedflaejnbkoaa.Q
set_option linter.unusedVariables false
set_option linter.unusedSimpArgs false

theorem ResidueFactors : galoislaw04_ResidueFactors.Pure := by
  intro a0 w0
  obtain ⟨Ka, ha⟩ := awake_ev
  by_cases hm : 1 ≤ a0 ∧ a0 ≤ 2147483647
  · obtain ⟨m, rfl⟩ := Int.eq_ofNat_of_zero_le (show 0 ≤ a0 by omega)
    have h0 : 0 < m := by omega
    have hM : m ≤ 2147483647 := by omega
    obtain ⟨b, hb, K1, h1⟩ := IsPrime_prog h0 hM
    obtain ⟨b', hb', K2, h2⟩ := ref_IsPrime_spec h0 hM
    obtain ⟨K3, h3⟩ := Factor_prog h0 hM
    obtain ⟨K4, h4⟩ := ref_Factor_spec h0 hM
    obtain ⟨K5, h5⟩ := Divisors_spec h0 hM
    obtain ⟨K6, h6⟩ := ref_Divisors_spec h0 hM
    obtain ⟨K7, h7⟩ := Totient_spec h0 hM
    obtain ⟨K8, h8⟩ := ref_Totient_spec h0 hM
    obtain ⟨K9, h9⟩ := Moebius_spec h0 hM
    obtain ⟨K10, h10⟩ := ref_Moebius_spec h0 hM
    obtain ⟨K11, h11⟩ := samePowers_spec (facS m) (by have := facS_len h0; omega)
    obtain ⟨K12, h12⟩ := same_spec (toI (divs m)) (by have := divs_len h0; rw [toI_len]; omega)
    dsimp only at h1 h2 h3 h4 h5 h6 h7 h8 h9 h10 h11 h12
    have hbb : b = b' := by rw [Bool.eq_iff_iff, hb, hb']
    subst hbb
    refine ⟨Ka + K1 + K2 + K3 + K4 + K5 + K6 + K7 + K8 + K9 + K10 + K11 + K12 + 1, ?_⟩
    generalize hk : Ka + K1 + K2 + K3 + K4 + K5 + K6 + K7 + K8 + K9 + K10 + K11 + K12 = k
    simp only [galoislaw04_ResidueFactors.f]
    rw [h1 _ (by omega), Option.bind_some, h3 _ (by omega), Option.bind_some, h5 _ (by omega), Option.bind_some, h7 _ (by omega), Option.bind_some, h9 _ (by omega), Option.bind_some, isMod_spec, Option.bind_some, decide_eq_true hm, if_pos rfl, if_pos rfl, if_pos rfl]
    simp only [galoislaw04_ResidueFactors.j0]
    rw [if_neg (by simp), ha _ (by omega), Option.bind_some, if_pos rfl, h2 _ (by omega), Option.bind_some, if_pos (by simp), h4 _ (by omega), Option.bind_some, h11 _ (by omega), Option.bind_some, if_pos rfl, h6 _ (by omega), Option.bind_some, h12 _ (by omega), Option.bind_some, if_pos rfl, h8 _ (by omega), Option.bind_some, is_val, Option.bind_some, if_pos rfl, h10 _ (by omega), Option.bind_some, is_val, Option.bind_some]
  · refine ⟨Ka, ?_⟩
    simp only [galoislaw04_ResidueFactors.f, residue_IsPrime.f, residue_Factor.f, residue_Divisors.f, residue_Totient.f, residue_Moebius.f]
    rw [bad_one' hm, isMod_spec, ha _ (by omega), decide_eq_false hm]
    simp [is_err]
end Go.Proofs.Ytmedflaejnbkoaa.Pure

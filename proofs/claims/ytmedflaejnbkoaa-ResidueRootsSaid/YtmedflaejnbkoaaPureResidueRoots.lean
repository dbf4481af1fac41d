/- The pure statement of ResidueRoots: for odd primes the program finds a square root exactly if the Legendre symbol is not -1; the root's square is congruent to the number, and the root is at most (p - 1) / 2; for every machine integer and every 32 bit number. No conditions. -/
import Derived.Test.YtmedflaejnbkoaaS7
import Derived.Test.YtmedflaejnbkoaaQF10
namespace Go.Proofs.Ytmedflaejnbkoaa.Pure
open Go.RowKit Go.Proofs.YtmedflaejnbkoaaW.PrintWords Go.Proofs.YtmedflaejnbkoaaW.PrintLast Go.Proofs.YtmedflaejnbkoaaW.PrintMore Go.Proofs.Ytmedflaejnbkoaa.M Go.Proofs.Ytmedflaejnbkoaa.Q
set_option linter.unusedVariables false
set_option linter.unusedSimpArgs false

theorem roots_odd_of {x : Int} (h : (Lit.int .u32 x).wf = true) : ∃ b : Nat, Go.bits .or .i64 (Int.tmod (wrap64 x) 2147483647) 1 = (b : Int) ∧ b % 2 = 1 ∧ b ≤ 2147483647 := by
  obtain ⟨h0, h1⟩ := wf_u32 h
  rw [wrap_id (by omega) (by omega), Int.tmod_eq_emod_of_nonneg h0]
  obtain ⟨c, hc⟩ : ∃ c : Nat, x % 2147483647 = (c : Int) := ⟨(x % 2147483647).toNat, by omega⟩
  have hlt : c < 2147483647 := by omega
  rw [hc]
  have h2 := (bits_nat .i64 63 (by decide) (fun n h0 h1 => by unfold IntKind.wrap; simp [IntKind.bits, IntKind.signed]; omega) c 1 (by omega) (by omega)).2
  refine ⟨c ||| 1, h2, Nat.or_mod_two_eq_one.2 (Or.inr rfl), ?_⟩
  have h3 : c ||| 1 < 2 ^ 31 := Nat.or_lt_two_pow (by omega) (by omega)
  omega
theorem roots_tail (a : Int) {p : Nat} (hp : Prm p) (h2 : p % 2 = 1) (hM : p ≤ 2147483647) : ∃ l s e : Int, Ev (fun k => residue_Legendre.f k a (p : Int)) (l, 0) ∧ Ev (fun k => residue_SquareRoot.f k a (p : Int)) (s, e) ∧ ((e == 0) != (decide (l ≥ 0))) = false ∧ Ev (fun k => galoislaw04_ResidueRoots.j1 k a (p : Int) l s e false) true := by
  have hp2 := hp.1
  rcases SquareRoot_spec a hp hM with ⟨r, hr1, hr2, hr3⟩ | ⟨hno, hj, _, hr3⟩
  · have hl : jac (res a p) p ≠ -1 := jac_sq hp h2 (x := r) (by rw [hr2, Nat.mod_eq_of_lt (res_lt a (by omega))])
    have hge : 0 ≤ jac (res a p) p := by rcases jac_cases (res a p) p with h | h | h <;> omega
    refine ⟨_, _, _, Legendre_spec a hp h2 hM, hr3, by rw [decide_eq_true hge]; rfl, 1, fun k hk => ?_⟩
    obtain ⟨j, rfl, hj⟩ := ex_succ hk
    have m1 := mul_lt_w (a := (r : Int)) (b := (r : Int)) (by omega) (by omega) (by omega) (by omega)
    simp only [galoislaw04_ResidueRoots.j1]
    rw [if_neg (by simp), if_neg (by omega), if_pos (by omega), half_val h2 hM, if_pos (by omega), if_neg (by omega), Mod_nat (by omega) hM, Option.bind_some, wrap_id (by omega) (by omega), Int.tmod_eq_emod_of_nonneg m1.1, ← Int.natCast_mul, ← Int.natCast_emod, hr2]
    simp
  · refine ⟨_, _, _, Legendre_spec a hp h2 hM, hr3, by rw [hj]; rfl, 1, fun k hk => ?_⟩
    obtain ⟨j, rfl, hj'⟩ := ex_succ hk
    simp only [galoislaw04_ResidueRoots.j1]
    rw [if_neg (by simp), if_pos (by omega), if_pos trivial]
    rfl
theorem ResidueRoots : galoislaw04_ResidueRoots.Pure := by
  intro a0 a1 w0 w1
  obtain ⟨Ka, ha⟩ := awake_ev
  obtain ⟨p, e1, h2, hM⟩ := roots_odd_of w1
  obtain ⟨b, hb, Kp, hp⟩ := IsPrime_spec (n := p) (by omega) hM
  dsimp only at hp
  by_cases hprm : Prm p
  · have hbt := hb.2 hprm
    subst hbt
    have hp2 := hprm.1
    obtain ⟨l, s, e, ⟨K1, h1⟩, ⟨K3, h3⟩, h4, ⟨K5, h5⟩⟩ := roots_tail a0 hprm h2 hM
    have hlt := res_lt a0 (m := p) (by omega)
    obtain ⟨t, ht1, ht2, K6, ht3⟩ : ∃ t : Nat, t ≤ p / 2 ∧ t * t % p = res a0 p * res a0 p % p ∧ Ev (fun k => residue_SquareRoot.f k ((res a0 p * res a0 p % p : Nat) : Int) (p : Int)) ((t : Int), 0) := by
      rcases SquareRoot_spec ((res a0 p * res a0 p % p : Nat) : Int) hprm hM with ⟨r, hr1, hr2, hr3⟩ | ⟨hno, _, _, _⟩
      · rw [res_nat, Nat.mod_mod] at hr2
        exact ⟨r, hr1, hr2, hr3⟩
      · exfalso
        refine hno (res a0 p) ?_
        rw [res_nat, Nat.mod_mod]
    dsimp only at h1 h3 h5 ht3
    have m1 := mul_lt_w (a := ((res a0 p : Nat) : Int)) (b := ((res a0 p : Nat) : Int)) (by omega) (by omega) (by omega) (by omega)
    have m2 := mul_lt_w (a := (t : Int)) (b := (t : Int)) (by omega) (by omega) (by omega) (by omega)
    refine ⟨Ka + Kp + K1 + K3 + K5 + K6 + 1, ?_⟩
    simp only [galoislaw04_ResidueRoots.f]
    rw [e1, ha _ (by omega), Option.bind_some, if_pos rfl, hp _ (by omega), Option.bind_some, if_pos rfl]
    simp only [galoislaw04_ResidueRoots.j0]
    rw [if_neg (by simp), h1 _ (by omega), Option.bind_some, h3 _ (by omega), Option.bind_some, Mod_nat (by omega) hM, Option.bind_some, if_neg (by omega)]
    rw [wrap_id (x := ((res a0 p : Nat) : Int) * ((res a0 p : Nat) : Int)) (by omega) (by omega), Int.tmod_eq_emod_of_nonneg m1.1, ← Int.natCast_mul, ← Int.natCast_emod, ht3 _ (by omega), Option.bind_some]
    simp only [if_true]
    rw [if_neg (by omega), half_val h2 hM, if_neg (by omega), wrap_id (x := (t : Int) * (t : Int)) (by omega) (by omega), Int.tmod_eq_emod_of_nonneg m2.1, if_pos (by rw [← Int.natCast_mul, ← Int.natCast_emod, ht2]), h4]
    exact h5 _ (by omega)
  · have hbf : b = false := by
      cases b with
      | false => rfl
      | true => exact absurd (hb.1 rfl) hprm
    subst hbf
    refine ⟨Ka + Kp + 1, ?_⟩
    simp only [galoislaw04_ResidueRoots.f]
    rw [e1, ha _ (by omega), Option.bind_some, if_pos rfl, hp _ (by omega), Option.bind_some, if_pos rfl]
    simp only [galoislaw04_ResidueRoots.j0]
    rfl
end Go.Proofs.Ytmedflaejnbkoaa.Pure

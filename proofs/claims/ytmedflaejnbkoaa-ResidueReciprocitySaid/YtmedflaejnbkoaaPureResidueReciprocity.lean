/- The pure statement of ResidueReciprocity: the program's Jacobi symbols of odd coprime numbers satisfy the law of quadratic reciprocity and its two supplements, for every pair of 32 bit numbers. No conditions. -/
import Derived.Test.YtmedflaejnbkoaaS2
import Derived.Test.YtmedflaejnbkoaaQF5
namespace Go.Proofs.Ytmedflaejnbkoaa.Pure
open Go.RowKit Go.Proofs.YtmedflaejnbkoaaW.PrintWords Go.Proofs.YtmedflaejnbkoaaW.PrintLast Go.Proofs.YtmedflaejnbkoaaW.PrintMore Go.Proofs.Ytmedflaejnbkoaa.M Go.Proofs.Ytmedflaejnbkoaa.Q
set_option linter.unusedVariables false
set_option linter.unusedSimpArgs false

theorem odd_of {x : Int} (h : (Lit.int .u32 x).wf = true) : ∃ b : Nat, Go.bits .or .i64 (Int.tmod (wrap64 x) 2147483647) 1 = (b : Int) ∧ b % 2 = 1 ∧ b ≤ 2147483647 := by
  obtain ⟨h0, h1⟩ := wf_u32 h
  rw [wrap_id (by omega) (by omega), Int.tmod_eq_emod_of_nonneg h0]
  obtain ⟨c, hc⟩ : ∃ c : Nat, x % 2147483647 = (c : Int) := ⟨(x % 2147483647).toNat, by omega⟩
  have hlt : c < 2147483647 := by omega
  rw [hc]
  have h2 := (bits_nat .i64 63 (by decide) (fun n h0 h1 => by unfold IntKind.wrap; simp [IntKind.bits, IntKind.signed]; omega) c 1 (by omega) (by omega)).2
  refine ⟨c ||| 1, h2, Nat.or_mod_two_eq_one.2 (Or.inr rfl), ?_⟩
  have h3 : c ||| 1 < 2 ^ 31 := Nat.or_lt_two_pow (by omega) (by omega)
  omega
theorem sq_one {s : Int} (h : s = 1 ∨ s = -1) : wrap64 (s * s) = 1 := by rcases h with rfl | rfl <;> (unfold wrap64; omega)
theorem jac_pm {a n : Nat} (h : Nat.Coprime a n) : jac a n = 1 ∨ jac a n = -1 := by rw [jac_cop h]; exact sg_cases _
theorem beq_same {a b : Bool} (h : a = b) : (a == b) = true := by subst h; exact beq_self_eq_true a

theorem ResidueReciprocity : galoislaw04_ResidueReciprocity.Pure := by
  intro a0 a1 w0 w1
  obtain ⟨Ka, ha⟩ := awake_ev
  obtain ⟨a, e0, ao, aM⟩ := odd_of w0
  obtain ⟨b, e1, bo, bM⟩ := odd_of w1
  obtain ⟨K1, h1⟩ := Gcd_spec b a
  obtain ⟨K2, h2⟩ := Jacobi_spec (a : Int) bo bM
  obtain ⟨K3, h3⟩ := Jacobi_spec (b : Int) ao aM
  obtain ⟨K4, h4⟩ := Jacobi_spec (-1) bo bM
  obtain ⟨K5, h5⟩ := Jacobi_spec 2 bo bM
  dsimp only at h1 h2 h3 h4 h5
  refine ⟨Ka + K1 + K2 + K3 + K4 + K5, ?_⟩
  have ha := ha (Ka + K1 + K2 + K3 + K4 + K5) (by omega)
  have h1 := h1 (Ka + K1 + K2 + K3 + K4 + K5) (by omega)
  have h2 := h2 (Ka + K1 + K2 + K3 + K4 + K5) (by omega)
  have h3 := h3 (Ka + K1 + K2 + K3 + K4 + K5) (by omega)
  have h4 := h4 (Ka + K1 + K2 + K3 + K4 + K5) (by omega)
  have h5 := h5 (Ka + K1 + K2 + K3 + K4 + K5) (by omega)
  generalize Ka + K1 + K2 + K3 + K4 + K5 = k at *
  unfold galoislaw04_ResidueReciprocity.f
  rw [e0, e1, ha, Option.bind_some, if_pos rfl, h1, Option.bind_some]
  by_cases hg : ((Nat.gcd a b : Nat) : Int) > 1
  · rw [if_pos hg]
  · rw [if_neg hg, h2, Option.bind_some, h3, Option.bind_some, h4, Option.bind_some, h5, Option.bind_some]
    have hc : Nat.Coprime a b := by
      have := Nat.gcd_pos_of_pos_left b (show 0 < a by omega)
      unfold Nat.Coprime
      omega
    rw [res_nat, res_nat, jac_mod, jac_mod]
    have r1 : jac (res (-1) b) b = if b % 4 = 1 then 1 else -1 := by
      rw [← jac_neg1 bo, ← jac_mod (b - 1) b]
      by_cases h : b = 1
      · subst h; rw [jac_one, jac_one]
      · have e : res (-1) b = (b - 1) % b := by
          have := res_cast (-1) (m := b) (by omega)
          rw [Nat.mod_eq_of_lt (by omega)]
          have h2 : (-1 : Int) % (b : Int) = b - 1 := by
            rw [← Int.add_emod_right, Int.emod_eq_of_lt (by omega) (by omega)]
            omega
          omega
        rw [e]
    have r2 : jac (res 2 b) b = if b % 8 = 3 ∨ b % 8 = 5 then -1 else 1 := by
      rw [← jac_two bo, show (2 : Int) = ((2 : Nat) : Int) from rfl, res_nat, jac_mod]
    have p1 := jac_pm hc
    have p2 := jac_pm hc.symm
    have fl := jac_flip ao bo
    have p3 : jac (res (-1) b) b = 1 ∨ jac (res (-1) b) b = -1 := by rw [r1]; split <;> simp
    have p4 : jac (res 2 b) b = 1 ∨ jac (res 2 b) b = -1 := by rw [r2]; split <;> simp
    simp only [if_true]
    rw [if_pos (sq_one p1), if_pos (sq_one p2), if_pos (sq_one p3), if_pos (sq_one p4)]
    have q : ∀ m : Nat, ∀ c : Int, Int.tmod (m : Int) c = (m : Int) % c := fun m c => Int.tmod_eq_emod_of_nonneg (by omega)
    simp only [q]
    have f1 : (wrap64 (jac a b * jac b a) == (-1)) = (decide (a % 4 = 3 ∧ b % 4 = 3)) := by
      rw [fl, Int.mul_assoc]
      have e2 : jac b a * jac b a = 1 := by rcases p2 with h | h <;> rw [h] <;> rfl
      rw [e2, Int.mul_one]
      split
      · rename_i h; rw [decide_eq_true h, beq_iff_eq]; unfold wrap64; omega
      · rename_i h; rw [decide_eq_false h, beq_eq_false_iff_ne]; unfold wrap64; omega
    have f2 : (jac (res (-1) b) b == 1) = ((b : Int) % 4 == 1) := by
      rw [r1, Bool.eq_iff_iff, beq_iff_eq, beq_iff_eq]
      split <;> omega
    rw [f1, f2]
    have f4 : ((if ((b : Int) % 8) = 1 then (some ((jac (res 2 b) b == 1) == true)) else (some ((jac (res 2 b) b == 1) == ((b : Int) % 8 == 7)))) : Option Bool) = some true := by
      rw [r2]
      by_cases h8 : (b : Int) % 8 = 1
      · rw [if_pos h8, if_neg (by omega)]; rfl
      · rw [if_neg h8]
        congr 1
        apply beq_same
        rw [Bool.eq_iff_iff, beq_iff_eq, beq_iff_eq]
        split <;> omega
    by_cases h4 : (a : Int) % 4 = 3
    · rw [if_pos h4, if_pos, if_pos (beq_same rfl)]
      · exact f4
      · apply beq_same
        rw [Bool.eq_iff_iff, decide_eq_true_eq, beq_iff_eq]
        omega
    · rw [if_neg h4, if_pos, if_pos (beq_same rfl)]
      · exact f4
      · apply beq_same
        rw [decide_eq_false]
        omega
end Go.Proofs.Ytmedflaejnbkoaa.Pure

/- The program's examples hold (awake), and its Jacobi symbol is the Jacobi symbol. No conditions. -/
import Derived.Test.YtmedflaejnbkoaaS1
import Derived.Test.YtmedflaejnbkoaaM2
import Derived.Test.YtmedflaejnbkoaaQG1
import Derived.Test.YtmedflaejnbkoaaQG2
namespace Go.Proofs.Ytmedflaejnbkoaa.Q
open Go.RowKit Go.Proofs.YtmedflaejnbkoaaW.PrintWords Go.Proofs.YtmedflaejnbkoaaW.PrintLast Go.Proofs.YtmedflaejnbkoaaW.PrintMore Go.Proofs.Ytmedflaejnbkoaa.M
set_option linter.unusedVariables false
set_option linter.unusedSimpArgs false

set_option maxRecDepth 100000 in
theorem awake_at : galoislaw04_awake.f 40 = some true := by decide +kernel
theorem awake_ev : Ev galoislaw04_awake.f true := Ev.of galoislaw04_awake.mono awake_at

theorem bad_one {m : Int} (h0 : 1 ≤ m) (h1 : m ≤ 2147483647) : residue_bad.f [m] = some false := by
  simp only [residue_bad.f, List.any_cons, List.any_nil, badP, Bool.or_false]
  rw [decide_eq_false (by omega), decide_eq_false (by omega)]
  rfl
theorem bad_one' {m : Int} (h : ¬ (1 ≤ m ∧ m ≤ 2147483647)) : residue_bad.f [m] = some true := by
  simp only [residue_bad.f, List.any_cons, List.any_nil, badP, Bool.or_false]
  by_cases h0 : m < 1
  · rw [decide_eq_true h0]; rfl
  · rw [decide_eq_false h0, decide_eq_true (by omega)]; rfl
theorem neg_sign {s : Int} (h : s = 1 ∨ s = -1) : wrap64 (-s) = -1 * s ∧ (-1 * s = 1 ∨ -1 * s = -1) := by
  unfold wrap64; omega
theorem jacobi_loop : ∀ (a n : Nat) (s : Int), n % 2 = 1 → n ≤ 2147483647 → a ≤ 2147483647 → (s = 1 ∨ s = -1) → Ev (fun k => residue_Jacobi.l0 k (a : Int) (n : Int) s) (s * jac a n, 0) := by
  intro a
  induction a using Nat.strongRecOn with
  | ind a ih =>
    -- the inner loop, at any divisor of a by a power of 2
    have inner : ∀ b : Nat, 0 < b → b ≤ a → ∀ (n : Nat) (s : Int), n % 2 = 1 → n ≤ 2147483647 → (s = 1 ∨ s = -1) → a ≤ 2147483647 → Ev (fun k => residue_Jacobi.l1 k (b : Int) (n : Int) s) (s * jac b n, 0) := by
      intro b
      induction b using Nat.strongRecOn with
      | ind b ihb =>
        intro hb hba n s hn hnM hs haM
        rcases Nat.mod_two_eq_zero_or_one b with he | ho
        · -- even
          have hb2 : b = 2 * (b / 2) := by omega
          have hj : jac b n = jac 2 n * jac (b / 2) n := by
            have h := jac_mul (a := 2) (b := b / 2) hn
            rwa [← hb2] at h
          have hcase : Ev (fun k => residue_Jacobi.l1 k ((b / 2 : Nat) : Int) (n : Int) (if n % 8 = 3 ∨ n % 8 = 5 then wrap64 (-s) else s)) (s * jac b n, 0) := by
            rw [hj, jac_two hn]
            split
            · obtain ⟨e1, e2⟩ := neg_sign hs
              have h := ihb (b / 2) (by omega) (by omega) (by omega) n (-1 * s) hn hnM e2 haM
              rw [e1]
              rwa [← Int.mul_assoc, Int.mul_comm s (-1)]
            · have h := ihb (b / 2) (by omega) (by omega) (by omega) n s hn hnM hs haM
              rwa [Int.one_mul]
          obtain ⟨K, h⟩ := hcase
          dsimp only at h
          refine ⟨K + 1, fun k hk => ?_⟩
          obtain ⟨j, rfl, hj⟩ := ex_succ hk
          have h1 := h j hj
          simp only [residue_Jacobi.l1]
          rw [Int.tmod_eq_emod_of_nonneg (by omega : (0 : Int) ≤ b), if_pos (by omega), Int.tdiv_eq_ediv_of_nonneg (by omega : (0 : Int) ≤ b), wrap_id (x := (b : Int) / 2) (by omega) (by omega), Int.tmod_eq_emod_of_nonneg (by omega : (0 : Int) ≤ n), show (b : Int) / 2 = ((b / 2 : Nat) : Int) by omega]
          by_cases h3 : n % 8 = 3
          · rw [if_pos (by omega)]
            rw [if_pos (Or.inl h3)] at h1
            exact h1
          · rw [if_neg (by omega)]
            by_cases h5 : n % 8 = 5
            · rw [if_pos (by omega)]
              rw [if_pos (Or.inr h5)] at h1
              exact h1
            · rw [if_neg (by omega)]
              rw [if_neg (by omega)] at h1
              exact h1
        · -- odd: the swap
          have hlt : n % b < b := Nat.mod_lt _ hb
          have hcase : Ev (fun k => residue_Jacobi.l0 k ((n % b : Nat) : Int) (b : Int) (if b % 4 = 3 ∧ n % 4 = 3 then wrap64 (-s) else s)) (s * jac b n, 0) := by
            rw [jac_flip ho hn, ← jac_mod n b]
            split
            · obtain ⟨e1, e2⟩ := neg_sign hs
              have h := ih (n % b) (by omega) b (-1 * s) ho (by omega) (by omega) e2
              rw [e1]
              rwa [← Int.mul_assoc, Int.mul_comm s (-1)]
            · have h := ih (n % b) (by omega) b s ho (by omega) (by omega) hs
              rwa [Int.one_mul]
          obtain ⟨K, h⟩ := hcase
          dsimp only at h
          refine ⟨K + 1, fun k hk => ?_⟩
          obtain ⟨j, rfl, hj⟩ := ex_succ hk
          have h1 := h j hj
          simp only [residue_Jacobi.l1]
          rw [Int.tmod_eq_emod_of_nonneg (by omega : (0 : Int) ≤ b), if_neg (by omega), Int.tmod_eq_emod_of_nonneg (by omega : (0 : Int) ≤ b), Int.tmod_eq_emod_of_nonneg (by omega : (0 : Int) ≤ n), Int.tmod_eq_emod_of_nonneg (by omega : (0 : Int) ≤ n), show (n : Int) % b = ((n % b : Nat) : Int) by simp]
          by_cases h3 : b % 4 = 3
          · rw [if_pos (by omega)]
            by_cases h4 : n % 4 = 3
            · rw [if_pos (by omega), if_neg (by omega)]
              rw [if_pos ⟨h3, h4⟩] at h1
              exact h1
            · rw [if_neg (by omega), if_neg (by omega)]
              rw [if_neg (by omega)] at h1
              exact h1
          · rw [if_neg (by omega), if_neg (by omega)]
            rw [if_neg (by omega)] at h1
            exact h1
    intro n s hn hnM haM hs
    rcases Nat.eq_zero_or_pos a with rfl | ha
    · refine ⟨1, fun k hk => ?_⟩
      obtain ⟨j, rfl, hj⟩ := ex_succ hk
      simp only [residue_Jacobi.l0]
      rw [if_neg (by omega)]
      by_cases h1 : n = 1
      · subst h1
        rw [if_neg (by omega), jac_one, Int.mul_one]
      · rw [if_pos (by omega), jac_not, Int.mul_zero]
        unfold Nat.Coprime
        rw [Nat.gcd_zero_left]
        exact h1
    · obtain ⟨K, h⟩ := inner a ha (Nat.le_refl a) n s hn hnM hs haM
      dsimp only at h
      refine ⟨K + 1, fun k hk => ?_⟩
      obtain ⟨j, rfl, hj⟩ := ex_succ hk
      simp only [residue_Jacobi.l0]
      rw [if_pos (by omega)]
      exact h j hj
theorem Jacobi_spec (a : Int) {n : Nat} (hn : n % 2 = 1) (hM : n ≤ 2147483647) : Ev (fun k => residue_Jacobi.f k a (n : Int)) (jac (res a n) n, 0) := by
  have hlt := res_lt a (m := n) (by omega)
  obtain ⟨K, h⟩ := jacobi_loop (res a n) n 1 hn hM (by omega) (Or.inl rfl)
  dsimp only at h
  refine ⟨K + 1, fun k hk => ?_⟩
  obtain ⟨j, rfl, hj⟩ := ex_succ hk
  simp only [residue_Jacobi.f]
  rw [bad_one (by omega) (by omega), Option.bind_some, if_neg (by simp), Int.tmod_eq_emod_of_nonneg (by omega : (0 : Int) ≤ n)]
  simp only [residue_Jacobi.j0]
  rw [if_neg (by simp; omega), mod_nat (by omega) hM, Option.bind_some, h j hj, Int.one_mul]
theorem Jacobi_even (a : Int) {n : Int} (hn : n % 2 = 0 ∨ ¬ (1 ≤ n ∧ n ≤ 2147483647)) : Ev (fun k => residue_Jacobi.f k a n) (0, 3) := by
  refine ⟨1, fun k hk => ?_⟩
  obtain ⟨j, rfl, hj⟩ := ex_succ hk
  simp only [residue_Jacobi.f]
  by_cases h : 1 ≤ n ∧ n ≤ 2147483647
  · rw [bad_one h.1 h.2, Option.bind_some, if_neg (by simp), Int.tmod_eq_emod_of_nonneg (by omega : (0 : Int) ≤ n)]
    simp only [residue_Jacobi.j0]
    rw [if_pos (by simp; omega)]
  · rw [bad_one' h, Option.bind_some, if_pos rfl]
    simp only [residue_Jacobi.j0]
    rfl
end Go.Proofs.Ytmedflaejnbkoaa.Q

/- The reference's Jacobi symbol is the Jacobi symbol; its square roots. No conditions. -/
import Derived.Test.YtmedflaejnbkoaaS6
import Derived.Test.YtmedflaejnbkoaaQF30
import Derived.Test.YtmedflaejnbkoaaQF32
import Derived.Test.YtmedflaejnbkoaaQF39
namespace Go.Proofs.Ytmedflaejnbkoaa.Q
open Go.RowKit Go.Proofs.YtmedflaejnbkoaaW.PrintWords Go.Proofs.YtmedflaejnbkoaaW.PrintLast Go.Proofs.YtmedflaejnbkoaaW.PrintMore Go.Proofs.Ytmedflaejnbkoaa.M
set_option linter.unusedVariables false
set_option linter.unusedSimpArgs false

theorem odd_of_dvd {d n : Nat} (h : d ∣ n) (hn : n % 2 = 1) : d % 2 = 1 := by
  obtain ⟨t, rfl⟩ := h
  rcases Nat.mod_two_eq_zero_or_one d with h | h
  · rw [Nat.mul_mod, h] at hn
    simp at hn
  · exact h
theorem jac_pow {a p : Nat} (hp : p % 2 = 1) : ∀ e : Nat, jac a (p ^ e) = (jac a p) ^ e
  | 0 => by rw [Nat.pow_zero, jac_one, Int.pow_zero]
  | e + 1 => by rw [Nat.pow_succ, jac_mul_right (by rw [Nat.pow_mod, hp, Nat.one_pow]) hp, jac_pow hp e, Int.pow_succ]
theorem unit3 {x y : Int} (hx : x = 1 ∨ x = -1 ∨ x = 0) (hy : y = 1 ∨ y = -1 ∨ y = 0) : x * y = 1 ∨ x * y = -1 ∨ x * y = 0 := by
  rcases hx with rfl | rfl | rfl <;> rcases hy with rfl | rfl | rfl <;> decide
theorem ref_jacobi_inner (a : Int) (l : List (Nat × Nat)) (pre : List (Nat × Nat)) (q : Nat × Nat) (rest : List (Nat × Nat)) (hl : l = pre ++ q :: rest) (hlen : l.length ≤ 2147483647) (hq : Prm q.1) (hq2 : q.1 % 2 = 1) (hqM : q.1 ≤ 2147483647) (hqe : q.2 ≤ 2147483647) (r : Int) : ∀ (d c : Nat) (x : Int), c + d = q.2 → (x = 1 ∨ x = -1 ∨ x = 0) →
    Ev (fun k => galoisref04_Jacobi.l0 k a (x * jac (res a q.1) q.1 ^ d) (l.map toS) ((pre.length + 1 : Nat) : Int)) r → Ev (fun k => galoisref04_Jacobi.l1 k a x (l.map toS) (pre.length : Int) (c : Int)) r
  | 0, c, x, hc, hx, ⟨K, hK⟩ => by
    dsimp only at hK
    refine ⟨K + 1, fun k hk => ?_⟩
    obtain ⟨j, rfl, hj⟩ := ex_succ hk
    have hl2 : pre.length < l.length := by rw [hl]; simp
    have hr : rd_T53 (l.map toS) (pre.length : Int) = toS q := by rw [hl, rd_at]
    simp only [galoisref04_Jacobi.l1]
    rw [if_pos (by omega), if_pos (by rw [List.length_map]; omega), hr]
    simp only [toS_f0, toS_f1]
    rw [if_neg (by omega), wrap_id (by omega) (by omega)]
    have := hK j hj
    rw [Int.pow_zero, Int.mul_one] at this
    exact this
  | d + 1, c, x, hc, hx, h => by
    have hj3 := jac_cases (res a q.1) q.1
    have hx3 := unit3 hx hj3
    obtain ⟨K, hK⟩ := ref_jacobi_inner a l pre q rest hl hlen hq hq2 hqM hqe r d (c + 1) (x * jac (res a q.1) q.1) (by omega) hx3 (by rw [Int.mul_assoc, Int.mul_comm (jac _ _), ← Int.pow_succ]; exact h)
    obtain ⟨K2, hK2⟩ := ref_Legendre_spec a hq hq2 hqM
    dsimp only at hK hK2
    refine ⟨K + K2 + 1, fun k hk => ?_⟩
    obtain ⟨j, rfl, hj⟩ := ex_succ hk
    have hl2 : pre.length < l.length := by rw [hl]; simp
    have hr : rd_T53 (l.map toS) (pre.length : Int) = toS q := by rw [hl, rd_at]
    simp only [galoisref04_Jacobi.l1]
    rw [if_pos (by omega), if_pos (by rw [List.length_map]; omega), hr]
    simp only [toS_f0, toS_f1]
    rw [if_pos (by omega), hK2 j (by omega), Option.bind_some, wrap_id (by omega) (by omega), wrap_id (by omega) (by omega)]
    exact hK j (by omega)
theorem res_res (a : Int) {m n : Nat} (hm : 0 < m) (hn : 0 < n) (h : m ∣ n) : res a n % m = res a m := by
  have h1 := res_cast a hn
  have h2 := res_cast a hm
  have h3 : ((res a n % m : Nat) : Int) = ((res a m : Nat) : Int) := by
    rw [Int.natCast_emod, h1, h2, Int.emod_emod_of_dvd _ (Int.ofNat_dvd.2 h)]
  exact Int.ofNat_inj.1 h3
theorem ref_jacobi_loop (a : Int) (N : Nat) (hN : N ≤ 2147483647) (hodd : N % 2 = 1) : ∀ (rest pre : List (Nat × Nat)), FacL (pre ++ rest) N → Ev (fun k => galoisref04_Jacobi.l0 k a (jac (res a N) (prodL pre)) ((pre ++ rest).map toS) (pre.length : Int)) (jac (res a N) N)
  | [], pre, hf => by
    refine ⟨1, fun k hk => ?_⟩
    obtain ⟨j, rfl, hj⟩ := ex_succ hk
    simp only [galoisref04_Jacobi.l0]
    have := hf.prod
    rw [List.append_nil] at this
    rw [if_neg (by simp), this]
  | q :: rest, pre, hf => by
    have hqm : q ∈ pre ++ q :: rest := by simp
    have hq := hf.prm q hqm
    have hlen := len_lt hf.prm
    rw [hf.prod] at hlen
    have hlen2 : pre.length < (pre ++ q :: rest).length := by simp
    have hqN : q.1 ≤ N := Nat.le_of_dvd hf.pos (hf.mem_dvd1 hqm)
    have hex := exp_lt hf hqm
    have hq2 := odd_of_dvd (hf.mem_dvd1 hqm) hodd
    have hpre : prodL pre % 2 = 1 := odd_of_dvd (n := N) ⟨prodL (q :: rest), by rw [← prodL_append]; exact hf.prod.symm⟩ hodd
    have e : jac (res a N) (prodL (pre ++ [q])) = jac (res a N) (prodL pre) * jac (res a q.1) q.1 ^ q.2 := by
      rw [prodL_append, prodL, prodL, Nat.mul_one, jac_mul_right hpre (by rw [Nat.pow_mod, hq2, Nat.one_pow]), jac_pow hq2, ← jac_mod (res a N) q.1, res_res a (prm_pos hq.1) hf.pos (hf.mem_dvd1 hqm)]
    obtain ⟨K, hK⟩ := ref_jacobi_inner a (pre ++ q :: rest) pre q rest rfl (by omega) hq.1 hq2 (by omega) (by omega) (jac (res a N) N) q.2 0 (jac (res a N) (prodL pre)) (by omega) (jac_cases _ _) (by
      have := ref_jacobi_loop a N hN hodd rest (pre ++ [q]) (by rw [List.append_assoc]; exact hf)
      rw [List.append_assoc, List.singleton_append, List.length_append, List.length_singleton, e] at this
      exact this)
    dsimp only at hK
    refine ⟨K + 1, fun k hk => ?_⟩
    obtain ⟨j, rfl, hj⟩ := ex_succ hk
    simp only [galoisref04_Jacobi.l0]
    rw [if_pos (by rw [List.length_map]; omega)]
    exact hK j hj
theorem ref_Jacobi_spec (a : Int) {n : Nat} (hodd : n % 2 = 1) (hN : n ≤ 2147483647) : Ev (fun k => galoisref04_Jacobi.f k a (n : Int)) (jac (res a n) n) := by
  obtain ⟨K, hK⟩ := ref_Factor_spec (n := n) (by omega) hN
  obtain ⟨K2, hK2⟩ := ref_jacobi_loop a n hN hodd (fac n) [] (fac_spec (by omega))
  dsimp only at hK hK2
  refine ⟨K + K2, fun k hk => ?_⟩
  have h2 := hK2 k (by omega)
  simp only [galoisref04_Jacobi.f]
  rw [hK k (by omega), Option.bind_some]
  rw [prodL, jac_one] at h2
  exact h2
theorem IsPrime_spec {n : Nat} (h0 : 0 < n) (hM : n ≤ 2147483647) : ∃ b : Bool, (b = true ↔ Prm n) ∧ Ev (fun k => residue_IsPrime.f k (n : Int)) (b, 0) := by
  obtain ⟨b, hb, K, hK⟩ := prime_spec h0 hM
  dsimp only at hK
  refine ⟨b, hb, K, fun k hk => ?_⟩
  simp only [residue_IsPrime.f]
  rw [bad_one (by omega) (by omega), Option.bind_some, if_neg (by simp), hK k hk, Option.bind_some]
/-- The reference's search: the least root, or none. -/
theorem ref_sqrt_loop (b : Nat) {p : Nat} (hp : 0 < p) (hM : p ≤ 2147483647) : ∀ (d x : Nat), x + d = p / 2 + 1 → (∃ r : Nat, x ≤ r ∧ r ≤ p / 2 ∧ r * r % p = b ∧ (∀ y, x ≤ y → y < r → y * y % p ≠ b) ∧ Ev (fun k => galoisref04_SquareRoot.l0 k (b : Int) (p : Int) (x : Int)) ((r : Int), true)) ∨ ((∀ y, x ≤ y → y ≤ p / 2 → y * y % p ≠ b) ∧ Ev (fun k => galoisref04_SquareRoot.l0 k (b : Int) (p : Int) (x : Int)) (0, false))
  | 0, x, hd => by
    refine Or.inr ⟨fun y h1 h2 => by omega, 1, fun k hk => ?_⟩
    obtain ⟨j, rfl, hj⟩ := ex_succ hk
    simp only [galoisref04_SquareRoot.l0]
    rw [Int.tdiv_eq_ediv_of_nonneg (by omega), wrap_id (by omega) (by omega), if_neg (by omega)]
  | d + 1, x, hd => by
    have m1 := mul_lt_w (a := (x : Int)) (b := (x : Int)) (by omega) (by omega) (by omega) (by omega)
    have e : Int.tmod (wrap64 ((x : Int) * x)) (p : Int) = ((x * x % p : Nat) : Int) := by
      rw [wrap_id (by omega) (by omega), Int.tmod_eq_emod_of_nonneg m1.1]
      simp
    by_cases hx : x * x % p = b
    · refine Or.inl ⟨x, Nat.le_refl _, by omega, hx, fun y h1 h2 => by omega, 1, fun k hk => ?_⟩
      obtain ⟨j, rfl, hj⟩ := ex_succ hk
      simp only [galoisref04_SquareRoot.l0]
      rw [Int.tdiv_eq_ediv_of_nonneg (by omega), wrap_id (x := (p : Int) / 2) (by omega) (by omega), if_pos (by omega), if_neg (by omega), e, if_pos (by omega)]
    · have next : ∀ r, Ev (fun k => galoisref04_SquareRoot.l0 k (b : Int) (p : Int) ((x + 1 : Nat) : Int)) r → Ev (fun k => galoisref04_SquareRoot.l0 k (b : Int) (p : Int) (x : Int)) r := by
        rintro r ⟨K, hK⟩
        dsimp only at hK
        refine ⟨K + 1, fun k hk => ?_⟩
        obtain ⟨j, rfl, hj⟩ := ex_succ hk
        simp only [galoisref04_SquareRoot.l0]
        rw [Int.tdiv_eq_ediv_of_nonneg (by omega), wrap_id (x := (p : Int) / 2) (by omega) (by omega), if_pos (by omega), if_neg (by omega), e, if_neg (by omega), wrap_id (by omega) (by omega)]
        exact hK j hj
      rcases ref_sqrt_loop b hp hM d (x + 1) (by omega) with ⟨r, h1, h2, h3, h4, h5⟩ | ⟨h1, h2⟩
      · refine Or.inl ⟨r, by omega, h2, h3, fun y hy1 hy2 => ?_, next _ h5⟩
        rcases Nat.lt_or_ge x y with h | h
        · exact h4 y h hy2
        · obtain rfl : y = x := by omega
          exact hx
      · refine Or.inr ⟨fun y hy1 hy2 => ?_, next _ h2⟩
        rcases Nat.lt_or_ge x y with h | h
        · exact h1 y h hy2
        · obtain rfl : y = x := by omega
          exact hx
/-- Modulo a prime there is one root up to p / 2. -/
theorem root_unique {p r r' : Nat} (hp : Prm p) (h1 : r ≤ p / 2) (h2 : r' ≤ p / 2) (h : r * r % p = r' * r' % p) : r = r' := by
  have key : ∀ {r r' : Nat}, r ≤ p / 2 → r' ≤ p / 2 → r * r % p = r' * r' % p → r ≤ r' → r = r' := by
    intro r r' h1 h2 h hle
    have hp2 := hp.1
    obtain ⟨d, rfl⟩ : ∃ d, r' = r + d := ⟨r' - r, by omega⟩
    have e : (r + d) * (r + d) - r * r = d * (r + (r + d)) := by
      have : (r + d) * (r + d) = d * (r + (r + d)) + r * r := by
        simp only [Nat.mul_add, Nat.add_mul, Nat.mul_comm d r]
        omega
      omega
    have h3 : p ∣ d * (r + (r + d)) := by
      rw [← e]
      exact Nat.dvd_of_mod_eq_zero (Nat.sub_mod_eq_zero_of_mod_eq h.symm)
    rcases prm_mul hp h3 with h4 | h4
    · have := Nat.eq_zero_of_dvd_of_lt h4 (by omega)
      omega
    · rcases Nat.eq_zero_or_pos (r + (r + d)) with h5 | h5
      · omega
      · have h6 := Nat.le_of_dvd h5 h4
        -- both are p / 2, p even: p = 2
        omega
  rcases Nat.le_total r r' with hle | hle
  · exact key h1 h2 h hle
  · exact (key h2 h1 h.symm hle).symm
end Go.Proofs.Ytmedflaejnbkoaa.Q

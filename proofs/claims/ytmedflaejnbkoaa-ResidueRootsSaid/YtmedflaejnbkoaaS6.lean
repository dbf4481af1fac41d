/- What the printed Legendre symbols, Jacobi symbols and square roots of residue and its reference compute. No conditions. -/
import Derived.Test.YtmedflaejnbkoaaS4
import Derived.Test.YtmedflaejnbkoaaM3
import Derived.Test.YtmedflaejnbkoaaQG1
import Derived.Test.YtmedflaejnbkoaaQG2
import Derived.Test.YtmedflaejnbkoaaQF27
import Derived.Test.YtmedflaejnbkoaaQF30
import Derived.Test.YtmedflaejnbkoaaQF31
import Derived.Test.YtmedflaejnbkoaaQF32
import Derived.Test.YtmedflaejnbkoaaQF39
namespace Go.Proofs.Ytmedflaejnbkoaa.Q
open Go.RowKit Go.Proofs.YtmedflaejnbkoaaW.PrintWords Go.Proofs.YtmedflaejnbkoaaW.PrintLast Go.Proofs.YtmedflaejnbkoaaW.PrintMore Go.Proofs.Ytmedflaejnbkoaa.M
set_option linter.unusedVariables false
set_option linter.unusedSimpArgs false

theorem half_val {p : Nat} (h2 : p % 2 = 1) (hM : p ≤ 2147483647) : wrap64 (Int.tdiv (wrap64 ((p : Int) - 1)) 2) = ((p / 2 : Nat) : Int) := by
  rw [wrap_id (x := (p : Int) - 1) (by omega) (by omega), Int.tdiv_eq_ediv_of_nonneg (by omega), wrap_id (by omega) (by omega)]
  omega
theorem symbol_spec (a : Int) {p : Nat} (hp : Prm p) (h2 : p % 2 = 1) (hM : p ≤ 2147483647) : Ev (fun k => residue_symbol.f k a (p : Int)) (jac (res a p) p) := by
  have hp2 := hp.1
  obtain ⟨K, hK⟩ := power_spec a (e := p / 2) (m := p) (by omega) hM (by omega)
  dsimp only at hK
  have hv := legendre_value (a := res a p) hp h2
  refine ⟨K, fun k hk => ?_⟩
  simp only [residue_symbol.f]
  rw [half_val h2 hM, hK k hk, Option.bind_some]
  rcases jac_cases (res a p) p with h | h | h
  · rw [h, if_pos rfl] at hv
    rw [h, hv, if_neg (by omega), if_pos (by omega)]
  · rw [h, if_neg (show ¬ (-1 : Int) = 1 by decide), if_pos rfl] at hv
    rw [h, hv, if_neg (by omega), if_neg (by omega)]
  · rw [h, if_neg (show ¬ (0 : Int) = 1 by decide), if_neg (show ¬ (0 : Int) = -1 by decide)] at hv
    rw [h, hv, if_pos (by omega)]
theorem ref_Legendre_spec (a : Int) {p : Nat} (hp : Prm p) (h2 : p % 2 = 1) (hM : p ≤ 2147483647) : Ev (fun k => galoisref04_Legendre.f k a (p : Int)) (jac (res a p) p) := by
  have hp2 := hp.1
  obtain ⟨K, hK⟩ := Pow_spec a (e := p / 2) (m := p) (by omega) hM (by omega)
  dsimp only at hK
  have hv := legendre_value (a := res a p) hp h2
  refine ⟨K, fun k hk => ?_⟩
  simp only [galoisref04_Legendre.f]
  rw [half_val h2 hM, hK k hk, Option.bind_some, wrap_id (x := (p : Int) - 1) (by omega) (by omega)]
  rcases jac_cases (res a p) p with h | h | h
  · rw [h, if_pos rfl] at hv
    rw [h, hv, if_neg (by omega)]
    rfl
  · rw [h, if_neg (show ¬ (-1 : Int) = 1 by decide), if_pos rfl] at hv
    rw [h, hv, if_pos (by omega)]
  · rw [h, if_neg (show ¬ (0 : Int) = 1 by decide), if_neg (show ¬ (0 : Int) = -1 by decide)] at hv
    rw [h, hv, if_neg (by omega)]
    rfl
theorem odd_prm {p : Nat} (hp : Prm p) (h : p ≠ 2) : p % 2 = 1 := by
  rcases Nat.mod_two_eq_zero_or_one p with h2 | h2
  · rcases hp.2 2 ⟨p / 2, by omega⟩ with h3 | h3 <;> omega
  · exact h2
theorem Legendre_spec (a : Int) {p : Nat} (hp : Prm p) (h2 : p % 2 = 1) (hM : p ≤ 2147483647) : Ev (fun k => residue_Legendre.f k a (p : Int)) (jac (res a p) p, 0) := by
  have hp2 := hp.1
  obtain ⟨b, hb, K1, h1⟩ := prime_spec (n := p) (by omega) hM
  obtain ⟨K2, h3⟩ := symbol_spec a hp h2 hM
  dsimp only at h1 h3
  refine ⟨K1 + K2, fun k hk => ?_⟩
  simp only [residue_Legendre.f]
  rw [bad_one (by omega) (by omega), Option.bind_some, if_neg (by simp), if_neg (by omega), h1 k (by omega), Option.bind_some, hb.2 hp, if_pos rfl, h3 k (by omega), Option.bind_some]
theorem Legendre_no (a : Int) {n : Nat} (h0 : 0 < n) (hM : n ≤ 2147483647) (h : ¬ (Prm n ∧ n % 2 = 1)) : Ev (fun k => residue_Legendre.f k a (n : Int)) (0, 7) := by
  obtain ⟨b, hb, K1, h1⟩ := prime_spec h0 hM
  dsimp only at h1
  refine ⟨K1, fun k hk => ?_⟩
  simp only [residue_Legendre.f]
  rw [bad_one (by omega) (by omega), Option.bind_some, if_neg (by simp)]
  by_cases h2 : n = 2
  · rw [if_pos (by omega)]
  · have : b = false := by
      cases b with
      | false => rfl
      | true => exact absurd ⟨hb.1 rfl, odd_prm (hb.1 rfl) h2⟩ h
    rw [if_neg (by omega), h1 k hk, Option.bind_some, this, if_neg (by simp)]
theorem Legendre_bad (a m : Int) (h : ¬ (1 ≤ m ∧ m ≤ 2147483647)) (k : Nat) : residue_Legendre.f k a m = some (0, 3) := by
  simp only [residue_Legendre.f]
  rw [bad_one' h]
  rfl
theorem SquareRoot_bad (a m : Int) (h : ¬ (1 ≤ m ∧ m ≤ 2147483647)) (k : Nat) : residue_SquareRoot.f k a m = some (0, 3) := by
  simp only [residue_SquareRoot.f]
  rw [bad_one' h]
  rfl
theorem SquareRoot_no (a : Int) {n : Nat} (h0 : 0 < n) (hM : n ≤ 2147483647) (h : ¬ Prm n) : Ev (fun k => residue_SquareRoot.f k a (n : Int)) (0, 7) := by
  obtain ⟨b, hb, K1, h1⟩ := prime_spec h0 hM
  dsimp only at h1
  refine ⟨K1, fun k hk => ?_⟩
  simp only [residue_SquareRoot.f]
  have : b = false := by
    cases b with
    | false => rfl
    | true => exact absurd (hb.1 rfl) h
  rw [bad_one (by omega) (by omega), Option.bind_some, if_neg (by simp), h1 k hk, Option.bind_some, this, if_neg (by simp)]

/-! ### Tonelli and Shanks -/
theorem pow_mod_mul {p x n m r : Nat} (h : x ^ n % p = r % p) : x ^ (n * m) % p = r ^ m % p := by rw [Nat.pow_mul, Nat.pow_mod, h, ← Nat.pow_mod]
theorem shl_one {s : Nat} (hs : s ≤ 40) : shl .i64 1 (s : Int) = ((2 ^ s : Nat) : Int) := by
  unfold shl
  rw [Int.toNat_natCast, Nat.min_eq_left (show s ≤ IntKind.i64.bits by have : IntKind.i64.bits = 64 := rfl; omega), Int.one_mul]
  have h1 : 2 ^ s ≤ 2 ^ 40 := Nat.pow_le_pow_right (by omega) hs
  have h2 : ((2 : Int) ^ s) = ((2 ^ s : Nat) : Int) := by simp
  rw [h2]
  generalize 2 ^ s = y at *
  rw [IntKind.wrap_i64]
  omega
theorem tonelli {p a : Nat} (hp : Prm p) (hM : p ≤ 2147483647) (h2 : p % 2 = 1) (ha : a % p ≠ 0) : ∀ (s x t c : Nat), 1 ≤ s → s ≤ 40 → x < p → t < p → c < p → t ^ (2 ^ (s - 1)) % p = 1 → c ^ (2 ^ (s - 1)) % p = p - 1 → x * x % p = a * t % p →
    ∃ r : Nat, r ≤ p / 2 ∧ r * r % p = a % p ∧ Ev (fun k => residue_SquareRoot.l2 k (p : Int) (s : Int) (x : Int) (t : Int) (c : Int)) ((r : Int), 0) := by
  intro s
  induction s using Nat.strongRecOn with
  | ind s ih =>
    intro x t c hs1 hs40 hx ht hc h1 hcm hxt
    have hp2 := hp.1
    have h1p : 1 % p = 1 := Nat.mod_eq_of_lt (by omega)
    by_cases ht1 : t = 1
    · subst ht1
      rw [Nat.mul_one] at hxt
      have hx0 : x ≠ 0 := by
        rintro rfl
        rw [Nat.mul_zero, Nat.zero_mod] at hxt
        exact ha hxt.symm
      refine ⟨min x (p - x), by omega, ?_, 1, fun k hk => ?_⟩
      · rcases Nat.le_total x (p - x) with h | h
        · rw [Nat.min_eq_left h, hxt]
        · rw [Nat.min_eq_right h, ← hxt]
          have e : (p - x) * (p - x) + p * (2 * x) = x * x + p * p := by
            obtain ⟨y, hy⟩ : ∃ y, p = x + y := ⟨p - x, by omega⟩
            rw [hy, Nat.add_sub_cancel_left]
            simp only [Nat.mul_add, Nat.add_mul, Nat.two_mul, Nat.mul_comm y x]
            omega
          have e1 := congrArg (· % p) e
          simp only [Nat.add_mul_mod_self_left] at e1
          exact e1
      · obtain ⟨j, rfl, hj⟩ := ex_succ hk
        simp only [residue_SquareRoot.l2]
        rw [if_pos (by rfl), wrap_id (by omega) (by omega)]
        congr 2
        unfold mn
        split <;> omega
    · have ht0 : t ≠ 0 := by
        rintro rfl
        rw [Nat.zero_pow (Nat.pow_pos (by omega)), Nat.zero_mod] at h1
        omega
      -- the inner loop, from k on
      have inner : ∀ d k, k + d = s - 1 → (∀ i, i < k → t ^ (2 ^ i) % p ≠ 1) → ∃ r : Nat, r ≤ p / 2 ∧ r * r % p = a % p ∧ Ev (fun n => residue_SquareRoot.l3 n (p : Int) (s : Int) (x : Int) (t : Int) (c : Int) (k : Int) ((t ^ (2 ^ k) % p : Nat) : Int)) ((r : Int), 0) := by
        intro d
        have stop : ∀ k, k ≤ s - 1 → (∀ i, i < k → t ^ (2 ^ i) % p ≠ 1) → t ^ (2 ^ k) % p = 1 → ∃ r : Nat, r ≤ p / 2 ∧ r * r % p = a % p ∧ Ev (fun n => residue_SquareRoot.l3 n (p : Int) (s : Int) (x : Int) (t : Int) (c : Int) (k : Int) ((t ^ (2 ^ k) % p : Nat) : Int)) ((r : Int), 0) := by
          intro k hk hmin h1k
          have hk1 : 1 ≤ k := by
            rcases Nat.eq_zero_or_pos k with rfl | h
            · rw [Nat.pow_zero, Nat.pow_one, Nat.mod_eq_of_lt ht] at h1k
              exact absurd h1k ht1
            · exact h
          obtain ⟨i, hi⟩ : ∃ i, k = i + 1 := ⟨k - 1, by omega⟩
          -- b, the new c, t and x
          have hbk : (c ^ (2 ^ (s - k - 1)) % p) ^ (2 ^ k) % p = p - 1 := by
            rw [← Nat.pow_mod, ← Nat.pow_mul, ← Nat.pow_add, show s - k - 1 + k = s - 1 by omega]
            exact hcm
          have hb : c ^ (2 ^ (s - k - 1)) % p < p := Nat.mod_lt _ (by omega)
          generalize hbe : c ^ (2 ^ (s - k - 1)) % p = b at *
          have hb2 : b * b % p < p := Nat.mod_lt _ (by omega)
          have hc' : (b * b % p) ^ (2 ^ (k - 1)) % p = p - 1 := by
            rw [← Nat.pow_mod, ← Nat.pow_two, ← Nat.pow_mul, Nat.mul_comm, ← Nat.pow_succ, show (k - 1).succ = k by omega]
            exact hbk
          have htk : t ^ (2 ^ (k - 1)) % p = p - 1 := by
            have h3 : (t ^ (2 ^ (k - 1)) % p) * (t ^ (2 ^ (k - 1)) % p) % p = 1 % p := by
              rw [← Nat.mul_mod, ← Nat.pow_two, ← Nat.pow_mul, ← Nat.pow_succ, show (k - 1).succ = k by omega, h1k, h1p]
            rcases sq_one_mod hp (Nat.mod_lt _ (by omega)) h3 with h4 | h4
            · exact absurd h4 (hmin (k - 1) (by omega))
            · exact h4
          have ht' : (t * (b * b % p) % p) ^ (2 ^ (k - 1)) % p = 1 := by
            rw [← Nat.pow_mod, Nat.mul_pow, Nat.mul_mod, htk, hc']
            have e : (p - 1) * (p - 1) = 1 + p * (p - 2) := by
              obtain ⟨y, hy⟩ : ∃ y, p = y + 2 := ⟨p - 2, by omega⟩
              rw [hy, show y + 2 - 1 = y + 1 by omega, show y + 2 - 2 = y by omega, Nat.add_mul, Nat.mul_add, Nat.add_mul]
              omega
            rw [e, Nat.add_mul_mod_self_left, h1p]
          have hx' : (x * b % p) * (x * b % p) % p = a * (t * (b * b % p) % p) % p := by
            rw [← Nat.mul_mod, Nat.mul_mul_mul_comm, Nat.mul_mod, hxt, ← Nat.mul_mod, Nat.mul_assoc, Nat.mul_mod a, Nat.mul_mod t (b * b), Nat.mul_mod a (t * (b * b % p) % p), Nat.mod_mod, Nat.mul_mod t (b * b % p), Nat.mod_mod]
          obtain ⟨r, hr1, hr2, K, hK⟩ := ih k (by omega) (x * b % p) (t * (b * b % p) % p) (b * b % p) hk1 (by omega) (Nat.mod_lt _ (by omega)) (Nat.mod_lt _ (by omega)) hb2 ht' hc' hx'
          have h2s : 2 ^ (s - k - 1) ≤ 2 ^ 40 := Nat.pow_le_pow_right (by omega) (by omega)
          obtain ⟨K2, hK2⟩ := power_spec (c : Int) (e := 2 ^ (s - k - 1)) (m := p) (by omega) hM (by omega)
          dsimp only at hK hK2
          rw [res_nat, Nat.mod_eq_of_lt hc, hbe] at hK2
          refine ⟨r, hr1, hr2, K + K2 + 1, fun n hn => ?_⟩
          obtain ⟨j, rfl, hj⟩ := ex_succ hn
          have m1 := mul_lt_w (a := (x : Int)) (b := (b : Int)) (by omega) (by omega) (by omega) (by omega)
          have m2 := mul_lt_w (a := (b : Int)) (b := (b : Int)) (by omega) (by omega) (by omega) (by omega)
          have m3 := mul_lt_w (a := (t : Int)) (b := ((b * b % p : Nat) : Int)) (by omega) (by omega) (by omega) (by omega)
          have e2 : wrap64 (wrap64 ((s : Int) - (k : Int)) - 1) = ((s - k - 1 : Nat) : Int) := by
            rw [wrap_id (x := (s : Int) - (k : Int)) (by omega) (by omega), wrap_id (by omega) (by omega)]
            omega
          simp only [residue_SquareRoot.l3]
          rw [h1k, if_pos (by rfl), e2, if_pos (by omega), shl_one (by omega), hK2 j (by omega), Option.bind_some, if_neg (by omega)]
          rw [wrap_id (x := (x : Int) * b) (by omega) (by omega), wrap_id (x := (b : Int) * b) (by omega) (by omega), Int.tmod_eq_emod_of_nonneg m1.1, Int.tmod_eq_emod_of_nonneg m2.1, show (b : Int) * b % p = ((b * b % p : Nat) : Int) by simp, wrap_id (x := (t : Int) * ((b * b % p : Nat) : Int)) (by omega) (by omega), Int.tmod_eq_emod_of_nonneg m3.1, show (t : Int) * ((b * b % p : Nat) : Int) % p = ((t * (b * b % p) % p : Nat) : Int) by rw [← Int.natCast_mul, ← Int.natCast_emod], show (x : Int) * b % p = ((x * b % p : Nat) : Int) by simp]
          exact hK j (by omega)
        induction d with
        | zero =>
          intro k hk hmin
          have : k = s - 1 := by omega
          exact stop k (by omega) hmin (by rw [this]; exact h1)
        | succ d ihd =>
          intro k hk hmin
          by_cases h1k : t ^ (2 ^ k) % p = 1
          · exact stop k (by omega) hmin h1k
          · obtain ⟨r, hr1, hr2, K, hK⟩ := ihd (k + 1) (by omega) (fun i hi => by
              rcases Nat.lt_or_ge i k with h | h
              · exact hmin i h
              · obtain rfl : i = k := by omega
                exact h1k)
            dsimp only at hK
            refine ⟨r, hr1, hr2, K + 1, fun n hn => ?_⟩
            obtain ⟨j, rfl, hj⟩ := ex_succ hn
            have hu : t ^ (2 ^ k) % p < p := Nat.mod_lt _ (by omega)
            have e : (t ^ (2 ^ k) % p) * (t ^ (2 ^ k) % p) % p = t ^ (2 ^ (k + 1)) % p := by rw [← Nat.mul_mod, ← Nat.pow_two, ← Nat.pow_mul, ← Nat.pow_succ]
            have hKj := hK j (by omega)
            rw [← e] at hKj
            generalize t ^ (2 ^ k) % p = u at *
            have m1 := mul_lt_w (a := (u : Int)) (b := (u : Int)) (by omega) (by omega) (by omega) (by omega)
            simp only [residue_SquareRoot.l3]
            rw [if_neg (by omega), if_neg (by omega), wrap_id (x := (k : Int) + 1) (by omega) (by omega), wrap_id (x := (u : Int) * u) (by omega) (by omega), Int.tmod_eq_emod_of_nonneg m1.1, show (u : Int) * u % p = ((u * u % p : Nat) : Int) by simp]
            exact hKj
      obtain ⟨r, hr1, hr2, K, hK⟩ := inner (s - 1) 0 (by omega) (fun i hi => by omega)
      dsimp only at hK
      rw [Nat.pow_zero, Nat.pow_one, Nat.mod_eq_of_lt ht] at hK
      refine ⟨r, hr1, hr2, K + 1, fun k hk => ?_⟩
      obtain ⟨j, rfl, hj⟩ := ex_succ hk
      simp only [residue_SquareRoot.l2]
      rw [if_neg (by omega)]
      exact hK j hj
theorem split_loop (a p : Int) (o : Nat) (ho : o % 2 = 1) (r : Int × Int) : ∀ (d s : Nat), o * 2 ^ d ≤ 2147483647 → s + d ≤ 100 → Ev (fun k => residue_SquareRoot.l1 k a p (o : Int) ((s + d : Nat) : Int) 2) r → Ev (fun k => residue_SquareRoot.l0 k a p ((o * 2 ^ d : Nat) : Int) (s : Int) 2) r
  | 0, s, hM, hs, ⟨K, hK⟩ => by
    dsimp only at hK
    refine ⟨K + 1, fun k hk => ?_⟩
    obtain ⟨j, rfl, hj⟩ := ex_succ hk
    simp only [residue_SquareRoot.l0]
    rw [Nat.pow_zero, Nat.mul_one, Int.tmod_eq_emod_of_nonneg (by omega), if_neg (by omega)]
    exact hK j hj
  | d + 1, s, hM, hs, h => by
    have e : o * 2 ^ (d + 1) = 2 * (o * 2 ^ d) := by rw [Nat.pow_succ, ← Nat.mul_assoc, Nat.mul_comm]
    obtain ⟨K, hK⟩ := split_loop a p o ho r d (s + 1) (by omega) (by omega) (by rw [show s + 1 + d = s + (d + 1) by omega]; exact h)
    dsimp only at hK
    refine ⟨K + 1, fun k hk => ?_⟩
    obtain ⟨j, rfl, hj⟩ := ex_succ hk
    have hKj := hK j hj
    simp only [residue_SquareRoot.l0]
    rw [e] at hM ⊢
    generalize o * 2 ^ d = t at *
    rw [Int.tmod_eq_emod_of_nonneg (by omega), if_pos (by omega), Int.tdiv_eq_ediv_of_nonneg (by omega), show ((2 * t : Nat) : Int) / 2 = (t : Int) by omega, wrap_id (by omega) (by omega), wrap_id (by omega) (by omega)]
    exact hKj
theorem z_loop (a : Int) {p : Nat} (hp : Prm p) (h2 : p % 2 = 1) (hM : p ≤ 2147483647) (o s : Int) (r : Int × Int) (z0 : Nat) (hz0 : z0 < p)
    (hgo : Ev (fun k => (residue_power.f k a (wrap64 (Int.tdiv (wrap64 (o + 1)) 2)) p).bind fun t109 => (residue_power.f k a o p).bind fun t110 => (residue_power.f k (z0 : Int) o p).bind fun t111 => residue_SquareRoot.l2 k p s t109 t110 t111) r) (hz : jac z0 p = -1) :
    ∀ (d z : Nat), z + d = z0 → (∀ y, z ≤ y → y < z0 → jac y p ≠ -1) → Ev (fun k => residue_SquareRoot.l1 k a (p : Int) o s (z : Int)) r
  | 0, z, hd, hmin => by
    obtain rfl : z = z0 := by omega
    obtain ⟨K1, hK1⟩ := symbol_spec (z : Int) hp h2 hM
    obtain ⟨K, hK⟩ := hgo
    dsimp only at hK hK1
    rw [res_nat, jac_mod, hz] at hK1
    refine ⟨K + K1 + 1, fun k hk => ?_⟩
    obtain ⟨j, rfl, hj⟩ := ex_succ hk
    simp only [residue_SquareRoot.l1]
    rw [hK1 j (by omega), Option.bind_some, if_pos rfl]
    exact hK j (by omega)
  | d + 1, z, hd, hmin => by
    obtain ⟨K1, hK1⟩ := symbol_spec (z : Int) hp h2 hM
    obtain ⟨K, hK⟩ := z_loop a hp h2 hM o s r z0 hz0 hgo hz d (z + 1) (by omega) (fun y h1 h3 => hmin y (by omega) h3)
    dsimp only at hK hK1
    rw [res_nat, jac_mod] at hK1
    refine ⟨K + K1 + 1, fun k hk => ?_⟩
    obtain ⟨j, rfl, hj⟩ := ex_succ hk
    simp only [residue_SquareRoot.l1]
    rw [hK1 j (by omega), Option.bind_some, if_neg (hmin z (Nat.le_refl _) (by omega)), wrap_id (by omega) (by omega)]
    exact hK j (by omega)
theorem least_of {P : Nat → Prop} : ∀ (n a : Nat), P (a + n) → ∃ m, a ≤ m ∧ m ≤ a + n ∧ P m ∧ ∀ y, a ≤ y → y < m → ¬ P y
  | 0, a, h => ⟨a, Nat.le_refl _, by omega, h, fun y h1 h2 => by omega⟩
  | n + 1, a, h => by
    by_cases h0 : P a
    · exact ⟨a, Nat.le_refl _, by omega, h0, fun y h1 h2 => by omega⟩
    · obtain ⟨m, h1, h2, h3, h4⟩ := least_of (P := P) n (a + 1) (by rw [show a + 1 + n = a + (n + 1) by omega]; exact h)
      refine ⟨m, by omega, by omega, h3, fun y hy1 hy2 => ?_⟩
      rcases Nat.lt_or_ge a y with h5 | h5
      · exact h4 y h5 hy2
      · obtain rfl : y = a := by omega
        exact h0
theorem root_found (a : Int) {p : Nat} (hp : Prm p) (h2 : p % 2 = 1) (hM : p ≤ 2147483647) (hj : jac (res a p) p = 1) : ∃ r : Nat, r ≤ p / 2 ∧ r * r % p = res a p ∧ Ev (fun k => residue_SquareRoot.l0 k ((res a p : Nat) : Int) (p : Int) (((p - 1 : Nat)) : Int) 0 2) ((r : Int), 0) := by
  have hp2 := hp.1
  have hlt := res_lt a (m := p) (by omega)
  have h1p : 1 % p = 1 := Nat.mod_eq_of_lt (by omega)
  generalize res a p = a' at *
  obtain ⟨S, o, he, ho⟩ := exists_pow_split 2 (by omega) (p - 1) (by omega)
  have ho2 : o % 2 = 1 := by
    rcases Nat.mod_two_eq_zero_or_one o with h | h
    · exact absurd (Nat.dvd_of_mod_eq_zero h) ho
    · exact h
  have hS1 : 1 ≤ S := by
    rcases Nat.eq_zero_or_pos S with rfl | h
    · rw [Nat.pow_zero, Nat.one_mul] at he; omega
    · exact h
  have hS40 : S ≤ 40 := by
    apply Classical.byContradiction
    intro h
    have h3 : 2 ^ 41 ≤ 2 ^ S := Nat.pow_le_pow_right (by omega) (by omega)
    have h4 : 2 ^ S * 1 ≤ 2 ^ S * o := Nat.mul_le_mul_left _ (by omega)
    omega
  have hhalf : p / 2 = o * 2 ^ (S - 1) := by
    have : 2 ^ S = 2 * 2 ^ (S - 1) := by rw [Nat.mul_comm, ← Nat.pow_succ]; congr 1; omega
    rw [this, Nat.mul_assoc, Nat.mul_comm (2 ^ (S - 1))] at he
    omega
  obtain ⟨z1, hz1, hz1p, hz1j⟩ := exists_nonresidue hp h2
  obtain ⟨z0, h3, h4, hz0j, hmin⟩ := least_of (P := fun z => jac z p = -1) (z1 - 2) 2 (by rw [show 2 + (z1 - 2) = z1 by omega]; exact hz1j)
  have hoM : o ≤ 2147483647 := by
    have : 1 * o ≤ 2 ^ S * o := Nat.mul_le_mul_right _ (Nat.pow_pos (by omega))
    omega
  have ha0 : a' % p ≠ 0 := fun h => by
    rw [(jac_zero_iff hp).2 h] at hj
    cases hj
  have hlv := legendre_value (p := p) (a := a') hp h2
  rw [hj, if_pos rfl] at hlv
  have hlz := legendre_value (p := p) (a := z0) hp h2
  rw [hz0j, if_neg (show ¬ (-1 : Int) = 1 by decide), if_pos rfl] at hlz
  obtain ⟨r, hr1, hr2, hr3⟩ := tonelli hp hM h2 ha0 S (a' ^ ((o + 1) / 2) % p) (a' ^ o % p) (z0 ^ o % p) hS1 hS40 (Nat.mod_lt _ (by omega)) (Nat.mod_lt _ (by omega)) (Nat.mod_lt _ (by omega))
    (by rw [← Nat.pow_mod, ← Nat.pow_mul, ← hhalf]; exact hlv) (by rw [← Nat.pow_mod, ← Nat.pow_mul, ← hhalf]; exact hlz)
    (by
      rw [← Nat.mul_mod, ← Nat.pow_two, ← Nat.pow_mul, show (o + 1) / 2 * 2 = o + 1 by omega, Nat.pow_succ, Nat.mul_mod a', Nat.mod_mod, ← Nat.mul_mod, Nat.mul_comm])
  rw [Nat.mod_eq_of_lt hlt] at hr2
  refine ⟨r, hr1, hr2, ?_⟩
  obtain ⟨K1, hK1⟩ := power_spec (a' : Int) (e := (o + 1) / 2) (m := p) (by omega) hM (by omega)
  obtain ⟨K2, hK2⟩ := power_spec (a' : Int) (e := o) (m := p) (by omega) hM (by omega)
  obtain ⟨K3, hK3⟩ := power_spec (z0 : Int) (e := o) (m := p) (by omega) hM (by omega)
  obtain ⟨K4, hK4⟩ := hr3
  dsimp only at hK1 hK2 hK3 hK4
  rw [res_nat, Nat.mod_eq_of_lt hlt] at hK1 hK2
  rw [res_nat, Nat.mod_eq_of_lt (show z0 < p by omega)] at hK3
  have hgo : Ev (fun k => (residue_power.f k (a' : Int) (wrap64 (Int.tdiv (wrap64 ((o : Int) + 1)) 2)) p).bind fun t109 => (residue_power.f k (a' : Int) (o : Int) p).bind fun t110 => (residue_power.f k (z0 : Int) (o : Int) p).bind fun t111 => residue_SquareRoot.l2 k p (S : Int) t109 t110 t111) ((r : Int), 0) := by
    refine ⟨K1 + K2 + K3 + K4, fun k hk => ?_⟩
    have e : wrap64 (Int.tdiv (wrap64 ((o : Int) + 1)) 2) = (((o + 1) / 2 : Nat) : Int) := by
      rw [wrap_id (x := (o : Int) + 1) (by omega) (by omega), Int.tdiv_eq_ediv_of_nonneg (by omega), wrap_id (by omega) (by omega)]
      omega
    dsimp only
    rw [e, hK1 k (by omega), Option.bind_some, hK2 k (by omega), Option.bind_some, hK3 k (by omega), Option.bind_some]
    exact hK4 k (by omega)
  have hz := z_loop (a' : Int) hp h2 hM (o : Int) (S : Int) ((r : Int), 0) z0 (by omega) hgo hz0j (z0 - 2) 2 (by omega) hmin
  have hsp := split_loop (a' : Int) (p : Int) o ho2 ((r : Int), 0) S 0 (by rw [Nat.mul_comm, ← he]; omega) (by omega) (by rw [Nat.zero_add]; exact hz)
  rw [Nat.mul_comm, ← he] at hsp
  exact hsp
/-- The program's square roots modulo a prime: the least root, or the error. -/
theorem SquareRoot_spec (a : Int) {p : Nat} (hp : Prm p) (hM : p ≤ 2147483647) : (∃ r : Nat, r ≤ p / 2 ∧ r * r % p = res a p ∧ Ev (fun k => residue_SquareRoot.f k a (p : Int)) ((r : Int), 0)) ∨ ((∀ x : Nat, x * x % p ≠ res a p) ∧ jac (res a p) p = -1 ∧ p % 2 = 1 ∧ Ev (fun k => residue_SquareRoot.f k a (p : Int)) (0, 26)) := by
  have hp2 := hp.1
  have hlt := res_lt a (m := p) (by omega)
  obtain ⟨b, hb, K1, h1⟩ := prime_spec (n := p) (by omega) hM
  dsimp only at h1
  have hbt := hb.2 hp
  subst hbt
  by_cases h2 : p = 2
  · subst h2
    left
    refine ⟨res a 2, by omega, ?_, K1 + 1, fun k hk => ?_⟩
    · have : res a 2 = 0 ∨ res a 2 = 1 := by omega
      rcases this with h | h <;> rw [h]
    · obtain ⟨j, rfl, hj⟩ := ex_succ hk
      simp only [residue_SquareRoot.f]
      rw [bad_one (by omega) (by omega), Option.bind_some, if_neg (by simp), h1 _ (by omega), Option.bind_some, if_pos rfl, mod_nat (by omega) hM, Option.bind_some, if_pos (by omega)]
      simp only [residue_SquareRoot.j0]
      rfl
  · have hodd := odd_prm hp h2
    by_cases h0 : res a p = 0
    · left
      refine ⟨0, by omega, by rw [h0]; simp, K1 + 1, fun k hk => ?_⟩
      obtain ⟨j, rfl, hj⟩ := ex_succ hk
      simp only [residue_SquareRoot.f]
      rw [bad_one (by omega) (by omega), Option.bind_some, if_neg (by simp), h1 _ (by omega), Option.bind_some, if_pos rfl, mod_nat (by omega) hM, Option.bind_some, if_neg (by omega), h0]
      simp only [residue_SquareRoot.j0]
      rfl
    · obtain ⟨K2, hs⟩ := symbol_spec ((res a p : Nat) : Int) hp hodd hM
      dsimp only at hs
      rw [res_nat, Nat.mod_eq_of_lt hlt] at hs
      have hz : (((res a p : Nat) : Int) == 0) = false := by rw [beq_eq_false_iff_ne]; omega
      by_cases hj : jac (res a p) p = 1
      · left
        obtain ⟨r, hr1, hr2, K3, hr3⟩ := root_found a hp hodd hM hj
        dsimp only at hr3
        refine ⟨r, hr1, hr2, K1 + K2 + K3 + 1, fun k hk => ?_⟩
        obtain ⟨j, rfl, hj'⟩ := ex_succ hk
        simp only [residue_SquareRoot.f]
        rw [bad_one (by omega) (by omega), Option.bind_some, if_neg (by simp), h1 _ (by omega), Option.bind_some, if_pos rfl, mod_nat (by omega) hM, Option.bind_some, if_neg (by omega), hz]
        simp only [residue_SquareRoot.j0]
        rw [if_neg (by simp), hs j (by omega), Option.bind_some, if_pos hj, wrap_id (by omega) (by omega), show (p : Int) - 1 = ((p - 1 : Nat) : Int) by omega]
        exact hr3 j (by omega)
      · right
        have hm1 : jac (res a p) p = -1 := by
          rcases jac_cases (res a p) p with h | h | h
          · exact absurd h hj
          · exact h
          · have := (jac_zero_iff hp).1 h
            rw [Nat.mod_eq_of_lt hlt] at this
            exact absurd this h0
        refine ⟨fun x hx => jac_sq hp hodd (x := x) (a := res a p) (by rw [hx, Nat.mod_eq_of_lt hlt]) hm1, hm1, hodd, K1 + K2 + 1, fun k hk => ?_⟩
        obtain ⟨j, rfl, hj'⟩ := ex_succ hk
        simp only [residue_SquareRoot.f]
        rw [bad_one (by omega) (by omega), Option.bind_some, if_neg (by simp), h1 _ (by omega), Option.bind_some, if_pos rfl, mod_nat (by omega) hM, Option.bind_some, if_neg (by omega), hz]
        simp only [residue_SquareRoot.j0]
        rw [if_neg (by simp), hs j (by omega), Option.bind_some, if_neg hj]
end Go.Proofs.Ytmedflaejnbkoaa.Q

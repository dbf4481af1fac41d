/- The merging of two congruences. No Go in it, no conditions. -/
import Derived.Test.YtmedflaejnbkoaaM1
namespace Go.Proofs.Ytmedflaejnbkoaa.M
set_option linter.unusedVariables false

theorem gcd_lcm_dvd (a b c : Nat) (hb : 0 < b) : Nat.gcd (Nat.lcm a b) c ∣ Nat.lcm (Nat.gcd a c) (Nat.gcd b c) := by
  rcases Nat.eq_zero_or_pos c with rfl | hc
  · simp
  have hB : 0 < Nat.gcd b c := Nat.gcd_pos_of_pos_left c hb
  have hAB : Nat.gcd (Nat.gcd a c) (Nat.gcd b c) = Nat.gcd (Nat.gcd a b) c := by
    apply Nat.dvd_antisymm
    · exact Nat.dvd_gcd (Nat.dvd_gcd (Nat.dvd_trans (Nat.gcd_dvd_left _ _) (Nat.gcd_dvd_left _ _)) (Nat.dvd_trans (Nat.gcd_dvd_right _ _) (Nat.gcd_dvd_left _ _))) (Nat.dvd_trans (Nat.gcd_dvd_left _ _) (Nat.gcd_dvd_right _ _))
    · exact Nat.dvd_gcd (Nat.dvd_gcd (Nat.dvd_trans (Nat.gcd_dvd_left _ _) (Nat.gcd_dvd_left _ _)) (Nat.gcd_dvd_right _ _)) (Nat.dvd_gcd (Nat.dvd_trans (Nat.gcd_dvd_left _ _) (Nat.gcd_dvd_right _ _)) (Nat.gcd_dvd_right _ _))
  have hpos : 0 < Nat.gcd (Nat.gcd a c) (Nat.gcd b c) := Nat.gcd_pos_of_pos_right _ hB
  have key : Nat.gcd (Nat.lcm a b) c * Nat.gcd (Nat.gcd a b) c ∣ Nat.gcd a c * Nat.gcd b c := by
    have hY1 : Nat.gcd (Nat.gcd a b) c ∣ a := Nat.dvd_trans (Nat.gcd_dvd_left _ _) (Nat.gcd_dvd_left _ _)
    have hY2 : Nat.gcd (Nat.gcd a b) c ∣ b := Nat.dvd_trans (Nat.gcd_dvd_left _ _) (Nat.gcd_dvd_right _ _)
    have hY3 : Nat.gcd (Nat.gcd a b) c ∣ c := Nat.gcd_dvd_right _ _
    have hX3 : Nat.gcd (Nat.lcm a b) c ∣ c := Nat.gcd_dvd_right _ _
    have hXY : Nat.gcd (Nat.lcm a b) c * Nat.gcd (Nat.gcd a b) c ∣ a * b := by
      rw [← Nat.lcm_mul_gcd a b]
      exact Nat.mul_dvd_mul (Nat.gcd_dvd_left _ _) (Nat.gcd_dvd_left _ _)
    have e1 : Nat.gcd a c * Nat.gcd b c = Nat.gcd (Nat.gcd a c * b) (Nat.gcd a c * c) := (Nat.gcd_mul_left _ _ _).symm
    have e2 : Nat.gcd a c * b = Nat.gcd (a * b) (c * b) := (Nat.gcd_mul_right _ _ _).symm
    have e3 : Nat.gcd a c * c = Nat.gcd (a * c) (c * c) := (Nat.gcd_mul_right _ _ _).symm
    rw [e1, e2, e3]
    refine Nat.dvd_gcd (Nat.dvd_gcd hXY (Nat.mul_dvd_mul hX3 hY2)) (Nat.dvd_gcd ?_ (Nat.mul_dvd_mul hX3 hY3))
    rw [Nat.mul_comm]
    exact Nat.mul_dvd_mul hY1 hX3
  have h2 : Nat.gcd (Nat.lcm a b) c * Nat.gcd (Nat.gcd a c) (Nat.gcd b c) ∣ Nat.lcm (Nat.gcd a c) (Nat.gcd b c) * Nat.gcd (Nat.gcd a c) (Nat.gcd b c) := by
    rw [Nat.lcm_mul_gcd, hAB]
    exact key
  exact Nat.dvd_of_mul_dvd_mul_right hpos h2
/-- x is congruent to r modulo m. -/
theorem merge {x l m v D : Nat} (hl : 0 < l) (hm : 0 < m) (hD : Nat.gcd l m ∣ D) (hv : (l / Nat.gcd l m) * v % (m / Nat.gcd l m) = 1 % (m / Nat.gcd l m)) :
    (x + l * (D / Nat.gcd l m * v % (m / Nat.gcd l m))) % m = (x + D) % m := by
  have hg : 0 < Nat.gcd l m := Nat.gcd_pos_of_pos_left m hl
  obtain ⟨L, hL⟩ := Nat.gcd_dvd_left l m
  obtain ⟨n, hn⟩ := Nat.gcd_dvd_right l m
  obtain ⟨E, hE⟩ := hD
  generalize hgg : Nat.gcd l m = g at *
  have e1 : l / g = L := by rw [hL, Nat.mul_div_cancel_left _ hg]
  have e2 : m / g = n := by rw [hn, Nat.mul_div_cancel_left _ hg]
  have e3 : D / g = E := by rw [hE, Nat.mul_div_cancel_left _ hg]
  rw [e1, e2] at hv
  rw [e2, e3]
  have h1 : L * (E * v % n) % n = E % n := by
    rw [Nat.mul_mod, Nat.mod_mod, ← Nat.mul_mod, Nat.mul_left_comm, Nat.mul_mod, hv, ← Nat.mul_mod, Nat.mul_one]
  have h2 : l * (E * v % n) % m = D % m := by
    rw [hL, hn, hE, Nat.mul_assoc, Nat.mul_mod_mul_left, Nat.mul_mod_mul_left, h1]
  rw [Nat.add_mod, h2, ← Nat.add_mod]
theorem merge_unique {x l m j j' : Nat} (hl : 0 < l) (hm : 0 < m) (hj : j < m / Nat.gcd l m) (hj' : j' < m / Nat.gcd l m) (h : (x + l * j) % m = (x + l * j') % m) : j = j' := by
  have hg : 0 < Nat.gcd l m := Nat.gcd_pos_of_pos_left m hl
  have key : ∀ {j j' : Nat}, j' < m / Nat.gcd l m → (x + l * j) % m = (x + l * j') % m → j ≤ j' → j = j' := by
    intro j j' hj' h hle
    have h1 : m ∣ l * (j' - j) := by
      rw [Nat.mul_sub]
      have h2 := Nat.sub_mod_eq_zero_of_mod_eq h.symm
      rw [Nat.add_sub_add_left] at h2
      exact Nat.dvd_of_mod_eq_zero h2
    obtain ⟨L, hL⟩ := Nat.gcd_dvd_left l m
    obtain ⟨n, hn⟩ := Nat.gcd_dvd_right l m
    have hc : Nat.Coprime n L := by
      have := Nat.coprime_div_gcd_div_gcd hg
      rw [Nat.div_eq_of_eq_mul_right hg hL, Nat.div_eq_of_eq_mul_right hg hn] at this
      exact Nat.Coprime.symm this
    rw [Nat.div_eq_of_eq_mul_right hg hn] at hj'
    generalize Nat.gcd l m = g at *
    rw [hL, hn, Nat.mul_assoc] at h1
    have h3 := hc.dvd_of_dvd_mul_left (Nat.dvd_of_mul_dvd_mul_left hg h1)
    have := Nat.eq_zero_of_dvd_of_lt h3 (by omega)
    omega
  rcases Nat.le_total j j' with hle | hle
  · exact key hj' h hle
  · exact (key hj h.symm hle).symm
/-- The least common multiple of the first i moduli. -/
def lc (Mo : Nat → Nat) : Nat → Nat
  | 0 => 1
  | i + 1 => Nat.lcm (lc Mo i) (Mo i)
theorem lc_pos {Mo : Nat → Nat} : ∀ {i : Nat}, (∀ k, k < i → 0 < Mo k) → 0 < lc Mo i
  | 0, _ => Nat.one_pos
  | i + 1, h => Nat.lcm_pos (lc_pos fun k hk => h k (by omega)) (h i (by omega))
theorem dvd_lc {Mo : Nat → Nat} : ∀ {i k : Nat}, k < i → Mo k ∣ lc Mo i
  | i + 1, k, h => by
    rcases Nat.lt_or_ge k i with h1 | h1
    · exact Nat.dvd_trans (dvd_lc h1) (Nat.dvd_lcm_left _ _)
    · obtain rfl : k = i := by omega
      exact Nat.dvd_lcm_right _ _
theorem lc_gcd {Mo : Nat → Nat} {c D : Nat} : ∀ {i : Nat}, (∀ k, k < i → 0 < Mo k) → (∀ k, k < i → Nat.gcd (Mo k) c ∣ D) → Nat.gcd (lc Mo i) c ∣ D
  | 0, _, _ => by rw [lc, Nat.gcd_one_left]; exact Nat.one_dvd _
  | i + 1, hp, h => Nat.dvd_trans (gcd_lcm_dvd _ _ _ (hp i (by omega))) (Nat.lcm_dvd (lc_gcd (fun k hk => hp k (by omega)) fun k hk => h k (by omega)) (h i (by omega)))
theorem lc_mono {Mo : Nat → Nat} : ∀ {i j : Nat}, i ≤ j → lc Mo i ∣ lc Mo j
  | 0, 0, _ => Nat.dvd_refl _
  | i + 1, 0, h => by omega
  | i, j + 1, h => by
    rcases Nat.lt_or_ge i (j + 1) with h1 | h1
    · exact Nat.dvd_trans (lc_mono (by omega)) (Nat.dvd_lcm_left _ _)
    · obtain rfl : i = j + 1 := by omega
      exact Nat.dvd_refl _
end Go.Proofs.Ytmedflaejnbkoaa.M

/- What the printed functions of residue and its reference compute: residues, gcd, powers. No conditions. -/
import Derived.WalkKit
import Derived.WalkSmall
import Derived.Test.YtmedflaejnbkoaaM1
import Derived.Test.YtmedflaejnbkoaaQG0
import Derived.Test.YtmedflaejnbkoaaQF15
import Derived.Test.YtmedflaejnbkoaaQF18
import Derived.Test.YtmedflaejnbkoaaQF20
import Derived.Test.YtmedflaejnbkoaaQF24
import Derived.Test.YtmedflaejnbkoaaQF26
import Derived.Test.YtmedflaejnbkoaaQF35
import Derived.Test.YtmedflaejnbkoaaQF36
namespace Go.Proofs.Ytmedflaejnbkoaa.Q
open Go.RowKit Go.Proofs.YtmedflaejnbkoaaW.PrintWords Go.Proofs.YtmedflaejnbkoaaW.PrintLast Go.Proofs.YtmedflaejnbkoaaW.PrintMore Go.Proofs.Ytmedflaejnbkoaa.M
set_option linter.unusedVariables false
set_option linter.unusedSimpArgs false

theorem wrap_id {x : Int} (h0 : -9223372036854775808 ≤ x) (h1 : x ≤ 9223372036854775807) : wrap64 x = x := by unfold wrap64; omega
theorem wf_i64 {x : Int} (h : (Lit.int .i64 x).wf = true) : -9223372036854775808 ≤ x ∧ x ≤ 9223372036854775807 := by
  simpa [Lit.wf, IntKind.min, IntKind.max, IntKind.signed, IntKind.bits] using h
theorem wf_u32 {x : Int} (h : (Lit.int .u32 x).wf = true) : 0 ≤ x ∧ x ≤ 4294967295 := by
  simpa [Lit.wf, IntKind.min, IntKind.max, IntKind.signed, IntKind.bits] using h
theorem ex_succ {K k : Nat} (h : K + 1 ≤ k) : ∃ j, k = j + 1 ∧ K ≤ j := ⟨k - 1, by omega, by omega⟩
theorem mul_lt_w {a b : Int} (ha0 : 0 ≤ a) (ha : a ≤ 2147483647) (hb0 : 0 ≤ b) (hb : b ≤ 2147483647) : 0 ≤ a * b ∧ a * b ≤ 4611686014132420609 :=
  ⟨Int.mul_nonneg ha0 hb0, Int.mul_le_mul ha hb hb0 (by omega)⟩
theorem and_one {x : Int} (h0 : 0 ≤ x) (h1 : x ≤ 9223372036854775807) : Go.bits .and .i64 x 1 = x % 2 := by
  have := bits_mask .i64 63 (by decide) (fun n h0 h1 => by unfold IntKind.wrap; simp [IntKind.bits, IntKind.signed]; omega) 1 (by decide) x h0 (by omega)
  simpa using this

theorem mod_spec {a m : Int} (hm : 0 < m) (hM : m ≤ 2147483647) : residue_mod.f a m = some (a % m) := by
  unfold residue_mod.f
  rw [if_neg (by omega)]
  have h1 := Int.tmod_eq_emod (a := a) (b := m)
  have h2 := Int.emod_nonneg a (b := m) (by omega)
  have h3 := Int.emod_lt_of_pos a hm
  by_cases hc : 0 ≤ a ∨ m ∣ a
  · rw [if_pos hc] at h1
    rw [if_neg (by omega), h1]
    simp
  · rw [if_neg hc] at h1
    have h0 : a % m ≠ 0 := fun h => hc (.inr (Int.dvd_of_emod_eq_zero h))
    rw [if_pos (by omega), h1, wrap_id (by omega) (by omega)]
    congr 1
    omega
theorem Mod_spec {a m : Int} (hm : 0 < m) (hM : m ≤ 2147483647) : galoisref04_Mod.f a m = some (a % m) := by
  unfold galoisref04_Mod.f
  rw [if_neg (by omega)]
  have h1 := Int.tmod_eq_emod (a := a) (b := m)
  have h2 := Int.emod_nonneg a (b := m) (by omega)
  have h3 := Int.emod_lt_of_pos a hm
  have h4 : 0 ≤ Int.tmod a m + m := by split at h1 <;> omega
  rw [wrap_id (by omega) (by split at h1 <;> omega), Int.tmod_eq_emod_of_nonneg h4]
  congr 1
  rw [h1, Int.add_emod_right]
  split
  · simp
  · rw [Int.natAbs_of_nonneg (by omega), Int.sub_emod_right, Int.emod_emod]

theorem gcd_spec : ∀ (b a : Nat), Ev (fun k => residue_gcd.f k (a : Int) (b : Int)) (Nat.gcd a b : Int) := by
  intro b
  induction b using Nat.strongRecOn with
  | ind b ih =>
    intro a
    by_cases hb : b = 0
    · subst hb
      refine ⟨1, fun k hk => ?_⟩
      obtain ⟨j, rfl, _⟩ := ex_succ hk
      simp only [residue_gcd.f, residue_gcd.l0]
      rw [if_neg (by omega)]
      simp
    · obtain ⟨K, h⟩ := ih (a % b) (Nat.mod_lt _ (by omega)) b
      refine ⟨K + 1, fun k hk => ?_⟩
      obtain ⟨j, rfl, hj⟩ := ex_succ hk
      have h1 := h j hj
      simp only [residue_gcd.f] at h1 ⊢
      rw [residue_gcd.l0, if_pos (by omega), if_neg (by omega), Int.tmod_eq_emod_of_nonneg (by omega), ← Int.natCast_emod, h1, Nat.gcd_comm a b, Nat.gcd_rec b a, Nat.gcd_comm]
theorem Gcd_spec : ∀ (b a : Nat), Ev (fun k => galoisref04_Gcd.f k (a : Int) (b : Int)) (Nat.gcd a b : Int) := by
  intro b
  induction b using Nat.strongRecOn with
  | ind b ih =>
    intro a
    by_cases hb : b = 0
    · subst hb
      refine ⟨1, fun k hk => ?_⟩
      obtain ⟨j, rfl, _⟩ := ex_succ hk
      simp only [galoisref04_Gcd.f, galoisref04_Gcd.l0]
      rw [if_neg (by omega)]
      simp
    · obtain ⟨K, h⟩ := ih (a % b) (Nat.mod_lt _ (by omega)) b
      refine ⟨K + 1, fun k hk => ?_⟩
      obtain ⟨j, rfl, hj⟩ := ex_succ hk
      have h1 := h j hj
      simp only [galoisref04_Gcd.f] at h1 ⊢
      rw [galoisref04_Gcd.l0, if_pos (by omega), if_neg (by omega), Int.tmod_eq_emod_of_nonneg (by omega), ← Int.natCast_emod, h1, Nat.gcd_comm a b, Nat.gcd_rec b a, Nat.gcd_comm]
/-- The residue of a machine integer, as a natural number. -/
def res (a : Int) (m : Nat) : Nat := (a % (m : Int)).toNat
theorem res_cast (a : Int) {m : Nat} (hm : 0 < m) : ((res a m : Nat) : Int) = a % (m : Int) := Int.toNat_of_nonneg (Int.emod_nonneg _ (by omega))
theorem res_lt (a : Int) {m : Nat} (hm : 0 < m) : res a m < m := by
  have := res_cast a hm
  have := Int.emod_lt_of_pos a (b := (m : Int)) (by omega)
  omega
theorem res_nat (a m : Nat) : res (a : Int) m = a % m := by unfold res; rw [← Int.natCast_emod, Int.toNat_natCast]
theorem mod_nat {a : Int} {m : Nat} (hm : 0 < m) (hM : m ≤ 2147483647) : residue_mod.f a (m : Int) = some (res a m : Int) := by rw [mod_spec (by omega) (by omega), res_cast a hm]
theorem Mod_nat {a : Int} {m : Nat} (hm : 0 < m) (hM : m ≤ 2147483647) : galoisref04_Mod.f a (m : Int) = some (res a m : Int) := by rw [Mod_spec (by omega) (by omega), res_cast a hm]
theorem Coprime_spec (a : Int) {m : Nat} (hm : 0 < m) (hM : m ≤ 2147483647) : Ev (fun k => galoisref04_Coprime.f k a m) (decide (Nat.Coprime (res a m) m)) := by
  obtain ⟨K, h⟩ := Gcd_spec m (res a m)
  dsimp only at h
  refine ⟨K, fun k hk => ?_⟩
  simp only [galoisref04_Coprime.f]
  rw [Mod_nat hm hM, Option.bind_some, h k hk, Option.bind_some]
  congr 1
  rw [Bool.eq_iff_iff, beq_iff_eq, decide_eq_true_eq]
  unfold Nat.Coprime
  omega

theorem power_loop {m : Nat} (hm : 0 < m) (hM : m ≤ 2147483647) : ∀ (e a o : Nat), a < m → o < m → e ≤ 9223372036854775807 → Ev (fun k => residue_power.l0 k (a : Int) (e : Int) (m : Int) (o : Int)) ((o * a ^ e % m : Nat) : Int) := by
  intro e
  induction e using Nat.strongRecOn with
  | ind e ih =>
    intro a o ha ho he
    by_cases h0 : e = 0
    · subst h0
      refine ⟨1, fun k hk => ?_⟩
      obtain ⟨j, rfl, _⟩ := ex_succ hk
      simp only [residue_power.l0]
      rw [if_neg (by omega)]
      simp [Nat.mod_eq_of_lt ho]
    · have hb := mul_lt_w (a := (a : Int)) (b := (a : Int)) (by omega) (by omega) (by omega) (by omega)
      have hb2 := mul_lt_w (a := (o : Int)) (b := (a : Int)) (by omega) (by omega) (by omega) (by omega)
      obtain ⟨K, h⟩ := ih (e / 2) (by omega) (a * a % m) o (Nat.mod_lt _ hm) ho (by omega)
      obtain ⟨K2, h2⟩ := ih (e / 2) (by omega) (a * a % m) (o * a % m) (Nat.mod_lt _ hm) (Nat.mod_lt _ hm) (by omega)
      have hpow : (a * a % m) ^ (e / 2) % m = a ^ (2 * (e / 2)) % m := by rw [← Nat.pow_mod, ← Nat.pow_two, ← Nat.pow_mul]
      refine ⟨K + K2 + 1, fun k hk => ?_⟩
      obtain ⟨j, rfl, hj⟩ := ex_succ hk
      have h1 := h j (by omega)
      have h3 := h2 j (by omega)
      dsimp only at h1 h3
      simp only [residue_power.l0]
      rw [if_pos (by omega), and_one (by omega) (by omega)]
      rw [if_neg (show ¬ (m : Int) = 0 by omega)]
      rw [wrap_id (x := (a : Int) * a) (by omega) (by omega), wrap_id (x := (o : Int) * a) (by omega) (by omega), Int.tmod_eq_emod_of_nonneg hb.1, Int.tmod_eq_emod_of_nonneg hb2.1]
      rw [show (a : Int) * a % m = ((a * a % m : Nat) : Int) by simp, show (o : Int) * a % m = ((o * a % m : Nat) : Int) by simp, show (e : Int) / 2 = ((e / 2 : Nat) : Int) by simp]
      by_cases hodd : (e : Int) % 2 = 1
      · rw [if_pos hodd, h3]
        congr 2
        rw [Nat.mul_mod, hpow, Nat.mod_mod, ← Nat.mul_mod, Nat.mul_assoc, Nat.mul_comm a, ← Nat.pow_succ]
        congr 3
        omega
      · rw [if_neg hodd, if_neg (show ¬ (m : Int) = 0 by omega), h1]
        congr 2
        rw [Nat.mul_mod, hpow, ← Nat.mul_mod]
        congr 3
        omega
theorem power_spec (a : Int) {e m : Nat} (hm : 0 < m) (hM : m ≤ 2147483647) (he : e ≤ 9223372036854775807) : Ev (fun k => residue_power.f k a (e : Int) (m : Int)) ((res a m ^ e % m : Nat) : Int) := by
  obtain ⟨K, h⟩ := power_loop hm hM e (res a m) (1 % m) (res_lt a hm) (Nat.mod_lt _ hm) he
  dsimp only at h
  refine ⟨K, fun k hk => ?_⟩
  simp only [residue_power.f]
  rw [if_neg (by omega), mod_nat hm hM, Option.bind_some, show (1 : Int) % (m : Int) = ((1 % m : Nat) : Int) by simp, h k hk]
  congr 2
  rw [Nat.mul_mod, Nat.mod_mod, ← Nat.mul_mod, Nat.one_mul]
theorem Pow_loop {m : Nat} (hm : 0 < m) (hM : m ≤ 2147483647) : ∀ (e a o : Nat), a < m → o < m → e ≤ 9223372036854775807 → Ev (fun k => galoisref04_Pow.l0 k (a : Int) (e : Int) (m : Int) (o : Int)) ((o * a ^ e % m : Nat) : Int) := by
  intro e
  induction e using Nat.strongRecOn with
  | ind e ih =>
    intro a o ha ho he
    by_cases h0 : e = 0
    · subst h0
      refine ⟨1, fun k hk => ?_⟩
      obtain ⟨j, rfl, _⟩ := ex_succ hk
      simp only [galoisref04_Pow.l0]
      rw [if_neg (by omega)]
      simp [Nat.mod_eq_of_lt ho]
    · have hb := mul_lt_w (a := (a : Int)) (b := (a : Int)) (by omega) (by omega) (by omega) (by omega)
      have hb2 := mul_lt_w (a := (o : Int)) (b := (a : Int)) (by omega) (by omega) (by omega) (by omega)
      obtain ⟨K, h⟩ := ih (e / 2) (by omega) (a * a % m) o (Nat.mod_lt _ hm) ho (by omega)
      obtain ⟨K2, h2⟩ := ih (e / 2) (by omega) (a * a % m) (o * a % m) (Nat.mod_lt _ hm) (Nat.mod_lt _ hm) (by omega)
      have hpow : (a * a % m) ^ (e / 2) % m = a ^ (2 * (e / 2)) % m := by rw [← Nat.pow_mod, ← Nat.pow_two, ← Nat.pow_mul]
      refine ⟨K + K2 + 1, fun k hk => ?_⟩
      obtain ⟨j, rfl, hj⟩ := ex_succ hk
      have h1 := h j (by omega)
      have h3 := h2 j (by omega)
      dsimp only at h1 h3
      simp only [galoisref04_Pow.l0]
      rw [if_pos (by omega), Int.tmod_eq_emod_of_nonneg (by omega : (0 : Int) ≤ e), Int.tdiv_eq_ediv_of_nonneg (by omega : (0 : Int) ≤ e), wrap_id (x := (e : Int) / 2) (by omega) (by omega)]
      rw [if_neg (show ¬ (m : Int) = 0 by omega)]
      rw [wrap_id (x := (a : Int) * a) (by omega) (by omega), wrap_id (x := (o : Int) * a) (by omega) (by omega), Int.tmod_eq_emod_of_nonneg hb.1, Int.tmod_eq_emod_of_nonneg hb2.1]
      rw [show (a : Int) * a % m = ((a * a % m : Nat) : Int) by simp, show (o : Int) * a % m = ((o * a % m : Nat) : Int) by simp, show (e : Int) / 2 = ((e / 2 : Nat) : Int) by simp]
      by_cases hodd : (e : Int) % 2 = 1
      · rw [if_pos hodd, h3]
        congr 2
        rw [Nat.mul_mod, hpow, Nat.mod_mod, ← Nat.mul_mod, Nat.mul_assoc, Nat.mul_comm a, ← Nat.pow_succ]
        congr 3
        omega
      · rw [if_neg hodd, if_neg (show ¬ (m : Int) = 0 by omega), h1]
        congr 2
        rw [Nat.mul_mod, hpow, ← Nat.mul_mod]
        congr 3
        omega
theorem Pow_spec (a : Int) {e m : Nat} (hm : 0 < m) (hM : m ≤ 2147483647) (he : e ≤ 9223372036854775807) : Ev (fun k => galoisref04_Pow.f k a (e : Int) (m : Int)) ((res a m ^ e % m : Nat) : Int) := by
  obtain ⟨K, h⟩ := Pow_loop hm hM e (res a m) (1 % m) (res_lt a hm) (Nat.mod_lt _ hm) he
  dsimp only at h
  refine ⟨K, fun k hk => ?_⟩
  simp only [galoisref04_Pow.f]
  rw [if_neg (by omega), Mod_nat hm hM, Option.bind_some, show (1 : Int) % (m : Int) = ((1 % m : Nat) : Int) by simp, h k hk]
  congr 2
  rw [Nat.mul_mod, Nat.mod_mod, ← Nat.mul_mod, Nat.one_mul]
end Go.Proofs.Ytmedflaejnbkoaa.Q

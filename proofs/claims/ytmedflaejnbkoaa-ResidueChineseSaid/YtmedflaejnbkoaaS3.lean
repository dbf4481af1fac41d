/- What the printed inverses of residue and its reference compute. No conditions. -/
import Derived.Test.YtmedflaejnbkoaaS2a
import Derived.Test.YtmedflaejnbkoaaQG0
import Derived.Test.YtmedflaejnbkoaaQF33
import Derived.Test.YtmedflaejnbkoaaQF34
import Derived.Test.YtmedflaejnbkoaaQF36
namespace Go.Proofs.Ytmedflaejnbkoaa.Q
open Go.RowKit Go.Proofs.YtmedflaejnbkoaaW.PrintWords Go.Proofs.YtmedflaejnbkoaaW.PrintLast Go.Proofs.YtmedflaejnbkoaaW.PrintMore Go.Proofs.Ytmedflaejnbkoaa.M
set_option linter.unusedVariables false
set_option linter.unusedSimpArgs false

/-- The state of Euclid's extended algorithm for m and a. -/
structure Eu (m a r s : Nat) (x y : Int) : Prop where
  size : ∃ (X Y : Nat), r * Y + s * X = m ∧ ((x = X ∧ y = -(Y : Int)) ∨ (x = -(X : Int) ∧ y = Y))
  hx : (m : Int) ∣ x * a - r
  hy : (m : Int) ∣ y * a - s
  gcd : Nat.gcd r s = Nat.gcd m a
  le : r ≤ m
  les : s ≤ m
theorem Eu.start (m a : Nat) (ha : a ≤ m) : Eu m a m a 0 1 :=
  ⟨⟨0, 1, by simp, Or.inr ⟨by simp, rfl⟩⟩, ⟨-1, by simp⟩, ⟨0, by simp⟩, rfl, Nat.le_refl _, ha⟩
theorem Eu.step {m a r s : Nat} {x y : Int} (h : Eu m a r s x y) (hs : 0 < s) : Eu m a s (r % s) y (x - (r / s : Nat) * y) ∧ (-(m : Int) ≤ x ∧ x ≤ m ∧ -(m : Int) ≤ (r / s : Nat) * y ∧ (r / s : Nat) * y ≤ m ∧ -(m : Int) ≤ x - (r / s : Nat) * y ∧ x - (r / s : Nat) * y ≤ m) := by
  obtain ⟨⟨X, Y, hm, hxy⟩, hx, hy, hg, hle, hles⟩ := h
  have e1 : s * (X + r / s * Y) + r % s * Y = m := by
    have h1 := Nat.div_add_mod r s
    have h2 : r * Y = s * (r / s) * Y + r % s * Y := by rw [← Nat.add_mul, h1]
    rw [Nat.mul_add, ← Nat.mul_assoc]
    omega
  have e2 : X + r / s * Y ≤ m := by
    have : 1 * (X + r / s * Y) ≤ s * (X + r / s * Y) := Nat.mul_le_mul_right _ hs
    omega
  have hdx : (m : Int) ∣ (x - (r / s : Nat) * y) * a - (r % s : Nat) := by
    have h1 : (x - (r / s : Nat) * y) * a - (r % s : Nat) = (x * a - r) - (r / s : Nat) * (y * a - s) := by
      have h2 := Nat.div_add_mod r s
      have h3 : (r : Int) = (s : Int) * (r / s : Nat) + (r % s : Nat) := by rw [← Int.natCast_mul, ← Int.natCast_add, h2]
      rw [Int.sub_mul, Int.mul_sub, Int.mul_assoc, Int.mul_comm (s : Int)] at *
      omega
    rw [h1]
    exact Int.dvd_sub hx (Int.dvd_trans hy ⟨_, Int.mul_comm _ _⟩)
  have hq : ((r / s * Y : Nat) : Int) = (r / s : Nat) * (Y : Int) := Int.natCast_mul _ _
  refine ⟨⟨⟨Y, X + r / s * Y, e1, ?_⟩, hy, hdx, ?_, hles, Nat.le_trans (Nat.le_of_lt (Nat.mod_lt _ hs)) hles⟩, ?_⟩
  · rcases hxy with ⟨rfl, rfl⟩ | ⟨rfl, rfl⟩
    · right
      refine ⟨rfl, ?_⟩
      rw [Int.mul_neg, ← hq]
      omega
    · left
      refine ⟨rfl, ?_⟩
      rw [← hq]
      omega
  · rw [← hg, Nat.gcd_comm r s, Nat.gcd_rec s r, Nat.gcd_comm]
  · rcases hxy with ⟨rfl, rfl⟩ | ⟨rfl, rfl⟩
    · rw [Int.mul_neg, ← hq]
      omega
    · rw [← hq]
      omega
theorem Eu.done {m a r : Nat} {x y : Int} (hm : 0 < m) (h : Eu m a r 0 x y) (hc : Nat.Coprime m a) : res x m < m ∧ a * res x m % m = 1 % m := by
  refine ⟨res_lt x hm, ?_⟩
  have hr : r = 1 := by
    have := h.gcd
    rw [Nat.gcd_zero_right] at this
    rw [this]
    exact hc
  have h1 := h.hx
  subst hr
  rw [one_mod_iff]
  have h2 : (m : Int) ∣ x - (res x m : Int) := by
    rw [res_cast x hm]
    exact ⟨x / m, by have := Int.mul_ediv_add_emod x m; omega⟩
  have h3 : ((a * res x m : Nat) : Int) - 1 = (x * a - (1 : Nat)) - (x - (res x m : Int)) * a := by
    rw [Int.natCast_mul, Int.sub_mul, Int.mul_comm (a : Int)]
    simp
    omega
  rw [h3]
  exact Int.dvd_sub h1 (Int.dvd_trans h2 ⟨_, rfl⟩)
theorem inverse_loop {m a : Nat} (hm : 0 < m) (hM : m ≤ 2147483647) (hc : Nat.Coprime m a) : ∀ (s r : Nat) (x y : Int), Eu m a r s x y → ∃ v : Nat, v < m ∧ a * v % m = 1 % m ∧ Ev (fun k => residue_inverse.l0 k (m : Int) (r : Int) (s : Int) x y) (v : Int) := by
  intro s
  induction s using Nat.strongRecOn with
  | ind s ih =>
    intro r x y h
    rcases Nat.eq_zero_or_pos s with rfl | hs
    · obtain ⟨h1, h2⟩ := h.done hm hc
      refine ⟨_, h1, h2, 1, fun k hk => ?_⟩
      obtain ⟨j, rfl, hj⟩ := ex_succ hk
      simp only [residue_inverse.l0]
      rw [if_neg (by omega), mod_nat hm hM]
      rfl
    · obtain ⟨h1, b⟩ := h.step hs
      obtain ⟨v, hv1, hv2, K, hK⟩ := ih (r % s) (Nat.mod_lt _ hs) s _ _ h1
      dsimp only at hK
      refine ⟨v, hv1, hv2, K + 1, fun k hk => ?_⟩
      obtain ⟨j, rfl, hj⟩ := ex_succ hk
      have hle := h.le
      have hq0 : (0 : Int) ≤ ((r / s : Nat) : Int) := Int.natCast_nonneg _
      have hq : ((r / s : Nat) : Int) ≤ r := Int.ofNat_le.2 (Nat.div_le_self r s)
      have hKj := hK j hj
      simp only [residue_inverse.l0]
      rw [if_pos (by omega), if_neg (by omega), Int.tmod_eq_emod_of_nonneg (by omega : (0 : Int) ≤ r), Int.tdiv_eq_ediv_of_nonneg (by omega : (0 : Int) ≤ r), show (r : Int) / s = ((r / s : Nat) : Int) by simp, show (r : Int) % s = ((r % s : Nat) : Int) by simp]
      clear h h1 hK
      generalize ((r / s : Nat) : Int) = q at *
      rw [wrap_id (x := q) (by omega) (by omega), wrap_id (x := q * y) (by omega) (by omega), wrap_id (by omega) (by omega)]
      exact hKj
theorem Inverse_loop {m a : Nat} (hm : 0 < m) (hM : m ≤ 2147483647) (hc : Nat.Coprime m a) : ∀ (s r : Nat) (x y : Int), Eu m a r s x y → ∃ v : Nat, v < m ∧ a * v % m = 1 % m ∧ Ev (fun k => galoisref04_Inverse.l0 k (m : Int) (r : Int) (s : Int) x y) (v : Int) := by
  intro s
  induction s using Nat.strongRecOn with
  | ind s ih =>
    intro r x y h
    rcases Nat.eq_zero_or_pos s with rfl | hs
    · obtain ⟨h1, h2⟩ := h.done hm hc
      refine ⟨_, h1, h2, 1, fun k hk => ?_⟩
      obtain ⟨j, rfl, hj⟩ := ex_succ hk
      simp only [galoisref04_Inverse.l0]
      rw [if_neg (by omega), Mod_nat hm hM]
      rfl
    · obtain ⟨h1, b⟩ := h.step hs
      obtain ⟨v, hv1, hv2, K, hK⟩ := ih (r % s) (Nat.mod_lt _ hs) s _ _ h1
      dsimp only at hK
      refine ⟨v, hv1, hv2, K + 1, fun k hk => ?_⟩
      obtain ⟨j, rfl, hj⟩ := ex_succ hk
      have hle := h.le
      have hq0 : (0 : Int) ≤ ((r / s : Nat) : Int) := Int.natCast_nonneg _
      have hq : ((r / s : Nat) : Int) ≤ r := Int.ofNat_le.2 (Nat.div_le_self r s)
      have hKj := hK j hj
      have e1 : ((r / s : Nat) : Int) * s = (r : Int) - ((r % s : Nat) : Int) := by
        have h2 := Nat.div_add_mod r s
        have h3 : (s : Int) * (r / s : Nat) + (r % s : Nat) = r := by rw [← Int.natCast_mul, ← Int.natCast_add, h2]
        rw [Int.mul_comm] at h3
        omega
      have hlt := Nat.mod_lt r hs
      simp only [galoisref04_Inverse.l0]
      have hlt0 : (0 : Int) ≤ ((r % s : Nat) : Int) := Int.natCast_nonneg _
      have hlt1 : ((r % s : Nat) : Int) ≤ r := Int.ofNat_le.2 (Nat.mod_le r s)
      rw [if_pos (by omega), if_neg (by omega), Int.tdiv_eq_ediv_of_nonneg (by omega : (0 : Int) ≤ r), show (r : Int) / s = ((r / s : Nat) : Int) by simp]
      clear h h1 hK hlt
      generalize ((r / s : Nat) : Int) = q at *
      generalize ((r % s : Nat) : Int) = t at *
      rw [wrap_id (x := q) (by omega) (by omega), e1, wrap_id (x := (r : Int) - t) (by omega) (by omega), show (r : Int) - ((r : Int) - t) = t by omega, wrap_id (x := t) (by omega) (by omega), wrap_id (x := q * y) (by omega) (by omega), wrap_id (by omega) (by omega)]
      exact hKj
/-- The inverse of a modulo m. -/
theorem inv_unique {m a v v' : Nat} (hc : Nat.Coprime m a) (hv : v < m) (hv' : v' < m) (h : a * v % m = 1 % m) (h' : a * v' % m = 1 % m) : v = v' := by
  have := mod_cancel hc (h.trans h'.symm)
  rwa [Nat.mod_eq_of_lt hv, Nat.mod_eq_of_lt hv'] at this
theorem inverse_spec (a : Int) {m : Nat} (hm : 0 < m) (hM : m ≤ 2147483647) (hc : Nat.Coprime (res a m) m) : ∃ v : Nat, v < m ∧ res a m * v % m = 1 % m ∧ Ev (fun k => residue_inverse.f k a (m : Int)) (v : Int) := by
  obtain ⟨v, h1, h2, K, h⟩ := inverse_loop hm hM hc.symm (res a m) m 0 1 (Eu.start m _ (Nat.le_of_lt (res_lt a hm)))
  dsimp only at h
  refine ⟨v, h1, h2, K, fun k hk => ?_⟩
  simp only [residue_inverse.f]
  rw [mod_nat hm hM, Option.bind_some, h k hk]
theorem Inverse_ref_spec (a : Int) {m : Nat} (hm : 0 < m) (hM : m ≤ 2147483647) (hc : Nat.Coprime (res a m) m) : ∃ v : Nat, v < m ∧ res a m * v % m = 1 % m ∧ Ev (fun k => galoisref04_Inverse.f k a (m : Int)) (v : Int) := by
  obtain ⟨v, h1, h2, K, h⟩ := Inverse_loop hm hM hc.symm (res a m) m 0 1 (Eu.start m _ (Nat.le_of_lt (res_lt a hm)))
  dsimp only at h
  refine ⟨v, h1, h2, K, fun k hk => ?_⟩
  simp only [galoisref04_Inverse.f]
  rw [Mod_nat hm hM, Option.bind_some, h k hk]
theorem Pow_prog (a : Int) {e : Int} {m : Nat} (hm : 0 < m) (hM : m ≤ 2147483647) (h0 : 0 ≤ e) (he : e ≤ 9223372036854775807) : Ev (fun k => residue_Pow.f k a e (m : Int)) (((res a m ^ e.toNat % m : Nat) : Int), 0) := by
  obtain ⟨n, rfl⟩ := Int.eq_ofNat_of_zero_le h0
  obtain ⟨K, h⟩ := power_spec a hm hM (e := n) (by omega)
  dsimp only at h
  refine ⟨K, fun k hk => ?_⟩
  simp only [residue_Pow.f]
  rw [bad_one (by omega) (by omega), Option.bind_some, if_neg (by simp), if_neg (by omega), h k hk, Option.bind_some, Int.toNat_natCast]
theorem Pow_bad (a e m : Int) (h : e < 0 ∨ ¬ (1 ≤ m ∧ m ≤ 2147483647)) (k : Nat) : residue_Pow.f k a e m = some (0, 3) := by
  simp only [residue_Pow.f]
  by_cases hb : 1 ≤ m ∧ m ≤ 2147483647
  · rw [bad_one hb.1 hb.2, Option.bind_some, if_neg (by simp), if_pos (by omega)]
  · rw [bad_one' hb]
    rfl
theorem Inverse_bad (a m : Int) (h : ¬ (1 ≤ m ∧ m ≤ 2147483647)) (k : Nat) : residue_Inverse.f k a m = some (0, 3) := by
  simp only [residue_Inverse.f]
  rw [bad_one' h]
  rfl
theorem Inverse_zero (a : Int) {m : Nat} (hm : 0 < m) (hM : m ≤ 2147483647) (hc : ¬ Nat.Coprime (res a m) m) : Ev (fun k => residue_Inverse.f k a (m : Int)) (0, 6) := by
  obtain ⟨K, h⟩ := gcd_spec (res a m) m
  dsimp only at h
  refine ⟨K, fun k hk => ?_⟩
  simp only [residue_Inverse.f]
  rw [bad_one (by omega) (by omega), Option.bind_some, if_neg (by simp), mod_nat hm hM, Option.bind_some, h k hk, Option.bind_some, if_neg]
  intro h1
  exact hc (Nat.Coprime.symm (by unfold Nat.Coprime; omega))
theorem Inverse_spec (a : Int) {m : Nat} (hm : 0 < m) (hM : m ≤ 2147483647) (hc : Nat.Coprime (res a m) m) : ∃ v : Nat, v < m ∧ res a m * v % m = 1 % m ∧ Ev (fun k => residue_Inverse.f k a (m : Int)) ((v : Int), 0) := by
  obtain ⟨K, h⟩ := gcd_spec (res a m) m
  obtain ⟨v, h1, h2, K2, h3⟩ := inverse_spec a hm hM hc
  dsimp only at h h3
  refine ⟨v, h1, h2, K + K2, fun k hk => ?_⟩
  simp only [residue_Inverse.f]
  rw [bad_one (by omega) (by omega), Option.bind_some, if_neg (by simp), mod_nat hm hM, Option.bind_some, h k (by omega), Option.bind_some, if_pos, h3 k (by omega), Option.bind_some]
  have := hc.symm
  unfold Nat.Coprime at this
  omega
theorem isMod_spec (m : Int) : galoisref04_IsModulus.f m = some (decide (1 ≤ m ∧ m ≤ 2147483647)) := by
  unfold galoisref04_IsModulus.f
  by_cases h : m ≥ 1
  · rw [if_pos h]
    congr 1
    rw [Bool.eq_iff_iff, decide_eq_true_eq, decide_eq_true_eq]
    omega
  · rw [if_neg h, decide_eq_false]
    omega
theorem is_val (x : Int) : galoislaw04_is.f x 0 x 0 = some true := by simp [galoislaw04_is.f]
theorem is_err {e : Int} (h : e ≠ 0) : galoislaw04_is.f 0 e 0 e = some true := by simp [galoislaw04_is.f, h]
end Go.Proofs.Ytmedflaejnbkoaa.Q

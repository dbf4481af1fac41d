/- Modulo a prime a polynomial of degree n with leading coefficient 1 has at most n roots; there is a quadratic nonresidue; square roots of 1. No Go in it, no conditions. -/
import Derived.Test.YtmedflaejnbkoaaM2
namespace Go.Proofs.Ytmedflaejnbkoaa.M
set_option linter.unusedVariables false

/-! ### roots of polynomials with integer coefficients, modulo a prime -/
def pev : List Int → Int → Int
  | [], _ => 0
  | c :: cs, x => c + x * pev cs x
def addmul : List Int → Int → List Int → List Int
  | as, _, [] => as
  | [], _, _ => []
  | a :: as, r, b :: bs => (a + r * b) :: addmul as r bs
def sd : List Int → Int → List Int
  | [], _ => []
  | _ :: cs, r => addmul cs r (sd cs r)
theorem addmul_ev (r x : Int) : ∀ (as bs : List Int), bs.length ≤ as.length → pev (addmul as r bs) x = pev as x + r * pev bs x
  | as, [], _ => by cases as <;> simp [addmul, pev]
  | [], b :: bs, h => by simp at h
  | a :: as, b :: bs, h => by
    simp only [addmul, pev]
    rw [addmul_ev r x as bs (by simpa using h), Int.mul_add, Int.mul_add, Int.mul_left_comm x r]
    omega
theorem addmul_len (r : Int) : ∀ (as bs : List Int), bs.length ≤ as.length → (addmul as r bs).length = as.length
  | as, [], _ => by cases as <;> simp [addmul]
  | [], b :: bs, h => by simp at h
  | a :: as, b :: bs, h => by simp only [addmul, List.length_cons]; rw [addmul_len r as bs (by simpa using h)]
theorem sd_len (r : Int) : ∀ cs : List Int, (sd cs r).length = cs.length - 1
  | [] => rfl
  | c :: cs => by
    rw [sd, addmul_len r cs _ (by rw [sd_len r cs]; omega)]
    simp
theorem sd_ev (r x : Int) : ∀ cs : List Int, pev cs x - pev cs r = (x - r) * pev (sd cs r) x
  | [] => by simp [pev, sd]
  | c :: cs => by
    have h := sd_ev r x cs
    simp only [pev, sd]
    rw [addmul_ev r x cs _ (by rw [sd_len]; omega), Int.mul_add, Int.mul_left_comm (x - r) r, ← h, Int.mul_sub, Int.sub_mul]
    omega
theorem addmul_monic (r : Int) : ∀ (as bs : List Int), bs.length ≤ as.length → ∃ as', addmul (as ++ [1]) r bs = as' ++ [1] ∧ as'.length = as.length
  | as, [], _ => ⟨as, by cases as <;> simp [addmul], rfl⟩
  | [], b :: bs, h => by simp at h
  | a :: as, b :: bs, h => by
    obtain ⟨as', h1, h2⟩ := addmul_monic r as bs (by simpa using h)
    exact ⟨(a + r * b) :: as', by simp only [List.cons_append, addmul, h1], by simp [h2]⟩
theorem roots_le {p : Nat} (hp : Prm p) : ∀ (as : List Int) (rs : List Int), rs.Pairwise (fun a b => ¬ (p : Int) ∣ a - b) → (∀ r ∈ rs, (p : Int) ∣ pev (as ++ [1]) r) → rs.length ≤ as.length
  | [], [], _, _ => Nat.le_refl _
  | [], r :: rs, _, h => by
    have h1 := h r List.mem_cons_self
    simp [pev] at h1
    have := Int.le_of_dvd (by omega) h1
    have := hp.1
    omega
  | a :: as, [], _, _ => Nat.zero_le _
  | a :: as, r :: rs, hd, h => by
    obtain ⟨as', h1, h2⟩ := addmul_monic r as (sd (as ++ [1]) r) (by rw [sd_len]; simp)
    have hq : sd (a :: as ++ [1]) r = as' ++ [1] := h1
    have hr := h r List.mem_cons_self
    have hpw := List.pairwise_cons.1 hd
    have := roots_le hp as' rs hpw.2 fun s hs => by
      have h3 := h s (List.mem_cons_of_mem _ hs)
      have h4 : (p : Int) ∣ (s - r) * pev (as' ++ [1]) s := by
        rw [← hq, ← sd_ev]
        exact Int.dvd_sub h3 hr
      have h5 : ¬ (p : Int) ∣ s - r := fun hd => hpw.1 s hs (by
        have := Int.dvd_neg.2 hd
        rwa [Int.neg_sub] at this)
      have h6 := Int.ofNat_dvd_left.1 h4
      rw [Int.natAbs_mul] at h6
      rcases prm_mul hp h6 with h7 | h7
      · exact absurd (Int.ofNat_dvd_left.2 h7) h5
      · exact Int.ofNat_dvd_left.2 h7
    simp only [List.length_cons]
    omega
theorem pev_pow (x : Int) : ∀ n : Nat, pev (List.replicate n 0 ++ [1]) x = x ^ n
  | 0 => by simp [pev]
  | n + 1 => by
    rw [List.replicate_succ, List.cons_append, pev, pev_pow x n, Int.pow_succ, Int.mul_comm]
    omega
/-- An odd prime has a nonresidue. -/
theorem exists_nonresidue {p : Nat} (hp : Prm p) (h2 : p % 2 = 1) : ∃ z, 2 ≤ z ∧ z < p ∧ jac z p = -1 := by
  apply Classical.byContradiction
  intro hno
  have hp2 := hp.1
  have hall : ∀ z, 1 ≤ z → z < p → (p : Int) ∣ (z : Int) ^ (p / 2) - 1 := by
    intro z h1 h3
    have hc : Nat.Coprime z p := (prm_cop hp fun h => by have := Nat.le_of_dvd (by omega) h; omega).symm
    have hg := gauss hp h2 hc
    have hj : jac z p = 1 := by
      by_cases hz : z = 1
      · subst hz
        rw [jac_cop (Nat.gcd_one_left p)]
        rcases sg_cases (mu 1 p) with h | h
        · exact h
        · exfalso
          rw [h, show ((1 : Nat) : Int) = 1 from rfl, Int.one_pow] at hg
          have := Int.le_of_dvd (by omega) hg
          omega
      · rw [jac_cop hc]
        rcases sg_cases (mu z p) with h | h
        · exact h
        · exact absurd ⟨z, by omega, h3, by rw [jac_cop hc]; exact h⟩ hno
    rw [jac_cop hc] at hj
    rw [hj] at hg
    exact hg
  have h1 : ∃ n, p / 2 = n + 1 := ⟨p / 2 - 1, by omega⟩
  obtain ⟨n, hn⟩ := h1
  have hle := roots_le hp ((-1) :: List.replicate n 0) ((List.range' 1 (p - 1)).map fun z => ((z : Nat) : Int)) (by
    rw [List.pairwise_map]
    refine List.Pairwise.imp_of_mem (fun {a b} ha hb hab hd => ?_) List.nodup_range'
    rw [List.mem_range'_1] at ha hb
    have h3 : ((a : Int) - b).natAbs < p := by omega
    have h4 := Int.ofNat_dvd_left.1 hd
    have h5 : ((a : Int) - b).natAbs = 0 := Nat.eq_zero_of_dvd_of_lt h4 h3
    omega) (by
    intro r hr
    obtain ⟨z, hz, rfl⟩ := List.mem_map.1 hr
    rw [List.mem_range'_1] at hz
    have h3 := hall z hz.1 (by omega)
    rw [hn] at h3
    rw [List.cons_append, pev, pev_pow, Int.mul_comm, ← Int.pow_succ, Int.add_comm]
    exact h3)
  simp at hle
  omega
/-- Modulo a prime 1 has no square roots but 1 and -1. -/
theorem sq_one_mod {p y : Nat} (hp : Prm p) (hy : y < p) (h : y * y % p = 1 % p) : y = 1 ∨ y = p - 1 := by
  have hp2 := hp.1
  have h0 : y ≠ 0 := by
    rintro rfl
    rw [Nat.mul_zero, Nat.zero_mod, Nat.mod_eq_of_lt (by omega)] at h
    omega
  have h1 := (one_mod_iff (m := p) (y * y)).1 h
  have h2 : ((y * y : Nat) : Int) - 1 = ((y : Int) - 1) * ((y : Int) + 1) := by
    rw [Int.natCast_mul, Int.sub_mul, Int.mul_add, Int.mul_add]
    omega
  rw [h2] at h1
  have h3 := Int.ofNat_dvd_left.1 h1
  rw [Int.natAbs_mul] at h3
  rcases prm_mul hp h3 with h4 | h4
  · left
    have := Nat.eq_zero_of_dvd_of_lt h4 (by omega)
    omega
  · right
    have := Nat.le_of_dvd (by omega) h4
    omega
theorem legendre_value {p a : Nat} (hp : Prm p) (h2 : p % 2 = 1) : a ^ (p / 2) % p = if jac a p = 1 then 1 else if jac a p = -1 then p - 1 else 0 := by
  have hp2 := hp.1
  by_cases hc : Nat.Coprime a p
  · have hg := gauss hp h2 hc
    rw [jac_cop hc]
    rcases sg_cases (mu a p) with h | h
    · rw [h] at hg
      rw [h, if_pos rfl]
      have := (one_mod_iff (m := p) (a ^ (p / 2))).2 (by simpa using hg)
      rwa [Nat.mod_eq_of_lt (show 1 < p by omega)] at this
    · rw [h] at hg
      rw [h, if_neg (by decide), if_pos rfl]
      have h3 : (p : Int) ∣ ((a ^ (p / 2) + 1 : Nat) : Int) := by
        have e : ((a ^ (p / 2) + 1 : Nat) : Int) = (a : Int) ^ (p / 2) - -1 := by simp
        rw [e]
        exact hg
      have h4 : (a ^ (p / 2) + 1) % p = 0 := Nat.mod_eq_zero_of_dvd (Int.ofNat_dvd.1 h3)
      have h5 := Nat.mod_lt (a ^ (p / 2)) (show 0 < p by omega)
      rw [Nat.add_mod, Nat.mod_eq_of_lt (show 1 < p by omega)] at h4
      rcases Nat.lt_or_ge (a ^ (p / 2) % p + 1) p with h6 | h6
      · rw [Nat.mod_eq_of_lt h6] at h4
        omega
      · omega
  · rw [jac_not hc, if_neg (by decide), if_neg (by decide)]
    have hd : p ∣ a := by
      apply Classical.byContradiction
      intro h
      exact hc (prm_cop hp h).symm
    have h3 : p ∣ a ^ (p / 2) := Nat.dvd_trans hd ⟨a ^ (p / 2 - 1), by rw [Nat.mul_comm, ← Nat.pow_succ]; congr 1; omega⟩
    exact Nat.mod_eq_zero_of_dvd h3
theorem jac_cases (a n : Nat) : jac a n = 1 ∨ jac a n = -1 ∨ jac a n = 0 := by
  by_cases hc : Nat.Coprime a n
  · rw [jac_cop hc]
    rcases sg_cases (mu a n) with h | h
    · exact Or.inl h
    · exact Or.inr (Or.inl h)
  · exact Or.inr (Or.inr (jac_not hc))
theorem jac_zero_iff {p a : Nat} (hp : Prm p) : jac a p = 0 ↔ a % p = 0 := by
  constructor
  · intro h
    apply Nat.mod_eq_zero_of_dvd
    apply Classical.byContradiction
    intro hd
    rw [jac_cop (prm_cop hp hd).symm] at h
    rcases sg_cases (mu a p) with h1 | h1 <;> rw [h1] at h <;> cases h
  · intro h
    apply jac_not
    intro hc
    have hd := Nat.dvd_of_mod_eq_zero h
    have := Nat.dvd_gcd hd (Nat.dvd_refl p)
    rw [hc] at this
    have := Nat.le_of_dvd (by omega) this
    have := hp.1
    omega
/-- A square is no nonresidue. -/
theorem jac_sq {p a x : Nat} (hp : Prm p) (h2 : p % 2 = 1) (h : x * x % p = a % p) : jac a p ≠ -1 := by
  rw [← jac_mod a p, ← h, jac_mod, jac_mul h2]
  rcases jac_cases x p with h1 | h1 | h1 <;> rw [h1] <;> decide
end Go.Proofs.Ytmedflaejnbkoaa.M

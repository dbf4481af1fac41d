/- Gauss's lemma, quadratic reciprocity for odd coprime numbers, and the Jacobi symbol, over Nat. No Go in it, no conditions. -/
import Derived.Test.YtmedflaejnbkoaaM1
namespace Go.Proofs.Ytmedflaejnbkoaa.M

/-! ### sums from 1 to n -/
def S (f : Nat → Nat) : Nat → Nat
  | 0 => 0
  | n + 1 => S f n + f (n + 1)
theorem S_add (f g : Nat → Nat) : ∀ n, S (fun x => f x + g x) n = S f n + S g n
  | 0 => rfl
  | n + 1 => by simp only [S, S_add f g n]; omega
theorem S_congr {f g : Nat → Nat} : ∀ {n}, (∀ x, 1 ≤ x → x ≤ n → f x = g x) → S f n = S g n
  | 0, _ => rfl
  | n + 1, h => by simp only [S]; rw [S_congr fun x h1 h2 => h x h1 (by omega), h (n + 1) (by omega) (by omega)]
theorem S_mod {f g : Nat → Nat} : ∀ {n}, (∀ x, 1 ≤ x → x ≤ n → f x % 2 = g x % 2) → S f n % 2 = S g n % 2
  | 0, _ => rfl
  | n + 1, h => by
    have h1 := S_mod (n := n) fun x h1 h2 => h x h1 (by omega)
    have h2 := h (n + 1) (by omega) (by omega)
    simp only [S]
    omega
theorem S_const (c : Nat) : ∀ n, S (fun _ => c) n = n * c
  | 0 => by simp [S]
  | n + 1 => by simp only [S, S_const c n, Nat.succ_mul]
theorem S_swap (f : Nat → Nat → Nat) (m : Nat) : ∀ n, S (fun x => S (fun y => f x y) m) n = S (fun y => S (fun x => f x y) n) m
  | 0 => by
    simp only [S]
    rw [S_const]
    simp
  | n + 1 => by
    simp only [S]
    rw [S_add, S_swap f m n]
theorem S_list (f : Nat → Nat) : ∀ n, S f n = ((List.range' 1 n).map f).sum
  | 0 => rfl
  | n + 1 => by
    rw [List.range'_concat, S, S_list f n, List.map_append, List.sum_append]
    simp [Nat.add_comm]
/-- A map of [1, n] into itself that is one to one doesn't change a sum. -/
theorem S_perm (f π : Nat → Nat) (n : Nat) (hm : ∀ x, 1 ≤ x → x ≤ n → 1 ≤ π x ∧ π x ≤ n) (hi : ∀ x y, 1 ≤ x → x ≤ n → 1 ≤ y → y ≤ n → π x = π y → x = y) : S (fun x => f (π x)) n = S f n := by
  have hmem : ∀ x, x ∈ List.range' 1 n ↔ 1 ≤ x ∧ x ≤ n := fun x => by rw [List.mem_range'_1]; omega
  have hp : ((List.range' 1 n).map π).Perm (List.range' 1 n) := perm_map_self List.nodup_range' π (fun x hx => by rw [hmem] at hx ⊢; exact hm x hx.1 hx.2) (fun x hx y hy h => by rw [hmem] at hx hy; exact hi x y hx.1 hx.2 hy.1 hy.2 h)
  rw [S_list, S_list, ← (hp.map f).sum_nat, List.map_map]
  rfl
theorem S_le_count (n t : Nat) (hn : 0 < n) : ∀ N, S (fun y => if n * y ≤ t then 1 else 0) N = min N (t / n)
  | 0 => by simp [S]
  | N + 1 => by
    simp only [S]
    rw [S_le_count n t hn N]
    by_cases h : n * (N + 1) ≤ t
    · rw [if_pos h]
      have : N + 1 ≤ t / n := (Nat.le_div_iff_mul_le hn).2 (by rw [Nat.mul_comm]; exact h)
      omega
    · rw [if_neg h]
      have : t / n < N + 1 := (Nat.div_lt_iff_lt_mul hn).2 (by rw [Nat.mul_comm]; omega)
      omega

/-! ### the sign of a x modulo n -/
/-- Is the residue of a x beyond n / 2? -/
def neg (n a x : Nat) : Nat := if n < 2 * (a * x % n) then 1 else 0
/-- The absolutely least residue, without its sign. -/
def ar (n a x : Nat) : Nat := if n < 2 * (a * x % n) then n - a * x % n else a * x % n
def mu (a n : Nat) : Nat := S (neg n a) (n / 2)
theorem mu_mod (a n : Nat) : mu (a % n) n = mu a n := by
  unfold mu
  refine S_congr fun x _ _ => ?_
  unfold neg
  rw [Nat.mod_mul_mod]
theorem neg_le (n a x : Nat) : neg n a x ≤ 1 := by unfold neg; split <;> omega
section
variable {n a : Nat} (hn : n % 2 = 1) (hc : Nat.Coprime a n)
include hn hc
theorem res_ne {x : Nat} (h1 : 1 ≤ x) (h2 : x ≤ n / 2) : a * x % n ≠ 0 := fun h => by
  have h3 : n ∣ x := hc.symm.dvd_of_dvd_mul_left (Nat.dvd_of_mod_eq_zero h)
  have := Nat.le_of_dvd (by omega) h3
  omega
theorem ar_mem {x : Nat} (h1 : 1 ≤ x) (h2 : x ≤ n / 2) : 1 ≤ ar n a x ∧ ar n a x ≤ n / 2 := by
  have h3 := res_ne hn hc h1 h2
  have h4 := Nat.mod_lt (a * x) (show 0 < n by omega)
  unfold ar
  split <;> omega
theorem ar_inj {x y : Nat} (hx1 : 1 ≤ x) (hx2 : x ≤ n / 2) (hy1 : 1 ≤ y) (hy2 : y ≤ n / 2) (h : ar n a x = ar n a y) : x = y := by
  have h4 := Nat.mod_lt (a * x) (show 0 < n by omega)
  have h5 := Nat.mod_lt (a * y) (show 0 < n by omega)
  have key : a * x % n = a * y % n ∨ a * x % n + a * y % n = n := by
    unfold ar at h
    split at h <;> split at h <;> omega
  rcases key with h6 | h6
  · have h7 := mod_cancel hc.symm h6
    rw [Nat.mod_eq_of_lt (by omega), Nat.mod_eq_of_lt (by omega)] at h7
    exact h7
  · exfalso
    have h7 : (a * x + a * y) % n = 0 := by rw [Nat.add_mod, h6, Nat.mod_self]
    rw [← Nat.mul_add] at h7
    have h8 : n ∣ x + y := hc.symm.dvd_of_dvd_mul_left (Nat.dvd_of_mod_eq_zero h7)
    have := Nat.le_of_dvd (by omega) h8
    omega
end
theorem mul_sub_mod {n a r : Nat} (hn : 0 < n) (hr : r ≤ n) (h : a * r % n ≠ 0) : a * (n - r) % n = n - a * r % n := by
  have h1 : (a * (n - r) + a * r) % n = 0 := by
    rw [← Nat.mul_add, Nat.sub_add_cancel hr, Nat.mul_mod_left]
  rw [Nat.add_mod] at h1
  have h2 := Nat.mod_lt (a * (n - r)) hn
  have h3 := Nat.mod_lt (a * r) hn
  rcases Nat.lt_or_ge (a * (n - r) % n + a * r % n) n with h4 | h4
  · rw [Nat.mod_eq_of_lt h4] at h1
    omega
  · rw [Nat.mod_eq_sub_mod h4, Nat.mod_eq_of_lt (by omega)] at h1
    omega
theorem mu_mul {n a b : Nat} (hn : n % 2 = 1) (ha : Nat.Coprime a n) (hb : Nat.Coprime b n) : mu (a * b) n % 2 = (mu a n + mu b n) % 2 := by
  have h1 : mu a n = S (fun x => neg n a (ar n b x)) (n / 2) := (S_perm (neg n a) (ar n b) (n / 2) (fun x h1 h2 => ar_mem hn hb h1 h2) (fun x y h1 h2 h3 h4 => ar_inj hn hb h1 h2 h3 h4)).symm
  rw [h1]
  unfold mu
  rw [← S_add]
  refine S_mod fun x h1 h2 => ?_
  have hr := Nat.mod_lt (b * x) (show 0 < n by omega)
  have hr0 := res_ne hn hb h1 h2
  have e : a * b * x % n = a * (b * x % n) % n := by rw [Nat.mul_assoc, Nat.mul_mod, Nat.mul_mod a (b * x % n), Nat.mod_mod]
  unfold neg ar
  rw [e]
  generalize b * x % n = r at *
  have hs := Nat.mod_lt (a * r) (show 0 < n by omega)
  have hs0 : a * r % n ≠ 0 := fun h => by
    have h3 : n ∣ r := ha.symm.dvd_of_dvd_mul_left (Nat.dvd_of_mod_eq_zero h)
    have := Nat.le_of_dvd (by omega) h3
    omega
  by_cases hc : n < 2 * r
  · rw [if_pos hc, if_pos hc, mul_sub_mod (by omega) (by omega) hs0]
    split <;> split <;> omega
  · rw [if_neg hc, if_neg hc]
    split <;> omega

/-! ### reciprocity -/
def fl (m n : Nat) : Nat := S (fun x => m * x / n) (n / 2)
theorem mu_fl {m n : Nat} (hm : m % 2 = 1) (hn : n % 2 = 1) (hc : Nat.Coprime m n) : mu m n % 2 = fl m n % 2 := by
  have h1 : S (fun x => x) (n / 2) = S (ar n m) (n / 2) := (S_perm (fun x => x) (ar n m) (n / 2) (fun x h1 h2 => ar_mem hn hc h1 h2) (fun x y h1 h2 h3 h4 => ar_inj hn hc h1 h2 h3 h4)).symm
  have h2 : S (fun x => x) (n / 2) % 2 = S (fun x => (m * x / n + ar n m x) + neg n m x) (n / 2) % 2 := by
    refine S_mod fun x h1 h2 => ?_
    have h3 := Nat.div_add_mod (m * x) n
    have h4 := Nat.mod_lt (m * x) (show 0 < n by omega)
    have h5 : m * x % 2 = x % 2 := by rw [Nat.mul_mod, hm]; omega
    have h6 : n * (m * x / n) % 2 = m * x / n % 2 := by rw [Nat.mul_mod, hn]; omega
    unfold ar neg
    split <;> omega
  rw [S_add, S_add] at h2
  unfold mu fl
  omega
theorem fl_add {m n : Nat} (hm : m % 2 = 1) (hn : n % 2 = 1) (hc : Nat.Coprime m n) : fl m n + fl n m = m / 2 * (n / 2) := by
  have key : ∀ {m n : Nat}, m % 2 = 1 → n % 2 = 1 → fl m n = S (fun x => S (fun y => if n * y ≤ m * x then 1 else 0) (m / 2)) (n / 2) := by
    intro m n hm hn
    unfold fl
    refine S_congr fun x h1 h2 => ?_
    rw [S_le_count n (m * x) (by omega)]
    have h3 : m * x / n < m / 2 + 1 := by
      refine (Nat.div_lt_iff_lt_mul (by omega)).2 ?_
      have h4 : m * (2 * x) < m * n := Nat.mul_lt_mul_of_pos_left (by omega) (by omega)
      have h5 : m * (2 * x) = 2 * (m * x) := Nat.mul_left_comm _ _ _
      have h6 : m * n ≤ 2 * ((m / 2 + 1) * n) := by rw [← Nat.mul_assoc]; exact Nat.mul_le_mul_right n (by omega)
      omega
    omega
  rw [key hm hn, key hn hm, S_swap (fun x y => if m * y ≤ n * x then 1 else 0), ← S_add]
  have h1 : S (fun x => S (fun y => if n * y ≤ m * x then 1 else 0) (m / 2) + S (fun y => if m * x ≤ n * y then 1 else 0) (m / 2)) (n / 2) = S (fun _ => m / 2) (n / 2) := by
    refine S_congr fun x h1 h2 => ?_
    rw [← S_add]
    have h3 : S (fun y => (if n * y ≤ m * x then 1 else 0) + (if m * x ≤ n * y then 1 else 0)) (m / 2) = S (fun _ => 1) (m / 2) := by
      refine S_congr fun y h3 h4 => ?_
      have h5 : n * y ≠ m * x := fun h => by
        have h6 : n ∣ x := hc.symm.dvd_of_dvd_mul_left ⟨y, h.symm⟩
        have := Nat.le_of_dvd (by omega) h6
        omega
      split <;> split <;> omega
    rw [h3, S_const, Nat.mul_one]
  rw [h1, S_const, Nat.mul_comm]
theorem reciprocity {m n : Nat} (hm : m % 2 = 1) (hn : n % 2 = 1) (hc : Nat.Coprime m n) : (mu m n + mu n m) % 2 = (m / 2 * (n / 2)) % 2 := by
  have h1 := mu_fl hm hn hc
  have h2 := mu_fl hn hm hc.symm
  have h3 := fl_add hm hn hc
  omega
theorem S_neg1 (n : Nat) (hn : n % 2 = 1) : mu (n - 1) n = n / 2 := by
  unfold mu
  have h1 : S (neg n (n - 1)) (n / 2) = S (fun _ => 1) (n / 2) := by
    refine S_congr fun x h1 h2 => ?_
    unfold neg
    have h3 : (n - 1) * x % n = n - x := by
      have h4 := mul_sub_mod (n := n) (a := x) (r := 1) (by omega) (by omega) (by rw [Nat.mul_one, Nat.mod_eq_of_lt (by omega)]; omega)
      rw [Nat.mul_one, Nat.mod_eq_of_lt (show x < n by omega)] at h4
      rw [Nat.mul_comm]
      exact h4
    rw [h3, if_pos (by omega)]
  rw [h1, S_const, Nat.mul_one]
theorem mu_two (n : Nat) (hn : n % 2 = 1) : mu 2 n = n / 2 - n / 4 := by
  unfold mu
  have h1 : S (fun x => neg n 2 x + if 4 * x ≤ n then 1 else 0) (n / 2) = S (fun _ => 1) (n / 2) := by
    refine S_congr fun x h1 h2 => ?_
    unfold neg
    rw [Nat.mod_eq_of_lt (show 2 * x < n by omega)]
    split <;> split <;> omega
  have h3 := S_le_count 4 n (by omega) (n / 2)
  rw [S_add, S_const, h3, Nat.mul_one] at h1
  omega

/-! ### Gauss's lemma -/
def iprod : List Int → Int
  | [] => 1
  | a :: l => a * iprod l
def sg (k : Nat) : Int := if k % 2 = 0 then 1 else -1
theorem sg_add (a b : Nat) : sg (a + b) = sg a * sg b := by
  unfold sg
  split <;> split <;> split <;> omega
theorem sg_congr {a b : Nat} (h : a % 2 = b % 2) : sg a = sg b := by unfold sg; rw [h]
theorem sg_sq (a : Nat) : sg a * sg a = 1 := by unfold sg; split <;> rfl
theorem sg_cases (a : Nat) : sg a = 1 ∨ sg a = -1 := by unfold sg; split <;> simp
theorem gauss {p a : Nat} (hp : Prm p) (h2 : p % 2 = 1) (hc : Nat.Coprime a p) : (p : Int) ∣ (a : Int) ^ (p / 2) - sg (mu a p) := by
  -- the products of a x over [1, k]
  have h0 : ∀ k, k ≤ p / 2 → ∃ t : Int, (a : Int) ^ k * (prod (List.range' 1 k) : Nat) = sg (S (neg p a) k) * (prod ((List.range' 1 k).map (ar p a)) : Nat) + p * t := by
    intro k
    induction k with
    | zero => intro _; exact ⟨0, by simp [S, prod, sg]⟩
    | succ k ih =>
      intro hk
      obtain ⟨t, ht⟩ := ih (by omega)
      have happ : ∀ (l l' : List Nat), prod (l ++ l') = prod l * prod l' := by
        intro l l'
        induction l with
        | nil => simp [prod]
        | cons x l ih => simp [prod, ih, Nat.mul_assoc]
      have e1 : prod (List.range' 1 (k + 1)) = prod (List.range' 1 k) * (k + 1) := by
        rw [List.range'_concat, happ]
        simp [prod, Nat.add_comm]
      have e2 : prod ((List.range' 1 (k + 1)).map (ar p a)) = prod ((List.range' 1 k).map (ar p a)) * ar p a (k + 1) := by
        rw [List.range'_concat, List.map_append, happ]
        simp [prod, Nat.add_comm]
      have e3 : ∃ u : Int, (a : Int) * (k + 1 : Nat) = sg (neg p a (k + 1)) * (ar p a (k + 1) : Nat) + p * u := by
        have h3 := Nat.div_add_mod (a * (k + 1)) p
        have h4 := Nat.mod_lt (a * (k + 1)) (prm_pos hp)
        have h5 : (a : Int) * (k + 1 : Nat) = (p : Int) * ((a * (k + 1) / p : Nat) : Int) + ((a * (k + 1) % p : Nat) : Int) := by
          rw [← Int.natCast_mul, ← Int.natCast_mul, ← Int.natCast_add, h3]
        unfold neg ar
        split
        · refine ⟨((a * (k + 1) / p : Nat) : Int) + 1, ?_⟩
          rw [h5, Int.mul_add, Int.mul_one, show sg 1 = -1 from rfl]
          rw [Int.natCast_sub (by omega)]
          omega
        · refine ⟨((a * (k + 1) / p : Nat) : Int), ?_⟩
          rw [h5, show sg 0 = 1 from rfl]
          omega
      obtain ⟨u, hu⟩ := e3
      rw [e1, e2, S, sg_add, Int.natCast_mul, Int.natCast_mul, Int.pow_succ]
      refine ⟨(a : Int) * (k + 1 : Nat) * t + sg (S (neg p a) k) * (prod ((List.range' 1 k).map (ar p a)) : Nat) * u, ?_⟩
      have e4 : (a : Int) ^ k * a * ((prod (List.range' 1 k) : Nat) * ((k + 1 : Nat) : Int)) = ((a : Int) ^ k * (prod (List.range' 1 k) : Nat)) * (a * ((k + 1 : Nat) : Int)) := by
        simp only [Int.mul_assoc, Int.mul_left_comm, Int.mul_comm]
      rw [e4, ht, Int.add_mul]
      generalize sg (S (neg p a) k) = s1
      generalize ((prod ((List.range' 1 k).map (ar p a)) : Nat) : Int) = P
      have e5 : s1 * P * (↑a * ↑(k + 1)) = s1 * P * (sg (neg p a (k + 1)) * (ar p a (k + 1) : Nat) + p * u) := by rw [hu]
      rw [e5, Int.mul_add, Int.mul_add, Int.add_assoc]
      congr 1
      · simp only [Int.mul_assoc, Int.mul_left_comm, Int.mul_comm]
      · rw [Int.add_comm]
        congr 1 <;> simp only [Int.mul_assoc, Int.mul_left_comm, Int.mul_comm]
  obtain ⟨t, ht⟩ := h0 (p / 2) (Nat.le_refl _)
  have hmem : ∀ x, x ∈ List.range' 1 (p / 2) ↔ 1 ≤ x ∧ x ≤ p / 2 := fun x => by rw [List.mem_range'_1]; omega
  have hperm : ((List.range' 1 (p / 2)).map (ar p a)).Perm (List.range' 1 (p / 2)) := perm_map_self List.nodup_range' _ (fun x hx => by rw [hmem] at hx ⊢; exact ar_mem h2 hc hx.1 hx.2) (fun x hx y hy h => by rw [hmem] at hx hy; exact ar_inj h2 hc hx.1 hx.2 hy.1 hy.2 h)
  rw [prod_perm hperm] at ht
  have hd : (p : Int) ∣ ((prod (List.range' 1 (p / 2)) : Nat) : Int) * ((a : Int) ^ (p / 2) - sg (S (neg p a) (p / 2))) := by
    refine ⟨t, ?_⟩
    rw [Int.mul_sub, Int.mul_comm, ht, Int.mul_comm (sg _)]
    omega
  have hcop : Nat.Coprime p (prod (List.range' 1 (p / 2))) := prm_cop hp (prod_cop hp fun x hx h => by rw [hmem] at hx; have := Nat.le_of_dvd (by omega) h; omega)
  have h3 : p ∣ prod (List.range' 1 (p / 2)) * ((a : Int) ^ (p / 2) - sg (mu a p)).natAbs := by
    have := Int.ofNat_dvd_left.1 hd
    rw [Int.natAbs_mul] at this
    simpa [mu] using this
  exact Int.ofNat_dvd_left.2 (hcop.dvd_of_dvd_mul_left h3)

/-! ### the symbol is multiplicative in the modulus -/
theorem half_mul {m n : Nat} (hm : m % 2 = 1) (hn : n % 2 = 1) : (m * n) / 2 % 2 = (m / 2 + n / 2) % 2 := by
  obtain ⟨a, rfl⟩ : ∃ a, m = 2 * a + 1 := ⟨m / 2, by omega⟩
  obtain ⟨b, rfl⟩ : ∃ b, n = 2 * b + 1 := ⟨n / 2, by omega⟩
  have : (2 * a + 1) * (2 * b + 1) = 2 * (2 * (a * b) + a + b) + 1 := by
    rw [Nat.add_mul, Nat.mul_add, Nat.mul_assoc, Nat.mul_left_comm a]
    omega
  rw [this]
  omega
theorem odd_mul {m n : Nat} (hm : m % 2 = 1) (hn : n % 2 = 1) : m * n % 2 = 1 := by rw [Nat.mul_mod, hm, hn]
theorem mu_mul_right {a m n : Nat} (hm : m % 2 = 1) (hn : n % 2 = 1) (ham : Nat.Coprime a m) (han : Nat.Coprime a n) : mu a (m * n) % 2 = (mu a m + mu a n) % 2 := by
  have key : ∀ a, a % 2 = 1 → Nat.Coprime a m → Nat.Coprime a n → mu a (m * n) % 2 = (mu a m + mu a n) % 2 := by
    intro a ha h1 h2
    have r1 := reciprocity ha (odd_mul hm hn) (Nat.Coprime.mul_right h1 h2)
    have r2 := reciprocity ha hm h1
    have r3 := reciprocity ha hn h2
    have r4 := mu_mul ha h1.symm h2.symm
    have r5 : (a / 2 * (m * n / 2)) % 2 = (a / 2 * (m / 2) + a / 2 * (n / 2)) % 2 := by rw [Nat.mul_mod, half_mul hm hn, ← Nat.mul_mod, Nat.mul_add]
    omega
  rcases Nat.mod_two_eq_zero_or_one a with ha | ha
  · have h1 := key (a + m * n) (by have := odd_mul hm hn; omega) (by rw [Nat.Coprime, Nat.gcd_add_mul_left_left]; exact ham) (by rw [Nat.Coprime, Nat.gcd_add_mul_right_left]; exact han)
    rw [← mu_mod (a + m * n) (m * n), ← mu_mod (a + m * n) m, ← mu_mod (a + m * n) n, Nat.add_mod_right, Nat.add_mul_mod_self_left, Nat.add_mul_mod_self_right, mu_mod, mu_mod, mu_mod] at h1
    exact h1
  · exact key a ha ham han
/-- The Jacobi symbol. -/
def jac (a n : Nat) : Int := if 1 = Nat.gcd a n then sg (mu a n) else 0
theorem jac_cop {a n : Nat} (h : Nat.Coprime a n) : jac a n = sg (mu a n) := if_pos (Eq.symm h)
theorem jac_not {a n : Nat} (h : ¬ Nat.Coprime a n) : jac a n = 0 := if_neg fun e => h (Eq.symm e)
theorem cop_mod {a n : Nat} : Nat.Coprime (a % n) n ↔ Nat.Coprime a n := by
  unfold Nat.Coprime
  rw [Nat.gcd_comm a n, Nat.gcd_rec n a]
theorem jac_mod (a n : Nat) : jac (a % n) n = jac a n := by
  by_cases h : Nat.Coprime a n
  · rw [jac_cop h, jac_cop (cop_mod.2 h), mu_mod]
  · rw [jac_not h, jac_not fun h1 => h (cop_mod.1 h1)]
theorem jac_mul {n a b : Nat} (hn : n % 2 = 1) : jac (a * b) n = jac a n * jac b n := by
  by_cases h1 : Nat.Coprime a n
  · by_cases h2 : Nat.Coprime b n
    · rw [jac_cop h1, jac_cop h2, jac_cop (Nat.Coprime.mul_left h1 h2), ← sg_add, sg_congr (mu_mul hn h1 h2)]
    · rw [jac_not h2, jac_not, Int.mul_zero]
      exact fun h => h2 (Nat.Coprime.coprime_mul_left h)
  · rw [jac_not h1, jac_not, Int.zero_mul]
    exact fun h => h1 (Nat.Coprime.coprime_mul_right h)
theorem jac_mul_right {a m n : Nat} (hm : m % 2 = 1) (hn : n % 2 = 1) : jac a (m * n) = jac a m * jac a n := by
  by_cases h1 : Nat.Coprime a m
  · by_cases h2 : Nat.Coprime a n
    · rw [jac_cop h1, jac_cop h2, jac_cop (Nat.Coprime.mul_right h1 h2), ← sg_add, sg_congr (mu_mul_right hm hn h1 h2)]
    · rw [jac_not h2, jac_not, Int.mul_zero]
      exact fun h => h2 (Nat.Coprime.coprime_mul_left_right h)
  · rw [jac_not h1, jac_not, Int.zero_mul]
    exact fun h => h1 (Nat.Coprime.coprime_mul_right_right h)
theorem jac_one (a : Nat) : jac a 1 = 1 := by rw [jac_cop (Nat.gcd_one_right a)]; rfl
theorem jac_two {n : Nat} (hn : n % 2 = 1) : jac 2 n = if n % 8 = 3 ∨ n % 8 = 5 then -1 else 1 := by
  have hc : Nat.gcd 2 n = 1 := by rw [Nat.gcd_rec, hn]; rfl
  rw [jac_cop hc, mu_two n hn]
  unfold sg
  split <;> split <;> omega
theorem jac_flip {m n : Nat} (hm : m % 2 = 1) (hn : n % 2 = 1) : jac m n = (if m % 4 = 3 ∧ n % 4 = 3 then -1 else 1) * jac n m := by
  by_cases h : Nat.Coprime m n
  · rw [jac_cop h, jac_cop h.symm]
    have h1 := reciprocity hm hn h
    have h2 : (m / 2 * (n / 2)) % 2 = if m % 4 = 3 ∧ n % 4 = 3 then 1 else 0 := by
      rw [Nat.mul_mod]
      have h3 : m / 2 % 2 = if m % 4 = 3 then 1 else 0 := by split <;> omega
      have h4 : n / 2 % 2 = if n % 4 = 3 then 1 else 0 := by split <;> omega
      rw [h3, h4]
      split <;> split <;> split <;> first | rfl | omega
    have h5 : ∀ a b : Nat, (a + b) % 2 = 1 → sg a = -1 * sg b := by intro a b h; unfold sg; split <;> split <;> omega
    have h6 : ∀ a b : Nat, (a + b) % 2 = 0 → sg a = 1 * sg b := by intro a b h; unfold sg; split <;> split <;> omega
    split
    · rename_i hc; rw [if_pos hc] at h2; exact h5 _ _ (by omega)
    · rename_i hc; rw [if_neg hc] at h2; exact h6 _ _ (by omega)
  · rw [jac_not h, jac_not fun h1 => h h1.symm, Int.mul_zero]
theorem jac_neg1 {n : Nat} (hn : n % 2 = 1) : jac (n - 1) n = if n % 4 = 1 then 1 else -1 := by
  have hc : Nat.Coprime (n - 1) n := by
    have h1 : Nat.gcd (n - 1) n ∣ 1 := by
      have h2 := Nat.dvd_sub (Nat.gcd_dvd_right (n - 1) n) (Nat.gcd_dvd_left (n - 1) n)
      rwa [show n - (n - 1) = 1 by omega] at h2
    exact Nat.eq_one_of_dvd_one h1
  rw [jac_cop hc, S_neg1 n hn]
  unfold sg
  split <;> split <;> omega
end Go.Proofs.Ytmedflaejnbkoaa.M

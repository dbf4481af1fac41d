/- Elementary number theory over Nat: primes, factorizations, Euler's theorem, orders. No Go in it, no conditions. -/
namespace Go.Proofs.Ytmedflaejnbkoaa.M

/-! ### primes -/
def Prm (p : Nat) : Prop := 2 ≤ p ∧ ∀ d, d ∣ p → d = 1 ∨ d = p

theorem prm_cop {p a : Nat} (hp : Prm p) (h : ¬ p ∣ a) : Nat.Coprime p a := by
  rcases hp.2 (Nat.gcd p a) (Nat.gcd_dvd_left p a) with h1 | h1
  · exact h1
  · exact absurd (h1 ▸ Nat.gcd_dvd_right p a) h
theorem prm_mul {p a b : Nat} (hp : Prm p) (h : p ∣ a * b) : p ∣ a ∨ p ∣ b := by
  by_cases ha : p ∣ a
  · exact .inl ha
  · exact .inr ((prm_cop hp ha).dvd_of_dvd_mul_left h)
theorem prm_pow {p a : Nat} (hp : Prm p) : ∀ {k : Nat}, p ∣ a ^ k → p ∣ a
  | 0, h => by
    rw [Nat.pow_zero] at h
    have := Nat.le_of_dvd (by omega) h
    have := hp.1
    omega
  | k + 1, h => by
    rw [Nat.pow_succ] at h
    rcases prm_mul hp h with h | h
    · exact prm_pow hp h
    · exact h
theorem exists_prm : ∀ (n : Nat), 2 ≤ n → ∃ p, Prm p ∧ p ∣ n := by
  intro n
  induction n using Nat.strongRecOn with
  | ind n ih =>
    intro h
    by_cases hn : Prm n
    · exact ⟨n, hn, Nat.dvd_refl n⟩
    · obtain ⟨d, hd, h1, h2⟩ : ∃ d, d ∣ n ∧ d ≠ 1 ∧ d ≠ n := by
        apply Classical.byContradiction
        intro hc
        refine hn ⟨h, fun d hd => ?_⟩
        apply Classical.byContradiction
        intro h3
        exact hc ⟨d, hd, fun e => h3 (.inl e), fun e => h3 (.inr e)⟩
      have hle := Nat.le_of_dvd (by omega) hd
      have h0 : d ≠ 0 := by
        rintro rfl
        have := Nat.eq_zero_of_zero_dvd hd
        omega
      obtain ⟨p, hp, hpd⟩ := ih d (by omega) (by omega)
      exact ⟨p, hp, Nat.dvd_trans hpd hd⟩
theorem prm_pos {p : Nat} (hp : Prm p) : 0 < p := by have := hp.1; omega
theorem prm_eq {p q : Nat} (hp : Prm p) (hq : Prm q) (h : p ∣ q) : p = q := by
  rcases hq.2 p h with h1 | h1
  · have := hp.1; omega
  · exact h1
theorem not_prm_of {n d : Nat} (h : d ∣ n) (h1 : d ≠ 1) (h2 : d ≠ n) : ¬ Prm n := fun hp => by rcases hp.2 d h with h | h <;> contradiction
/-- n of at least 2 is a prime if no prime whose square is at most n divides it. -/
theorem prm_of_small {n : Nat} (h2 : 2 ≤ n) (h : ∀ p, Prm p → p ∣ n → n < p * p) : Prm n := by
  obtain ⟨p, hp, d, rfl⟩ := exists_prm n h2
  have hp2 := hp.1
  have h1 := h p hp ⟨d, rfl⟩
  have hdp : d < p := Nat.lt_of_mul_lt_mul_left h1
  have hd : d = 1 := by
    apply Classical.byContradiction
    intro hd1
    have hd0 : d ≠ 0 := by rintro rfl; simp at h2
    obtain ⟨q, hq, hqd⟩ := exists_prm d (by omega)
    have h3 := h q hq (Nat.dvd_trans hqd ⟨p, Nat.mul_comm _ _⟩)
    have hle : q ≤ d := Nat.le_of_dvd (by omega) hqd
    have h4 : q * q ≤ p * d := Nat.mul_le_mul (by omega) hle
    omega
  subst hd
  rw [Nat.mul_one]
  exact hp

/-! ### factorizations -/
def prodL : List (Nat × Nat) → Nat
  | [] => 1
  | q :: l => q.1 ^ q.2 * prodL l
theorem prodL_append (l l' : List (Nat × Nat)) : prodL (l ++ l') = prodL l * prodL l' := by
  induction l with
  | nil => simp [prodL]
  | cons q l ih => simp [prodL, ih, Nat.mul_assoc]
/-- l is the list of the prime powers of n, in ascending order. -/
structure FacL (l : List (Nat × Nat)) (n : Nat) : Prop where
  prod : prodL l = n
  prm : ∀ q ∈ l, Prm q.1 ∧ 1 ≤ q.2
  asc : l.Pairwise (fun a b => a.1 < b.1)
theorem prm_dvd_prodL {p : Nat} (hp : Prm p) : ∀ {l : List (Nat × Nat)}, (∀ q ∈ l, Prm q.1 ∧ 1 ≤ q.2) → p ∣ prodL l → ∃ q ∈ l, q.1 = p
  | [], _, h => by
    have := Nat.le_of_dvd (by simp [prodL]) h
    have := hp.1
    simp [prodL] at *
    omega
  | q :: l, hl, h => by
    rcases prm_mul hp h with h | h
    · exact ⟨q, List.mem_cons_self, (prm_eq hp (hl q List.mem_cons_self).1 (prm_pow hp h)).symm⟩
    · obtain ⟨q', hq', e⟩ := prm_dvd_prodL hp (fun q hq => hl q (List.mem_cons_of_mem _ hq)) h
      exact ⟨q', List.mem_cons_of_mem _ hq', e⟩
theorem prodL_pos : ∀ {l : List (Nat × Nat)}, (∀ q ∈ l, Prm q.1 ∧ 1 ≤ q.2) → 0 < prodL l
  | [], _ => by simp [prodL]
  | q :: l, h => Nat.mul_pos (Nat.pow_pos (prm_pos (h q List.mem_cons_self).1)) (prodL_pos fun q hq => h q (List.mem_cons_of_mem _ hq))
theorem pow_split {p : Nat} (hp : 0 < p) : ∀ {e e' R R' : Nat}, p ^ e * R = p ^ e' * R' → ¬ p ∣ R → ¬ p ∣ R' → e = e' ∧ R = R'
  | 0, 0, R, R', h, _, _ => by simpa using h
  | 0, e' + 1, R, R', h, h1, _ => by
    exfalso; apply h1
    rw [Nat.pow_zero, Nat.one_mul] at h
    rw [h, Nat.pow_succ, Nat.mul_comm _ p, Nat.mul_assoc]
    exact ⟨_, rfl⟩
  | e + 1, 0, R, R', h, _, h1 => by
    exfalso; apply h1
    rw [Nat.pow_zero, Nat.one_mul] at h
    rw [← h, Nat.pow_succ, Nat.mul_comm _ p, Nat.mul_assoc]
    exact ⟨_, rfl⟩
  | e + 1, e' + 1, R, R', h, h1, h2 => by
    rw [Nat.pow_succ, Nat.pow_succ, Nat.mul_comm _ p, Nat.mul_comm _ p, Nat.mul_assoc, Nat.mul_assoc] at h
    obtain ⟨h3, h4⟩ := pow_split hp (Nat.eq_of_mul_eq_mul_left hp h) h1 h2
    exact ⟨by omega, h4⟩
theorem FacL.tail {q : Nat × Nat} {l : List (Nat × Nat)} {n : Nat} (h : FacL (q :: l) n) : FacL l (prodL l) ∧ n = q.1 ^ q.2 * prodL l ∧ ¬ q.1 ∣ prodL l := by
  have ha := List.pairwise_cons.1 h.asc
  refine ⟨⟨rfl, fun q hq => h.prm q (List.mem_cons_of_mem _ hq), ha.2⟩, h.prod.symm, fun hd => ?_⟩
  obtain ⟨q', hq', e⟩ := prm_dvd_prodL (h.prm q List.mem_cons_self).1 (fun q hq => h.prm q (List.mem_cons_of_mem _ hq)) hd
  have := ha.1 q' hq'
  omega
theorem FacL.head_le {q : Nat × Nat} {l : List (Nat × Nat)} {n p : Nat} (h : FacL (q :: l) n) (hp : Prm p) (hd : p ∣ n) : q.1 ≤ p := by
  have ha := List.pairwise_cons.1 h.asc
  rw [← h.prod] at hd
  obtain ⟨q', hq', e⟩ := prm_dvd_prodL hp h.prm hd
  rcases List.mem_cons.1 hq' with rfl | hq'
  · omega
  · have := ha.1 q' hq'; omega
theorem FacL.pos {l : List (Nat × Nat)} {n : Nat} (h : FacL l n) : 0 < n := by rw [← h.prod]; exact prodL_pos h.prm
theorem FacL.mem_dvd {l : List (Nat × Nat)} {n : Nat} (h : FacL l n) {q : Nat × Nat} (hq : q ∈ l) : q.1 ^ q.2 ∣ n := by
  rw [← h.prod]
  clear h
  induction l with
  | nil => cases hq
  | cons a l ih =>
    rcases List.mem_cons.1 hq with rfl | hq
    · exact ⟨_, rfl⟩
    · exact Nat.dvd_trans (ih hq) ⟨a.1 ^ a.2, by rw [prodL, Nat.mul_comm]⟩
theorem FacL.mem_dvd1 {l : List (Nat × Nat)} {n : Nat} (h : FacL l n) {q : Nat × Nat} (hq : q ∈ l) : q.1 ∣ n :=
  Nat.dvd_trans (by have := (h.prm q hq).2; exact ⟨q.1 ^ (q.2 - 1), by rw [Nat.mul_comm, ← Nat.pow_succ]; congr 1; omega⟩) (h.mem_dvd hq)
theorem FacL.unique : ∀ {l l' : List (Nat × Nat)} {n : Nat}, FacL l n → FacL l' n → l = l'
  | [], [], _, _, _ => rfl
  | [], q :: l, n, h, h' => by
    have h1 : n = 1 := h.prod.symm
    have hp := (h'.prm q List.mem_cons_self).1
    have hd := h'.mem_dvd1 List.mem_cons_self
    rw [h1] at hd
    have := Nat.le_of_dvd (by omega) hd
    have := hp.1
    omega
  | q :: l, [], n, h', h => by
    have h1 : n = 1 := h.prod.symm
    have hp := (h'.prm q List.mem_cons_self).1
    have hd := h'.mem_dvd1 List.mem_cons_self
    rw [h1] at hd
    have := Nat.le_of_dvd (by omega) hd
    have := hp.1
    omega
  | q :: l, q' :: l', n, h, h' => by
    have e1 := h.head_le (h'.prm q' List.mem_cons_self).1 (h'.mem_dvd1 List.mem_cons_self)
    have e2 := h'.head_le (h.prm q List.mem_cons_self).1 (h.mem_dvd1 List.mem_cons_self)
    obtain ⟨t, hn, hd⟩ := h.tail
    obtain ⟨t', hn', hd'⟩ := h'.tail
    obtain ⟨p, e⟩ := q
    obtain ⟨p', e'⟩ := q'
    simp only at *
    obtain rfl : p = p' := by omega
    obtain ⟨rfl, hR⟩ := pow_split (prm_pos (h.prm _ List.mem_cons_self).1) (hn.symm.trans hn') hd hd'
    rw [hR] at t
    rw [FacL.unique t t']
/-- The state of a trial division of n0 behind all divisors below d: n is left. -/
structure Trial (n0 : Nat) (l : List (Nat × Nat)) (n d : Nat) : Prop where
  pos : 0 < n
  prod : prodL l * n = n0
  prm : ∀ q ∈ l, Prm q.1 ∧ 1 ≤ q.2
  asc : l.Pairwise (fun a b => a.1 < b.1)
  low : ∀ q ∈ l, q.1 < d
  big : ∀ p, Prm p → p ∣ n → d ≤ p
theorem Trial.start {n : Nat} (h : 0 < n) : Trial n [] n 2 := ⟨h, by simp [prodL], by simp, List.Pairwise.nil, by simp, fun _ hp _ => hp.1⟩
theorem Trial.skip {n0 : Nat} {l : List (Nat × Nat)} {n d d' : Nat} (h : Trial n0 l n d) (hd : d ≤ d') (hs : ∀ p, Prm p → p ∣ n → d' ≤ p) : Trial n0 l n d' := ⟨h.pos, h.prod, h.prm, h.asc, fun q hq => Nat.lt_of_lt_of_le (h.low q hq) hd, hs⟩
/-- Dividing by d as often as it goes. -/
theorem Trial.divided {n0 : Nat} {l : List (Nat × Nat)} {n d c m : Nat} (h : Trial n0 l n d) (hd : 2 ≤ d) (hn : n = d ^ c * m) (hm : ¬ d ∣ m) : Trial n0 (if 0 < c then l ++ [(d, c)] else l) m (d + 1) := by
  have hm0 : 0 < m := by
    rcases Nat.eq_zero_or_pos m with rfl | h0
    · exact absurd ⟨0, by simp⟩ hm
    · exact h0
  have hbig : ∀ p, Prm p → p ∣ m → d + 1 ≤ p := by
    intro p hp hpm
    have h1 := h.big p hp (by rw [hn]; exact Nat.dvd_trans hpm ⟨d ^ c, Nat.mul_comm _ _⟩)
    have h2 : p ≠ d := by rintro rfl; exact hm hpm
    omega
  by_cases hc : 0 < c
  · rw [if_pos hc]
    have hdn : d ∣ n := by rw [hn]; exact Nat.dvd_trans ⟨d ^ (c - 1), by rw [Nat.mul_comm, ← Nat.pow_succ]; congr 1; omega⟩ ⟨m, rfl⟩
    have hdp : Prm d := by
      obtain ⟨p, hp, hpd⟩ := exists_prm d hd
      have h1 := h.big p hp (Nat.dvd_trans hpd hdn)
      have h2 := Nat.le_of_dvd (by omega) hpd
      obtain rfl : p = d := by omega
      exact hp
    refine ⟨hm0, ?_, ?_, ?_, ?_, hbig⟩
    · rw [prodL_append, ← h.prod, hn]
      simp [prodL, Nat.mul_assoc]
    · intro q hq
      rcases List.mem_append.1 hq with hq | hq
      · exact h.prm q hq
      · rw [List.mem_singleton.1 hq]; exact ⟨hdp, hc⟩
    · rw [List.pairwise_append]
      refine ⟨h.asc, List.pairwise_singleton _ _, fun a ha b hb => ?_⟩
      rw [List.mem_singleton.1 hb]
      exact h.low a ha
    · intro q hq
      rcases List.mem_append.1 hq with hq | hq
      · have := h.low q hq; omega
      · rw [List.mem_singleton.1 hq]; simp
  · rw [if_neg hc]
    obtain rfl : c = 0 := by omega
    rw [Nat.pow_zero, Nat.one_mul] at hn
    subst hn
    exact h.skip (by omega) hbig
theorem Trial.done {n0 : Nat} {l : List (Nat × Nat)} {n d : Nat} (h : Trial n0 l n d) (hn : n = 1) : FacL l n0 := ⟨by rw [← h.prod, hn, Nat.mul_one], h.prm, h.asc⟩
theorem Trial.last {n0 : Nat} {l : List (Nat × Nat)} {n d : Nat} (h : Trial n0 l n d) (h2 : 2 ≤ n) (hlt : n < d * d) : Prm n ∧ d ≤ n := by
  have hp : Prm n := prm_of_small h2 fun p hp hd => Nat.lt_of_lt_of_le hlt (Nat.mul_le_mul (h.big p hp hd) (h.big p hp hd))
  exact ⟨hp, h.big n hp (Nat.dvd_refl n)⟩
theorem Trial.last' {n0 : Nat} {l : List (Nat × Nat)} {n d : Nat} (h : Trial n0 l n d) (h2 : 2 ≤ n) (hlt : n < d * d) : Trial n0 l n n := h.skip (h.last h2 hlt).2 fun p hp hd => by
  have := prm_eq hp (h.last h2 hlt).1 hd
  omega
theorem exists_pow_split (d : Nat) (hd : 2 ≤ d) : ∀ n : Nat, 0 < n → ∃ c m, n = d ^ c * m ∧ ¬ d ∣ m := by
  intro n
  induction n using Nat.strongRecOn with
  | ind n ih =>
    intro hn
    by_cases h : d ∣ n
    · obtain ⟨t, rfl⟩ := h
      have ht : 0 < t := Nat.pos_of_mul_pos_left hn
      obtain ⟨c, m, e, hm⟩ := ih t (by
        have : 1 * t < d * t := Nat.mul_lt_mul_of_pos_right (by omega) ht
        omega) ht
      exact ⟨c + 1, m, by rw [e, Nat.pow_succ, Nat.mul_comm (d ^ c) d, Nat.mul_assoc], hm⟩
    · exact ⟨0, n, by simp, h⟩
theorem exists_trial (n0 : Nat) (h : 0 < n0) : ∀ k, ∃ l n, Trial n0 l n (k + 2)
  | 0 => ⟨[], n0, Trial.start h⟩
  | k + 1 => by
    obtain ⟨l, n, ht⟩ := exists_trial n0 h k
    obtain ⟨c, m, e, hm⟩ := exists_pow_split (k + 2) (by omega) n ht.pos
    exact ⟨_, _, ht.divided (by omega) e hm⟩
theorem exists_facL (n : Nat) (h : 0 < n) : ∃ l, FacL l n := by
  obtain ⟨l, m, ht⟩ := exists_trial n h n
  refine ⟨l, ht.done ?_⟩
  apply Classical.byContradiction
  intro hm
  have hpos := ht.pos
  obtain ⟨p, hp, hd⟩ := exists_prm m (by omega)
  have h1 := ht.big p hp hd
  have h2 := Nat.le_of_dvd hpos hd
  have h3 : m ∣ n := ⟨prodL l, by rw [Nat.mul_comm]; exact ht.prod.symm⟩
  have h4 := Nat.le_of_dvd h h3
  omega
/-- The factorization. -/
noncomputable def fac (n : Nat) : List (Nat × Nat) := if h : 0 < n then Classical.choose (exists_facL n h) else []
theorem fac_spec {n : Nat} (h : 0 < n) : FacL (fac n) n := by
  unfold fac
  rw [dif_pos h]
  exact Classical.choose_spec (exists_facL n h)
theorem FacL.eq_fac {l : List (Nat × Nat)} {n : Nat} (h : FacL l n) : l = fac n := h.unique (fac_spec h.pos)
theorem fac_one : fac 1 = [] := (FacL.eq_fac ⟨rfl, by simp, List.Pairwise.nil⟩).symm
theorem fac_prm {p : Nat} (hp : Prm p) : fac p = [(p, 1)] := (FacL.eq_fac ⟨by simp [prodL], by intro q hq; rw [List.mem_singleton.1 hq]; exact ⟨hp, Nat.le_refl 1⟩, List.pairwise_singleton _ _⟩).symm
theorem fac_prm_iff {n : Nat} (h : 0 < n) : Prm n ↔ ∃ p, fac n = [(p, 1)] := by
  constructor
  · intro hp; exact ⟨n, fac_prm hp⟩
  · rintro ⟨p, e⟩
    have hf := fac_spec h
    rw [e] at hf
    have h1 : p ^ 1 * 1 = n := hf.prod
    rw [Nat.pow_one, Nat.mul_one] at h1
    rw [← h1]
    exact (hf.prm (p, 1) (by simp)).1

/-! ### Euler's function -/
def phiL : List (Nat × Nat) → Nat
  | [] => 1
  | q :: l => q.1 ^ (q.2 - 1) * (q.1 - 1) * phiL l
noncomputable def phi (n : Nat) : Nat := phiL (fac n)
theorem phiL_append (l l' : List (Nat × Nat)) : phiL (l ++ l') = phiL l * phiL l' := by
  induction l with
  | nil => simp [phiL]
  | cons q l ih => simp [phiL, ih, Nat.mul_assoc]
theorem phiL_pos : ∀ {l : List (Nat × Nat)}, (∀ q ∈ l, Prm q.1 ∧ 1 ≤ q.2) → 0 < phiL l
  | [], _ => by simp [phiL]
  | q :: l, h => by
    have h1 := (h q List.mem_cons_self).1
    refine Nat.mul_pos (Nat.mul_pos (Nat.pow_pos (prm_pos h1)) ?_) (phiL_pos fun q hq => h q (List.mem_cons_of_mem _ hq))
    have := h1.1
    omega
theorem phiL_le : ∀ {l : List (Nat × Nat)}, (∀ q ∈ l, Prm q.1 ∧ 1 ≤ q.2) → phiL l ≤ prodL l
  | [], _ => by simp [phiL, prodL]
  | q :: l, h => by
    have h1 := h q List.mem_cons_self
    have h2 : q.1 ^ (q.2 - 1) * (q.1 - 1) ≤ q.1 ^ q.2 := by
      have e : q.1 ^ q.2 = q.1 ^ (q.2 - 1) * q.1 := by rw [← Nat.pow_succ]; congr 1; omega
      rw [e]
      exact Nat.mul_le_mul_left _ (by omega)
    exact Nat.mul_le_mul h2 (phiL_le fun q hq => h q (List.mem_cons_of_mem _ hq))
theorem phi_pos {n : Nat} (h : 0 < n) : 0 < phi n := phiL_pos (fac_spec h).prm
theorem phi_le {n : Nat} (h : 0 < n) : phi n ≤ n := by
  have := phiL_le (fac_spec h).prm
  rw [(fac_spec h).prod] at this
  exact this
theorem phiL_mem_dvd {l : List (Nat × Nat)} {q : Nat × Nat} (hq : q ∈ l) : q.1 ^ (q.2 - 1) * (q.1 - 1) ∣ phiL l := by
  induction l with
  | nil => cases hq
  | cons a l ih =>
    rcases List.mem_cons.1 hq with rfl | hq
    · exact ⟨_, rfl⟩
    · exact Nat.dvd_trans (ih hq) ⟨_, by rw [phiL, Nat.mul_comm]⟩

/-! ### products over lists, Fermat -/
def prod : List Nat → Nat
  | [] => 1
  | a :: l => a * prod l
theorem prod_perm {l l' : List Nat} (h : l.Perm l') : prod l = prod l' := by
  induction h with
  | nil => rfl
  | cons x _ ih => simp [prod, ih]
  | swap x y l => simp only [prod]; rw [← Nat.mul_assoc, ← Nat.mul_assoc, Nat.mul_comm y x]
  | trans _ _ ih1 ih2 => rw [ih1, ih2]
theorem prod_map_mul (c : Nat) (l : List Nat) : prod (l.map (c * ·)) = c ^ l.length * prod l := by
  induction l with
  | nil => simp [prod]
  | cons a l ih =>
    simp only [List.map_cons, prod, ih, List.length_cons, Nat.pow_succ]
    rw [Nat.mul_assoc, Nat.mul_assoc, Nat.mul_left_comm a, ← Nat.mul_assoc, ← Nat.mul_assoc, ← Nat.mul_assoc, Nat.mul_comm c, Nat.mul_assoc]
theorem prod_map_mod (m : Nat) (f : Nat → Nat) (l : List Nat) : prod (l.map fun x => f x % m) % m = prod (l.map f) % m := by
  induction l with
  | nil => rfl
  | cons a l ih =>
    simp only [List.map_cons, prod]
    rw [Nat.mul_mod, ih, Nat.mod_mod, ← Nat.mul_mod]
theorem prod_cop {p : Nat} (hp : Prm p) : ∀ {l : List Nat}, (∀ x ∈ l, ¬ p ∣ x) → ¬ p ∣ prod l
  | [], _, h => by
    have := Nat.le_of_dvd (by simp [prod]) h
    have := hp.1
    simp [prod] at *
    omega
  | a :: l, hl, h => by
    rcases prm_mul hp h with h | h
    · exact hl a List.mem_cons_self h
    · exact prod_cop hp (fun x hx => hl x (List.mem_cons_of_mem _ hx)) h
/-- A map of a list without repetitions into itself that is one to one is a permutation. -/
theorem perm_map_self {α : Type} {l : List α} (hn : l.Nodup) (f : α → α) (hm : ∀ x ∈ l, f x ∈ l) (hi : ∀ x ∈ l, ∀ y ∈ l, f x = f y → x = y) : (l.map f).Perm l := by
  have hn2 : (l.map f).Nodup := by
    unfold List.Nodup
    rw [List.pairwise_map]
    refine List.Pairwise.imp_of_mem (fun {a b} ha hb hab e => hab (hi a ha b hb e)) hn
  have hs : l.map f ⊆ l := by
    intro x hx
    obtain ⟨y, hy, rfl⟩ := List.mem_map.1 hx
    exact hm y hy
  refine (List.perm_ext_iff_of_nodup hn2 hn).2 fun y => ⟨fun h => hs h, fun h => ?_⟩
  apply Classical.byContradiction
  intro hy
  have h1 : (y :: l.map f).Nodup := List.nodup_cons.2 ⟨hy, hn2⟩
  have h2 := h1.length_le_of_subset (l₂ := l) fun x hx => by
    rcases List.mem_cons.1 hx with rfl | hx
    · exact h
    · exact hs hx
  simp at h2
  omega
theorem mod_cancel {p a x y : Nat} (hp : Nat.Coprime p a) (h : a * x % p = a * y % p) : x % p = y % p := by
  rcases Nat.le_total x y with hxy | hxy
  · have h1 : p ∣ a * (y - x) := by
      rw [Nat.mul_sub]
      exact Nat.dvd_of_mod_eq_zero (Nat.sub_mod_eq_zero_of_mod_eq h.symm)
    have h2 := hp.dvd_of_dvd_mul_left h1
    obtain ⟨t, ht⟩ := h2
    have : y = x + p * t := by omega
    rw [this, Nat.add_mul_mod_self_left]
  · have h1 : p ∣ a * (x - y) := by
      rw [Nat.mul_sub]
      exact Nat.dvd_of_mod_eq_zero (Nat.sub_mod_eq_zero_of_mod_eq h)
    have h2 := hp.dvd_of_dvd_mul_left h1
    obtain ⟨t, ht⟩ := h2
    have : x = y + p * t := by omega
    rw [this, Nat.add_mul_mod_self_left]
theorem fermat {p a : Nat} (hp : Prm p) (ha : ¬ p ∣ a) : a ^ (p - 1) % p = 1 % p := by
  have hp2 := hp.1
  have hmem : ∀ x, x ∈ List.range' 1 (p - 1) ↔ 1 ≤ x ∧ x < p := fun x => by rw [List.mem_range'_1]; omega
  have hperm : ((List.range' 1 (p - 1)).map fun x => a * x % p).Perm (List.range' 1 (p - 1)) := by
    refine perm_map_self List.nodup_range' _ (fun x hx => ?_) (fun x hx y hy h => ?_)
    · rw [hmem] at hx ⊢
      refine ⟨?_, Nat.mod_lt _ (by omega)⟩
      apply Classical.byContradiction
      intro h0
      have h1 : p ∣ a * x := Nat.dvd_of_mod_eq_zero (by omega)
      rcases prm_mul hp h1 with h1 | h1
      · exact ha h1
      · have := Nat.le_of_dvd (by omega) h1; omega
    · rw [hmem] at hx hy
      have h1 := mod_cancel (prm_cop hp ha) h
      rw [Nat.mod_eq_of_lt hx.2, Nat.mod_eq_of_lt hy.2] at h1
      exact h1
  have h1 := prod_perm hperm
  have h2 : prod ((List.range' 1 (p - 1)).map fun x => a * x) % p = prod (List.range' 1 (p - 1)) % p := by rw [← prod_map_mod, h1]
  rw [prod_map_mul, List.length_range', Nat.mul_comm] at h2
  have h3 : prod (List.range' 1 (p - 1)) * a ^ (p - 1) % p = prod (List.range' 1 (p - 1)) * 1 % p := by rw [h2, Nat.mul_one]
  exact mod_cancel (prm_cop hp (prod_cop hp fun x hx h => by rw [hmem] at hx; have := Nat.le_of_dvd (by omega) h; omega)) h3

/-! ### Euler's theorem -/
def geo (x : Int) : Nat → Int
  | 0 => 0
  | n + 1 => x * geo x n + 1
theorem geo_mul (x : Int) : ∀ n, (x - 1) * geo x n = x ^ n - 1
  | 0 => by simp [geo]
  | n + 1 => by
    have := geo_mul x n
    rw [geo, Int.mul_add, Int.mul_one, Int.mul_left_comm, this, Int.mul_sub, Int.mul_one, Int.pow_succ, Int.mul_comm x]
    omega
theorem geo_dvd (p x : Int) (h : p ∣ x - 1) : ∀ n : Nat, p ∣ geo x n - n
  | 0 => by simp [geo]
  | n + 1 => by
    have h1 := geo_dvd p x h n
    have h2 : geo x (n + 1) - ((n + 1 : Nat) : Int) = (x - 1) * geo x n + (geo x n - n) := by
      rw [geo, Int.sub_mul]
      simp
      omega
    rw [h2]
    exact Int.dvd_add (Int.dvd_trans h ⟨_, rfl⟩) h1
theorem lift_one (p : Nat) (k : Nat) (x : Int) (h : ((p ^ (k + 1) : Nat) : Int) ∣ x - 1) : ((p ^ (k + 2) : Nat) : Int) ∣ x ^ p - 1 := by
  rw [← geo_mul]
  have hp : (p : Int) ∣ x - 1 := Int.dvd_trans ⟨((p ^ k : Nat) : Int), by rw [← Int.natCast_mul, Nat.pow_succ, Nat.mul_comm]⟩ h
  have h1 := geo_dvd p x hp p
  have h2 : (p : Int) ∣ geo x p := by
    have := Int.dvd_add h1 (Int.dvd_refl (p : Int))
    simpa using this
  rw [show p ^ (k + 2) = p ^ (k + 1) * p from rfl, Int.natCast_mul]
  exact Int.mul_dvd_mul h h2
theorem one_mod_iff {m : Nat} (x : Nat) : x % m = 1 % m ↔ (m : Int) ∣ (x : Int) - 1 := by
  constructor
  · intro h
    have h2 : ((x : Int) - 1) % (m : Int) = 0 := by
      apply Int.emod_eq_emod_iff_emod_sub_eq_zero.1
      have : ((x % m : Nat) : Int) = ((1 % m : Nat) : Int) := by rw [h]
      simpa using this
    exact Int.dvd_of_emod_eq_zero h2
  · intro h
    have h2 := Int.emod_eq_emod_iff_emod_sub_eq_zero.2 (Int.emod_eq_zero_of_dvd h)
    have : ((x % m : Nat) : Int) = ((1 % m : Nat) : Int) := by simpa using h2
    exact Int.ofNat_inj.1 this
theorem euler_pp {p a : Nat} (hp : Prm p) (ha : ¬ p ∣ a) : ∀ e : Nat, ((p ^ (e + 1) : Nat) : Int) ∣ (a : Int) ^ (p ^ e * (p - 1)) - 1
  | 0 => by
    have := (one_mod_iff (m := p) (a ^ (p - 1))).1 (fermat hp ha)
    simpa using this
  | e + 1 => by
    have h := lift_one p e _ (euler_pp hp ha e)
    rw [← Int.pow_mul] at h
    rw [show p ^ (e + 1) * (p - 1) = p ^ e * (p - 1) * p by rw [Nat.pow_succ, Nat.mul_assoc, Nat.mul_comm p, ← Nat.mul_assoc]]
    exact h
theorem pow_one_of_dvd {m x : Int} {j k : Nat} (h : m ∣ x ^ j - 1) (hd : j ∣ k) : m ∣ x ^ k - 1 := by
  obtain ⟨t, rfl⟩ := hd
  rw [Int.pow_mul, ← geo_mul]
  exact Int.dvd_trans h ⟨_, rfl⟩
theorem prodL_dvd : ∀ {l : List (Nat × Nat)} {y : Nat}, (∀ q ∈ l, Prm q.1 ∧ 1 ≤ q.2) → l.Pairwise (fun a b => a.1 < b.1) → (∀ q ∈ l, q.1 ^ q.2 ∣ y) → prodL l ∣ y
  | [], _, _, _, _ => by simp [prodL]
  | q :: l, y, hp, ha, hd => by
    have hl : FacL (q :: l) _ := ⟨rfl, hp, ha⟩
    refine Nat.Coprime.mul_dvd_of_dvd_of_dvd ?_ (hd q List.mem_cons_self) (prodL_dvd (fun q hq => hp q (List.mem_cons_of_mem _ hq)) (List.pairwise_cons.1 ha).2 fun q hq => hd q (List.mem_cons_of_mem _ hq))
    have := prm_cop (hp q List.mem_cons_self).1 hl.tail.2.2
    have := this.pow q.2 1
    rwa [Nat.pow_one] at this
theorem euler {m a : Nat} (hm : 0 < m) (h : Nat.Coprime a m) : a ^ phi m % m = 1 % m := by
  rw [one_mod_iff]
  have hf := fac_spec hm
  have h1 : ∀ q ∈ fac m, ((q.1 ^ q.2 : Nat) : Int) ∣ (a : Int) ^ phi m - 1 := by
    intro q hq
    have hp := hf.prm q hq
    have hna : ¬ q.1 ∣ a := fun hd => by
      have := Nat.dvd_gcd hd (hf.mem_dvd1 hq)
      rw [h] at this
      have := Nat.le_of_dvd (by omega) this
      have := hp.1.1
      omega
    have h2 := euler_pp hp.1 hna (q.2 - 1)
    rw [show q.2 - 1 + 1 = q.2 by omega] at h2
    exact pow_one_of_dvd h2 (phiL_mem_dvd hq)
  have h2 : prodL (fac m) ∣ ((a : Int) ^ phi m - 1).natAbs := prodL_dvd hf.prm hf.asc fun q hq => Int.ofNat_dvd_left.1 (h1 q hq)
  rw [hf.prod] at h2
  have := Int.ofNat_dvd_left.2 h2
  simpa using this

/-! ### orders -/
/-- k is the order of a modulo m. -/
structure IsOrd (a m k : Nat) : Prop where
  pos : 1 ≤ k
  one : a ^ k % m = 1 % m
  least : ∀ j, 1 ≤ j → j < k → a ^ j % m ≠ 1 % m
theorem pow_mul_mod {a m j k : Nat} (h : a ^ k % m = 1 % m) : a ^ (k * j) % m = 1 % m := by
  rw [Nat.pow_mul, Nat.pow_mod, h, ← Nat.pow_mod, Nat.one_pow]
theorem IsOrd.dvd {a m k j : Nat} (h : IsOrd a m k) (hj : a ^ j % m = 1 % m) : k ∣ j := by
  have h1 : a ^ (j % k) % m = 1 % m := by
    have h2 : a ^ j = a ^ (k * (j / k)) * a ^ (j % k) := by rw [← Nat.pow_add, Nat.div_add_mod]
    rw [h2, Nat.mul_mod, pow_mul_mod h.one, ← Nat.mul_mod, Nat.one_mul] at hj
    exact hj
  apply Nat.dvd_of_mod_eq_zero
  apply Classical.byContradiction
  intro h0
  have := h.pos
  exact h.least _ (by omega) (Nat.mod_lt _ (by omega)) h1
theorem IsOrd.unique {a m k k' : Nat} (h : IsOrd a m k) (h' : IsOrd a m k') : k = k' := Nat.dvd_antisymm (h.dvd h'.one) (h'.dvd h.one)
theorem exists_ord {a m : Nat} (hm : 0 < m) (h : Nat.Coprime a m) : ∃ k, IsOrd a m k ∧ k ≤ phi m := by
  have hex : ∃ k, 1 ≤ k ∧ a ^ k % m = 1 % m ∧ k ≤ phi m := ⟨phi m, phi_pos hm, euler hm h, Nat.le_refl _⟩
  have key : ∀ n, (∃ k, 1 ≤ k ∧ k ≤ n ∧ a ^ k % m = 1 % m) → ∃ k, IsOrd a m k ∧ k ≤ n := by
    intro n
    induction n with
    | zero => rintro ⟨k, h1, h2, _⟩; omega
    | succ n ih =>
      rintro ⟨k, h1, h2, h3⟩
      by_cases hc : ∃ k, 1 ≤ k ∧ k ≤ n ∧ a ^ k % m = 1 % m
      · obtain ⟨k, hk, hle⟩ := ih hc
        exact ⟨k, hk, by omega⟩
      · refine ⟨k, ⟨h1, h3, fun j hj1 hj2 hj3 => hc ⟨j, hj1, by omega, hj3⟩⟩, h2⟩
  obtain ⟨k, h1, h2, h3⟩ := hex
  obtain ⟨o, ho, hle⟩ := key k ⟨k, h1, Nat.le_refl _, h2⟩
  exact ⟨o, ho, by omega⟩
theorem cop_of_pow {a m k : Nat} (hk : 1 ≤ k) (h : a ^ k % m = 1 % m) : Nat.Coprime a m := by
  have hd : Nat.gcd a m ∣ a ^ k := Nat.dvd_trans (Nat.gcd_dvd_left a m) ⟨a ^ (k - 1), by rw [Nat.mul_comm, ← Nat.pow_succ]; congr 1; omega⟩
  have h1 : Nat.gcd a m ∣ 1 := by
    have h2 : Nat.gcd a m ∣ a ^ k % m := (Nat.dvd_mod_iff (Nat.gcd_dvd_right a m)).2 hd
    rw [h] at h2
    exact (Nat.dvd_mod_iff (Nat.gcd_dvd_right a m)).1 h2
  exact Nat.eq_one_of_dvd_one h1
/-- How an order is found: k goes down by primes as long as it goes. -/
theorem isOrd_of_reduced {a m k : Nat} (hk : 1 ≤ k) (h1 : a ^ k % m = 1 % m) (hr : ∀ p, Prm p → p ∣ k → a ^ (k / p) % m ≠ 1 % m) : IsOrd a m k := by
  refine ⟨hk, h1, fun j hj1 hj2 hj3 => ?_⟩
  have hex : ∃ o, IsOrd a m o ∧ o ≤ j := by
    have key : ∀ n, (∃ k, 1 ≤ k ∧ k ≤ n ∧ a ^ k % m = 1 % m) → ∃ k, IsOrd a m k ∧ k ≤ n := by
      intro n
      induction n with
      | zero => rintro ⟨k, h1, h2, _⟩; omega
      | succ n ih =>
        rintro ⟨k, h1, h2, h3⟩
        by_cases hc : ∃ k, 1 ≤ k ∧ k ≤ n ∧ a ^ k % m = 1 % m
        · obtain ⟨k, hk, hle⟩ := ih hc
          exact ⟨k, hk, by omega⟩
        · refine ⟨k, ⟨h1, h3, fun j hj1 hj2 hj3 => hc ⟨j, hj1, by omega, hj3⟩⟩, h2⟩
    exact key j ⟨j, hj1, Nat.le_refl _, hj3⟩
  obtain ⟨o, ho, hoj⟩ := hex
  obtain ⟨t, ht⟩ := ho.dvd h1
  have hpos := ho.pos
  have ht1 : t ≠ 1 := by rintro rfl; omega
  have ht0 : t ≠ 0 := by rintro rfl; omega
  obtain ⟨p, hp, s, hs⟩ := exists_prm t (by omega)
  have hpp := prm_pos hp
  have hkp : k / p = o * s := by rw [ht, hs, Nat.mul_left_comm, Nat.mul_div_cancel_left _ hpp]
  refine hr p hp ⟨o * s, by rw [ht, hs, Nat.mul_left_comm]⟩ ?_
  rw [hkp]
  exact pow_mul_mod ho.one
end Go.Proofs.Ytmedflaejnbkoaa.M

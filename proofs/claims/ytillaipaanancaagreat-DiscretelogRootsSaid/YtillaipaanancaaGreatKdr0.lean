/- Machine side and arithmetic of the law, put together by a program of the session. No conditions. -/
section
namespace Go.Proofs.YtillaipaanancaaGreat.M
def Prm (p : Nat) : Prop := 2 ≤ p ∧ ∀ d, d ∣ p → d = 1 ∨ d = p
theorem prm_cop {p a : Nat} (hp : Prm p) (h : ¬ p ∣ a) : Nat.Coprime p a := by
 rcases hp.2 (Nat.gcd p a) (Nat.gcd_dvd_left p a) with h1 | h1
 ·exact h1
 ·exact absurd (h1 ▸ Nat.gcd_dvd_right p a) h
theorem prm_mul {p a b : Nat} (hp : Prm p) (h : p ∣ a * b) : p ∣ a ∨ p ∣ b := by
 by_cases ha : p ∣ a
 ·exact .inl ha
 ·exact .inr ((prm_cop hp ha).dvd_of_dvd_mul_left h)
theorem prm_pow {p a : Nat} (hp : Prm p) : ∀ {k : Nat}, p ∣ a ^ k → p ∣ a
 | 0, h => by
  rw [Nat.pow_zero] at h
  have := Nat.le_of_dvd (by omega) h
  have := hp.1
  omega
 | k + 1, h => by
  rw [Nat.pow_succ] at h
  rcases prm_mul hp h with h | h
  ·exact prm_pow hp h
  ·exact h
theorem exists_prm : ∀ (n : Nat), 2 ≤ n → ∃ p, Prm p ∧ p ∣ n := by
 intro n
 induction n using Nat.strongRecOn with
 | ind n ih =>
  intro h
  by_cases hn : Prm n
  ·exact ⟨n, hn, Nat.dvd_refl n⟩
  ·obtain ⟨d, hd, h1, h2⟩ : ∃ d, d ∣ n ∧ d ≠ 1 ∧ d ≠ n := by
    apply Classical.byContradiction
    intro hc
    refine hn ⟨h, fun d hd => ?_⟩
    apply Classical.byContradiction
    intro h3
    exact hc ⟨d, hd, fun e => h3 (.inl e), fun e => h3 (.inr e)⟩
   have hle := Nat.le_of_dvd (by omega) hd
   have h0 : d ≠ 0 := by
    rintro rfl
    have := Nat.eq_zero_of_zero_dvd hd
    omega
   obtain ⟨p, hp, hpd⟩ := ih d (by omega) (by omega)
   exact ⟨p, hp, Nat.dvd_trans hpd hd⟩
theorem prm_pos {p : Nat} (hp : Prm p) : 0 < p := by have := hp.1; omega
theorem prm_eq {p q : Nat} (hp : Prm p) (hq : Prm q) (h : p ∣ q) : p = q := by
 rcases hq.2 p h with h1 | h1
 ·have := hp.1; omega
 ·exact h1
theorem not_prm_of {n d : Nat} (h : d ∣ n) (h1 : d ≠ 1) (h2 : d ≠ n) : ¬ Prm n := fun hp => by rcases hp.2 d h with h | h <;> contradiction
theorem prm_of_small {n : Nat} (h2 : 2 ≤ n) (h : ∀ p, Prm p → p ∣ n → n < p * p) : Prm n := by
 obtain ⟨p, hp, d, rfl⟩ := exists_prm n h2
 have hp2 := hp.1
 have h1 := h p hp ⟨d, rfl⟩
 have hdp : d < p := Nat.lt_of_mul_lt_mul_left h1
 have hd : d = 1 := by
  apply Classical.byContradiction
  intro hd1
  have hd0 : d ≠ 0 := by rintro rfl; simp at h2
  obtain ⟨q, hq, hqd⟩ := exists_prm d (by omega)
  have h3 := h q hq (Nat.dvd_trans hqd ⟨p, Nat.mul_comm _ _⟩)
  have hle : q ≤ d := Nat.le_of_dvd (by omega) hqd
  have h4 : q * q ≤ p * d := Nat.mul_le_mul (by omega) hle
  omega
 subst hd
 rw [Nat.mul_one]
 exact hp
def prodL : List (Nat × Nat) → Nat
 | [] => 1
 | q :: l => q.1 ^ q.2 * prodL l
theorem prodL_append (l l' : List (Nat × Nat)) : prodL (l ++ l') = prodL l * prodL l' := by
 induction l with
 | nil => simp [prodL]
 | cons q l ih => simp [prodL, ih, Nat.mul_assoc]
structure FacL (l : List (Nat × Nat)) (n : Nat) : Prop where
 prod : prodL l = n
 prm : ∀ q ∈ l, Prm q.1 ∧ 1 ≤ q.2
 asc : l.Pairwise (fun a b => a.1 < b.1)
theorem prm_dvd_prodL {p : Nat} (hp : Prm p) : ∀ {l : List (Nat × Nat)}, (∀ q ∈ l, Prm q.1 ∧ 1 ≤ q.2) → p ∣ prodL l → ∃ q ∈ l, q.1 = p
 | [], _, h => by
  have := Nat.le_of_dvd (by simp [prodL]) h
  have := hp.1
  simp [prodL] at *
  omega
 | q :: l, hl, h => by
  rcases prm_mul hp h with h | h
  ·exact ⟨q, List.mem_cons_self, (prm_eq hp (hl q List.mem_cons_self).1 (prm_pow hp h)).symm⟩
  ·obtain ⟨q', hq', e⟩ := prm_dvd_prodL hp (fun q hq => hl q (List.mem_cons_of_mem _ hq)) h
   exact ⟨q', List.mem_cons_of_mem _ hq', e⟩
theorem prodL_pos : ∀ {l : List (Nat × Nat)}, (∀ q ∈ l, Prm q.1 ∧ 1 ≤ q.2) → 0 < prodL l
 | [], _ => by simp [prodL]
 | q :: l, h => Nat.mul_pos (Nat.pow_pos (prm_pos (h q List.mem_cons_self).1)) (prodL_pos fun q hq => h q (List.mem_cons_of_mem _ hq))
theorem pow_split {p : Nat} (hp : 0 < p) : ∀ {e e' R R' : Nat}, p ^ e * R = p ^ e' * R' → ¬ p ∣ R → ¬ p ∣ R' → e = e' ∧ R = R'
 | 0, 0, R, R', h, _, _ => by simpa using h
 | 0, e' + 1, R, R', h, h1, _ => by
  exfalso; apply h1
  rw [Nat.pow_zero, Nat.one_mul] at h
  rw [h, Nat.pow_succ, Nat.mul_comm _ p, Nat.mul_assoc]
  exact ⟨_, rfl⟩
 | e + 1, 0, R, R', h, _, h1 => by
  exfalso; apply h1
  rw [Nat.pow_zero, Nat.one_mul] at h
  rw [← h, Nat.pow_succ, Nat.mul_comm _ p, Nat.mul_assoc]
  exact ⟨_, rfl⟩
 | e + 1, e' + 1, R, R', h, h1, h2 => by
  rw [Nat.pow_succ, Nat.pow_succ, Nat.mul_comm _ p, Nat.mul_comm _ p, Nat.mul_assoc, Nat.mul_assoc] at h
  obtain ⟨h3, h4⟩ := pow_split hp (Nat.eq_of_mul_eq_mul_left hp h) h1 h2
  exact ⟨by omega, h4⟩
theorem FacL.tail {q : Nat × Nat} {l : List (Nat × Nat)} {n : Nat} (h : FacL (q :: l) n) : FacL l (prodL l) ∧ n = q.1 ^ q.2 * prodL l ∧ ¬ q.1 ∣ prodL l := by
 have ha := List.pairwise_cons.1 h.asc
 refine ⟨⟨rfl, fun q hq => h.prm q (List.mem_cons_of_mem _ hq), ha.2⟩, h.prod.symm, fun hd => ?_⟩
 obtain ⟨q', hq', e⟩ := prm_dvd_prodL (h.prm q List.mem_cons_self).1 (fun q hq => h.prm q (List.mem_cons_of_mem _ hq)) hd
 have := ha.1 q' hq'
 omega
theorem FacL.head_le {q : Nat × Nat} {l : List (Nat × Nat)} {n p : Nat} (h : FacL (q :: l) n) (hp : Prm p) (hd : p ∣ n) : q.1 ≤ p := by
 have ha := List.pairwise_cons.1 h.asc
 rw [← h.prod] at hd
 obtain ⟨q', hq', e⟩ := prm_dvd_prodL hp h.prm hd
 rcases List.mem_cons.1 hq' with rfl | hq'
 ·omega
 ·have := ha.1 q' hq'; omega
theorem FacL.pos {l : List (Nat × Nat)} {n : Nat} (h : FacL l n) : 0 < n := by rw [← h.prod]; exact prodL_pos h.prm
theorem FacL.mem_dvd {l : List (Nat × Nat)} {n : Nat} (h : FacL l n) {q : Nat × Nat} (hq : q ∈ l) : q.1 ^ q.2 ∣ n := by
 rw [← h.prod]
 clear h
 induction l with
 | nil => cases hq
 | cons a l ih =>
  rcases List.mem_cons.1 hq with rfl | hq
  ·exact ⟨_, rfl⟩
  ·exact Nat.dvd_trans (ih hq) ⟨a.1 ^ a.2, by rw [prodL, Nat.mul_comm]⟩
theorem FacL.mem_dvd1 {l : List (Nat × Nat)} {n : Nat} (h : FacL l n) {q : Nat × Nat} (hq : q ∈ l) : q.1 ∣ n :=
 Nat.dvd_trans (by have := (h.prm q hq).2; exact ⟨q.1 ^ (q.2 - 1), by rw [Nat.mul_comm, ← Nat.pow_succ]; congr 1; omega⟩) (h.mem_dvd hq)
theorem FacL.unique : ∀ {l l' : List (Nat × Nat)} {n : Nat}, FacL l n → FacL l' n → l = l'
 | [], [], _, _, _ => rfl
 | [], q :: l, n, h, h' => by
  have h1 : n = 1 := h.prod.symm
  have hp := (h'.prm q List.mem_cons_self).1
  have hd := h'.mem_dvd1 List.mem_cons_self
  rw [h1] at hd
  have := Nat.le_of_dvd (by omega) hd
  have := hp.1
  omega
 | q :: l, [], n, h', h => by
  have h1 : n = 1 := h.prod.symm
  have hp := (h'.prm q List.mem_cons_self).1
  have hd := h'.mem_dvd1 List.mem_cons_self
  rw [h1] at hd
  have := Nat.le_of_dvd (by omega) hd
  have := hp.1
  omega
 | q :: l, q' :: l', n, h, h' => by
  have e1 := h.head_le (h'.prm q' List.mem_cons_self).1 (h'.mem_dvd1 List.mem_cons_self)
  have e2 := h'.head_le (h.prm q List.mem_cons_self).1 (h.mem_dvd1 List.mem_cons_self)
  obtain ⟨t, hn, hd⟩ := h.tail
  obtain ⟨t', hn', hd'⟩ := h'.tail
  obtain ⟨p, e⟩ := q
  obtain ⟨p', e'⟩ := q'
  simp only at *
  obtain rfl : p = p' := by omega
  obtain ⟨rfl, hR⟩ := pow_split (prm_pos (h.prm _ List.mem_cons_self).1) (hn.symm.trans hn') hd hd'
  rw [hR] at t
  rw [FacL.unique t t']
structure Trial (n0 : Nat) (l : List (Nat × Nat)) (n d : Nat) : Prop where
 pos : 0 < n
 prod : prodL l * n = n0
 prm : ∀ q ∈ l, Prm q.1 ∧ 1 ≤ q.2
 asc : l.Pairwise (fun a b => a.1 < b.1)
 low : ∀ q ∈ l, q.1 < d
 big : ∀ p, Prm p → p ∣ n → d ≤ p
theorem Trial.start {n : Nat} (h : 0 < n) : Trial n [] n 2 := ⟨h, by simp [prodL], by simp, List.Pairwise.nil, by simp, fun _ hp _ => hp.1⟩
theorem Trial.skip {n0 : Nat} {l : List (Nat × Nat)} {n d d' : Nat} (h : Trial n0 l n d) (hd : d ≤ d') (hs : ∀ p, Prm p → p ∣ n → d' ≤ p) : Trial n0 l n d' := ⟨h.pos, h.prod, h.prm, h.asc, fun q hq => Nat.lt_of_lt_of_le (h.low q hq) hd, hs⟩
theorem Trial.divided {n0 : Nat} {l : List (Nat × Nat)} {n d c m : Nat} (h : Trial n0 l n d) (hd : 2 ≤ d) (hn : n = d ^ c * m) (hm : ¬ d ∣ m) : Trial n0 (if 0 < c then l ++ [(d, c)] else l) m (d + 1) := by
 have hm0 : 0 < m := by
  rcases Nat.eq_zero_or_pos m with rfl | h0
  ·exact absurd ⟨0, by simp⟩ hm
  ·exact h0
 have hbig : ∀ p, Prm p → p ∣ m → d + 1 ≤ p := by
  intro p hp hpm
  have h1 := h.big p hp (by rw [hn]; exact Nat.dvd_trans hpm ⟨d ^ c, Nat.mul_comm _ _⟩)
  have h2 : p ≠ d := by rintro rfl; exact hm hpm
  omega
 by_cases hc : 0 < c
 ·rw [if_pos hc]
  have hdn : d ∣ n := by rw [hn]; exact Nat.dvd_trans ⟨d ^ (c - 1), by rw [Nat.mul_comm, ← Nat.pow_succ]; congr 1; omega⟩ ⟨m, rfl⟩
  have hdp : Prm d := by
   obtain ⟨p, hp, hpd⟩ := exists_prm d hd
   have h1 := h.big p hp (Nat.dvd_trans hpd hdn)
   have h2 := Nat.le_of_dvd (by omega) hpd
   obtain rfl : p = d := by omega
   exact hp
  refine ⟨hm0, ?_, ?_, ?_, ?_, hbig⟩
  ·rw [prodL_append, ← h.prod, hn]
   simp [prodL, Nat.mul_assoc]
  ·intro q hq
   rcases List.mem_append.1 hq with hq | hq
   ·exact h.prm q hq
   ·rw [List.mem_singleton.1 hq]; exact ⟨hdp, hc⟩
  ·rw [List.pairwise_append]
   refine ⟨h.asc, List.pairwise_singleton _ _, fun a ha b hb => ?_⟩
   rw [List.mem_singleton.1 hb]
   exact h.low a ha
  ·intro q hq
   rcases List.mem_append.1 hq with hq | hq
   ·have := h.low q hq; omega
   ·rw [List.mem_singleton.1 hq]; simp
 ·rw [if_neg hc]
  obtain rfl : c = 0 := by omega
  rw [Nat.pow_zero, Nat.one_mul] at hn
  subst hn
  exact h.skip (by omega) hbig
theorem Trial.done {n0 : Nat} {l : List (Nat × Nat)} {n d : Nat} (h : Trial n0 l n d) (hn : n = 1) : FacL l n0 := ⟨by rw [← h.prod, hn, Nat.mul_one], h.prm, h.asc⟩
theorem Trial.last {n0 : Nat} {l : List (Nat × Nat)} {n d : Nat} (h : Trial n0 l n d) (h2 : 2 ≤ n) (hlt : n < d * d) : Prm n ∧ d ≤ n := by
 have hp : Prm n := prm_of_small h2 fun p hp hd => Nat.lt_of_lt_of_le hlt (Nat.mul_le_mul (h.big p hp hd) (h.big p hp hd))
 exact ⟨hp, h.big n hp (Nat.dvd_refl n)⟩
theorem Trial.last' {n0 : Nat} {l : List (Nat × Nat)} {n d : Nat} (h : Trial n0 l n d) (h2 : 2 ≤ n) (hlt : n < d * d) : Trial n0 l n n := h.skip (h.last h2 hlt).2 fun p hp hd => by
 have := prm_eq hp (h.last h2 hlt).1 hd
 omega
theorem exists_pow_split (d : Nat) (hd : 2 ≤ d) : ∀ n : Nat, 0 < n → ∃ c m, n = d ^ c * m ∧ ¬ d ∣ m := by
 intro n
 induction n using Nat.strongRecOn with
 | ind n ih =>
  intro hn
  by_cases h : d ∣ n
  ·obtain ⟨t, rfl⟩ := h
   have ht : 0 < t := Nat.pos_of_mul_pos_left hn
   obtain ⟨c, m, e, hm⟩ := ih t (by
    have : 1 * t < d * t := Nat.mul_lt_mul_of_pos_right (by omega) ht
    omega) ht
   exact ⟨c + 1, m, by rw [e, Nat.pow_succ, Nat.mul_comm (d ^ c) d, Nat.mul_assoc], hm⟩
  ·exact ⟨0, n, by simp, h⟩
theorem exists_trial (n0 : Nat) (h : 0 < n0) : ∀ k, ∃ l n, Trial n0 l n (k + 2)
 | 0 => ⟨[], n0, Trial.start h⟩
 | k + 1 => by
  obtain ⟨l, n, ht⟩ := exists_trial n0 h k
  obtain ⟨c, m, e, hm⟩ := exists_pow_split (k + 2) (by omega) n ht.pos
  exact ⟨_, _, ht.divided (by omega) e hm⟩
theorem exists_facL (n : Nat) (h : 0 < n) : ∃ l, FacL l n := by
 obtain ⟨l, m, ht⟩ := exists_trial n h n
 refine ⟨l, ht.done ?_⟩
 apply Classical.byContradiction
 intro hm
 have hpos := ht.pos
 obtain ⟨p, hp, hd⟩ := exists_prm m (by omega)
 have h1 := ht.big p hp hd
 have h2 := Nat.le_of_dvd hpos hd
 have h3 : m ∣ n := ⟨prodL l, by rw [Nat.mul_comm]; exact ht.prod.symm⟩
 have h4 := Nat.le_of_dvd h h3
 omega
noncomputable def fac (n : Nat) : List (Nat × Nat) := if h : 0 < n then Classical.choose (exists_facL n h) else []
theorem fac_spec {n : Nat} (h : 0 < n) : FacL (fac n) n := by
 unfold fac
 rw [dif_pos h]
 exact Classical.choose_spec (exists_facL n h)
theorem FacL.eq_fac {l : List (Nat × Nat)} {n : Nat} (h : FacL l n) : l = fac n := h.unique (fac_spec h.pos)
theorem fac_prm {p : Nat} (hp : Prm p) : fac p = [(p, 1)] := (FacL.eq_fac ⟨by simp [prodL], by intro q hq; rw [List.mem_singleton.1 hq]; exact ⟨hp, Nat.le_refl 1⟩, List.pairwise_singleton _ _⟩).symm
theorem fac_prm_iff {n : Nat} (h : 0 < n) : Prm n ↔ ∃ p, fac n = [(p, 1)] := by
 constructor
 ·intro hp; exact ⟨n, fac_prm hp⟩
 ·rintro ⟨p, e⟩
  have hf := fac_spec h
  rw [e] at hf
  have h1 : p ^ 1 * 1 = n := hf.prod
  rw [Nat.pow_one, Nat.mul_one] at h1
  rw [← h1]
  exact (hf.prm (p, 1) (by simp)).1
def prod : List Nat → Nat
 | [] => 1
 | a :: l => a * prod l
theorem prod_perm {l l' : List Nat} (h : l.Perm l') : prod l = prod l' := by
 induction h with
 | nil => rfl
 | cons x _ ih => simp [prod, ih]
 | swap x y l => simp only [prod]; rw [← Nat.mul_assoc, ← Nat.mul_assoc, Nat.mul_comm y x]
 | trans _ _ ih1 ih2 => rw [ih1, ih2]
theorem prod_map_mul (c : Nat) (l : List Nat) : prod (l.map (c * ·)) = c ^ l.length * prod l := by
 induction l with
 | nil => simp [prod]
 | cons a l ih =>
  simp only [List.map_cons, prod, ih, List.length_cons, Nat.pow_succ]
  rw [Nat.mul_assoc, Nat.mul_assoc, Nat.mul_left_comm a, ← Nat.mul_assoc, ← Nat.mul_assoc, ← Nat.mul_assoc, Nat.mul_comm c, Nat.mul_assoc]
theorem prod_map_mod (m : Nat) (f : Nat → Nat) (l : List Nat) : prod (l.map fun x => f x % m) % m = prod (l.map f) % m := by
 induction l with
 | nil => rfl
 | cons a l ih =>
  simp only [List.map_cons, prod]
  rw [Nat.mul_mod, ih, Nat.mod_mod, ← Nat.mul_mod]
theorem prod_cop {p : Nat} (hp : Prm p) : ∀ {l : List Nat}, (∀ x ∈ l, ¬ p ∣ x) → ¬ p ∣ prod l
 | [], _, h => by
  have := Nat.le_of_dvd (by simp [prod]) h
  have := hp.1
  simp [prod] at *
  omega
 | a :: l, hl, h => by
  rcases prm_mul hp h with h | h
  ·exact hl a List.mem_cons_self h
  ·exact prod_cop hp (fun x hx => hl x (List.mem_cons_of_mem _ hx)) h
theorem perm_map_self {α : Type} {l : List α} (hn : l.Nodup) (f : α → α) (hm : ∀ x ∈ l, f x ∈ l) (hi : ∀ x ∈ l, ∀ y ∈ l, f x = f y → x = y) : (l.map f).Perm l := by
 have hn2 : (l.map f).Nodup := by
  unfold List.Nodup
  rw [List.pairwise_map]
  refine List.Pairwise.imp_of_mem (fun {a b} ha hb hab e => hab (hi a ha b hb e)) hn
 have hs : l.map f ⊆ l := by
  intro x hx
  obtain ⟨y, hy, rfl⟩ := List.mem_map.1 hx
  exact hm y hy
 refine (List.perm_ext_iff_of_nodup hn2 hn).2 fun y => ⟨fun h => hs h, fun h => ?_⟩
 apply Classical.byContradiction
 intro hy
 have h1 : (y :: l.map f).Nodup := List.nodup_cons.2 ⟨hy, hn2⟩
 have h2 := h1.length_le_of_subset (l₂ := l) fun x hx => by
  rcases List.mem_cons.1 hx with rfl | hx
  ·exact h
  ·exact hs hx
 simp at h2
 omega
theorem mod_cancel {p a x y : Nat} (hp : Nat.Coprime p a) (h : a * x % p = a * y % p) : x % p = y % p := by
 rcases Nat.le_total x y with hxy | hxy
 ·have h1 : p ∣ a * (y - x) := by
   rw [Nat.mul_sub]
   exact Nat.dvd_of_mod_eq_zero (Nat.sub_mod_eq_zero_of_mod_eq h.symm)
  have h2 := hp.dvd_of_dvd_mul_left h1
  obtain ⟨t, ht⟩ := h2
  have : y = x + p * t := by omega
  rw [this, Nat.add_mul_mod_self_left]
 ·have h1 : p ∣ a * (x - y) := by
   rw [Nat.mul_sub]
   exact Nat.dvd_of_mod_eq_zero (Nat.sub_mod_eq_zero_of_mod_eq h)
  have h2 := hp.dvd_of_dvd_mul_left h1
  obtain ⟨t, ht⟩ := h2
  have : x = y + p * t := by omega
  rw [this, Nat.add_mul_mod_self_left]
theorem fermat {p a : Nat} (hp : Prm p) (ha : ¬ p ∣ a) : a ^ (p - 1) % p = 1 % p := by
 have hp2 := hp.1
 have hmem : ∀ x, x ∈ List.range' 1 (p - 1) ↔ 1 ≤ x ∧ x < p := fun x => by rw [List.mem_range'_1]; omega
 have hperm : ((List.range' 1 (p - 1)).map fun x => a * x % p).Perm (List.range' 1 (p - 1)) := by
  refine perm_map_self List.nodup_range' _ (fun x hx => ?_) (fun x hx y hy h => ?_)
  ·rw [hmem] at hx ⊢
   refine ⟨?_, Nat.mod_lt _ (by omega)⟩
   apply Classical.byContradiction
   intro h0
   have h1 : p ∣ a * x := Nat.dvd_of_mod_eq_zero (by omega)
   rcases prm_mul hp h1 with h1 | h1
   ·exact ha h1
   ·have := Nat.le_of_dvd (by omega) h1; omega
  ·rw [hmem] at hx hy
   have h1 := mod_cancel (prm_cop hp ha) h
   rw [Nat.mod_eq_of_lt hx.2, Nat.mod_eq_of_lt hy.2] at h1
   exact h1
 have h1 := prod_perm hperm
 have h2 : prod ((List.range' 1 (p - 1)).map fun x => a * x) % p = prod (List.range' 1 (p - 1)) % p := by rw [← prod_map_mod, h1]
 rw [prod_map_mul, List.length_range', Nat.mul_comm] at h2
 have h3 : prod (List.range' 1 (p - 1)) * a ^ (p - 1) % p = prod (List.range' 1 (p - 1)) * 1 % p := by rw [h2, Nat.mul_one]
 exact mod_cancel (prm_cop hp (prod_cop hp fun x hx h => by rw [hmem] at hx; have := Nat.le_of_dvd (by omega) h; omega)) h3
theorem one_mod_iff {m : Nat} (x : Nat) : x % m = 1 % m ↔ (m : Int) ∣ (x : Int) - 1 := by
 constructor
 ·intro h
  have h2 : ((x : Int) - 1) % (m : Int) = 0 := by
   apply Int.emod_eq_emod_iff_emod_sub_eq_zero.1
   have : ((x % m : Nat) : Int) = ((1 % m : Nat) : Int) := by rw [h]
   simpa using this
  exact Int.dvd_of_emod_eq_zero h2
 ·intro h
  have h2 := Int.emod_eq_emod_iff_emod_sub_eq_zero.2 (Int.emod_eq_zero_of_dvd h)
  have : ((x % m : Nat) : Int) = ((1 % m : Nat) : Int) := by simpa using h2
  exact Int.ofNat_inj.1 this
structure IsOrd (a m k : Nat) : Prop where
 pos : 1 ≤ k
 one : a ^ k % m = 1 % m
 least : ∀ j, 1 ≤ j → j < k → a ^ j % m ≠ 1 % m
theorem pow_mul_mod {a m j k : Nat} (h : a ^ k % m = 1 % m) : a ^ (k * j) % m = 1 % m := by
 rw [Nat.pow_mul, Nat.pow_mod, h, ← Nat.pow_mod, Nat.one_pow]
theorem IsOrd.dvd {a m k j : Nat} (h : IsOrd a m k) (hj : a ^ j % m = 1 % m) : k ∣ j := by
 have h1 : a ^ (j % k) % m = 1 % m := by
  have h2 : a ^ j = a ^ (k * (j / k)) * a ^ (j % k) := by rw [← Nat.pow_add, Nat.div_add_mod]
  rw [h2, Nat.mul_mod, pow_mul_mod h.one, ← Nat.mul_mod, Nat.one_mul] at hj
  exact hj
 apply Nat.dvd_of_mod_eq_zero
 apply Classical.byContradiction
 intro h0
 have := h.pos
 exact h.least _ (by omega) (Nat.mod_lt _ (by omega)) h1
theorem IsOrd.unique {a m k k' : Nat} (h : IsOrd a m k) (h' : IsOrd a m k') : k = k' := Nat.dvd_antisymm (h.dvd h'.one) (h'.dvd h.one)
end Go.Proofs.YtillaipaanancaaGreat.M
end
section
namespace Go.Proofs.YtillaipaanancaaGreat.M
set_option linter.unusedVariables false
set_option linter.unusedSimpArgs false
def hv : List Int → Int → Int
 | [], _ => 0
 | c :: cs, x => c + x * hv cs x
def ladd : List Int → List Int → List Int
 | [], bs => bs
 | as, [] => as
 | a :: as, b :: bs => (a + b) :: ladd as bs
def lmul : List Int → List Int → List Int
 | [], _ => []
 | a :: as, bs => ladd (bs.map (a * ·)) (0 :: lmul as bs)
theorem hv_ladd : ∀ (as bs : List Int) (x : Int), hv (ladd as bs) x = hv as x + hv bs x
 | [], bs, x => by simp [ladd, hv]
 | a :: as, [], x => by simp [ladd, hv]
 | a :: as, b :: bs, x => by simp only [ladd, hv, hv_ladd as bs x]; grind
theorem hv_scale (c : Int) : ∀ (as : List Int) (x : Int), hv (as.map (c * ·)) x = c * hv as x
 | [], x => by simp [hv]
 | a :: as, x => by simp only [List.map_cons, hv, hv_scale c as x]; grind
theorem hv_lmul : ∀ (as bs : List Int) (x : Int), hv (lmul as bs) x = hv as x * hv bs x
 | [], bs, x => by simp [lmul, hv]
 | a :: as, bs, x => by simp only [lmul, hv_ladd, hv_scale, hv, hv_lmul as bs x]; grind
theorem getD_ladd : ∀ (as bs : List Int) (i : Nat), (ladd as bs).getD i 0 = as.getD i 0 + bs.getD i 0
 | [], bs, i => by simp [ladd]
 | a :: as, [], i => by simp [ladd]
 | a :: as, b :: bs, 0 => by simp [ladd]
 | a :: as, b :: bs, i + 1 => by
  have := getD_ladd as bs i
  simpa [ladd] using this
theorem len_ladd : ∀ (as bs : List Int), (ladd as bs).length = max as.length bs.length
 | [], bs => by simp [ladd]
 | a :: as, [] => by simp [ladd]
 | a :: as, b :: bs => by simp only [ladd, List.length_cons, len_ladd as bs]; omega
theorem len_lmul : ∀ (as bs : List Int) (m n : Nat), as.length ≤ m + 1 → bs.length ≤ n + 1 → (lmul as bs).length ≤ m + n + 1
 | [], bs, m, n, h, h2 => by simp [lmul]
 | [a], bs, m, n, h, h2 => by simp only [lmul, len_ladd, List.length_map, List.length_cons, List.length_nil]; omega
 | a :: b :: as, bs, m, n, h, h2 => by
  have h3 : (b :: as).length ≤ (m - 1) + 1 := by simp only [List.length_cons] at h ⊢; omega
  have := len_lmul (b :: as) bs (m - 1) n h3 h2
  rw [lmul, len_ladd, List.length_map, List.length_cons]
  simp only [List.length_cons] at h
  omega
theorem hv_zero : ∀ (cs : List Int), (∀ x : Int, 1 ≤ x → hv cs x = 0) → ∀ c ∈ cs, c = 0
 | [], _ => by simp
 | c :: cs, h => by
  have hc : c = 0 := by
   have h1 := h (c.natAbs + 1) (by omega)
   simp only [hv] at h1
   have h2 : ((c.natAbs : Int) + 1) ∣ c := ⟨-hv cs (c.natAbs + 1), by rw [Int.mul_neg]; omega⟩
   have h3 : (c.natAbs + 1) ∣ c.natAbs := by
    have := Int.natAbs_dvd_natAbs.2 h2
    rwa [show ((c.natAbs : Int) + 1).natAbs = c.natAbs + 1 from by omega] at this
   rcases Nat.eq_zero_or_pos c.natAbs with h4 | h4
   ·omega
   ·have := Nat.le_of_dvd h4 h3; omega
  subst hc
  intro d hd
  rcases List.mem_cons.1 hd with rfl | hd
  ·rfl
  ·refine hv_zero cs (fun x hx => ?_) d hd
   have := h x hx
   simp only [hv, Int.zero_add] at this
   rcases Int.mul_eq_zero.1 this with h1 | h1
   ·omega
   ·exact h1
structure ZX where
 v : Int → Int
 poly : ∃ cs, ∀ x, v x = hv cs x
namespace ZX
def P (l : List Int) : ZX := ⟨hv l, l, fun _ => rfl⟩
theorem ext {a b : ZX} (h : ∀ x, a.v x = b.v x) : a = b := by
 obtain ⟨a, ha⟩ := a
 obtain ⟨b, hb⟩ := b
 have : a = b := funext h
 subst this
 rfl
theorem exists_list (a : ZX) : ∃ l, a = P l := by
 obtain ⟨f, l, h⟩ := a
 exact ⟨l, ext h⟩
instance : Add ZX := ⟨fun a b => ⟨fun x => a.v x + b.v x, by
 obtain ⟨l, h⟩ := a.poly
 obtain ⟨m, h2⟩ := b.poly
 exact ⟨ladd l m, fun x => by simp only [hv_ladd, h, h2]⟩⟩⟩
instance : Mul ZX := ⟨fun a b => ⟨fun x => a.v x * b.v x, by
 obtain ⟨l, h⟩ := a.poly
 obtain ⟨m, h2⟩ := b.poly
 exact ⟨lmul l m, fun x => by simp only [hv_lmul, h, h2]⟩⟩⟩
instance : Neg ZX := ⟨fun a => ⟨fun x => - a.v x, by
 obtain ⟨l, h⟩ := a.poly
 exact ⟨l.map ((-1) * ·), fun x => by simp only [hv_scale, h]; omega⟩⟩⟩
instance : Sub ZX := ⟨fun a b => ⟨fun x => a.v x - b.v x, by
 obtain ⟨l, h⟩ := a.poly
 obtain ⟨m, h2⟩ := b.poly
 exact ⟨ladd l (m.map ((-1) * ·)), fun x => by simp only [hv_ladd, hv_scale, h, h2]; omega⟩⟩⟩
def C (c : Int) : ZX := ⟨fun _ => c, [c], fun x => by simp [hv]⟩
def X : ZX := ⟨fun x => x, [0, 1], fun x => by simp [hv]⟩
instance : OfNat ZX 0 := ⟨C 0⟩
instance : OfNat ZX 1 := ⟨C 1⟩
instance : Pow ZX Nat := ⟨fun a n => ⟨fun x => a.v x ^ n, by
 obtain ⟨l, h⟩ := a.poly
 induction n with
 | zero => exact ⟨[1], fun x => by simp [hv]⟩
 | succ n ih =>
  obtain ⟨m, h2⟩ := ih
  exact ⟨lmul m l, fun x => by rw [hv_lmul, Int.pow_succ, ← h2, ← h]⟩⟩⟩
theorem add_v (a b : ZX) (x : Int) : (a + b).v x = a.v x + b.v x := rfl
theorem mul_v (a b : ZX) (x : Int) : (a * b).v x = a.v x * b.v x := rfl
theorem sub_v (a b : ZX) (x : Int) : (a - b).v x = a.v x - b.v x := rfl
theorem neg_v (a : ZX) (x : Int) : (-a).v x = - a.v x := rfl
theorem zero_v (x : Int) : (0 : ZX).v x = 0 := rfl
theorem one_v (x : Int) : (1 : ZX).v x = 1 := rfl
theorem C_v (c x : Int) : (C c).v x = c := rfl
theorem X_v (x : Int) : X.v x = x := rfl
theorem pow_v (a : ZX) (n : Nat) (x : Int) : (a ^ n).v x = a.v x ^ n := rfl
theorem P_v (l : List Int) (x : Int) : (P l).v x = hv l x := rfl
theorem zr {a b : ZX} (h : ∀ x, a.v x = b.v x := by intro x; (try simp only [ZX.add_v, ZX.mul_v, ZX.sub_v, ZX.neg_v, ZX.zero_v, ZX.one_v, ZX.C_v, ZX.X_v, ZX.pow_v]) <;> grind) : a = b := ext h
theorem pow_zero (a : ZX) : a ^ 0 = 1 := ext fun x => by rw [pow_v, one_v, Int.pow_zero]
theorem pow_succ (a : ZX) (n : Nat) : a ^ (n + 1) = a ^ n * a := ext fun x => by rw [pow_v, mul_v, pow_v, Int.pow_succ]
theorem pow_add (a : ZX) (m n : Nat) : a ^ (m + n) = a ^ m * a ^ n := ext fun x => by rw [pow_v, mul_v, pow_v, pow_v, Int.pow_add]
theorem pow_mul (a : ZX) (m n : Nat) : a ^ (m * n) = (a ^ m) ^ n := ext fun x => by rw [pow_v, pow_v, pow_v, Int.pow_mul]
theorem mul_pow (a b : ZX) (n : Nat) : (a * b) ^ n = a ^ n * b ^ n := ext fun x => by rw [pow_v, mul_v, mul_v, pow_v, pow_v, Int.mul_pow]
theorem one_pow (n : Nat) : (1 : ZX) ^ n = 1 := ext fun x => by rw [pow_v, one_v, Int.one_pow]
theorem pow_one (a : ZX) : a ^ 1 = a := ext fun x => by rw [pow_v, Int.pow_succ, Int.pow_zero, Int.one_mul]
theorem P_nil : P [] = 0 := rfl
theorem P_one : P [1] = 1 := ext fun x => by simp [P_v, one_v, hv]
theorem P_cons (c : Int) (l : List Int) : P (c :: l) = C c + X * P l := rfl
theorem P_ladd (l m : List Int) : P (ladd l m) = P l + P m := ext fun x => hv_ladd l m x
theorem P_scale (c : Int) (l : List Int) : P (l.map (c * ·)) = C c * P l := ext fun x => hv_scale c l x
theorem P_lmul (l m : List Int) : P (lmul l m) = P l * P m := ext fun x => hv_lmul l m x
theorem mul_comm (a b : ZX) : a * b = b * a := ZX.zr
theorem mul_one (a : ZX) : a * 1 = a := ZX.zr
theorem one_mul (a : ZX) : 1 * a = a := ZX.zr
theorem mul_assoc (a b c : ZX) : a * b * c = a * (b * c) := ZX.zr
theorem P_getD {l m : List Int} (h : P l = P m) (i : Nat) : l.getD i 0 = m.getD i 0 := by
 have h1 : ∀ x, hv l x = hv m x := fun x => congrFun (congrArg ZX.v h) x
 have h2 := hv_zero (ladd l (m.map ((-1) * ·))) fun x _ => by rw [hv_ladd, hv_scale, h1]; omega
 have h3 : (ladd l (m.map ((-1) * ·))).getD i 0 = 0 := by
  rcases Nat.lt_or_ge i (ladd l (m.map ((-1) * ·))).length with h4 | h4
  ·rw [List.getD_eq_getElem?_getD, List.getElem?_eq_getElem h4, Option.getD_some]
   exact h2 _ (List.getElem_mem h4)
  ·rw [List.getD_eq_getElem?_getD, List.getElem?_eq_none h4, Option.getD_none]
 rw [getD_ladd] at h3
 have h5 : (m.map ((-1) * ·)).getD i 0 = - m.getD i 0 := by
  rw [List.getD_eq_getElem?_getD, List.getD_eq_getElem?_getD, List.getElem?_map]
  cases m[i]? with
  | none => rfl
  | some v => show -1 * v = - v; omega
 omega
end ZX
open ZX
def In (p : Nat) (f h : ZX) : Prop := ∃ a b, h = C p * a + f * b
namespace In
variable {p : Nat} {f g h k : ZX}
theorem zero : In p f 0 := ⟨0, 0, ZX.zr⟩
theorem add (h1 : In p f h) (h2 : In p f k) : In p f (h + k) := by
 obtain ⟨a, b, rfl⟩ := h1
 obtain ⟨c, d, rfl⟩ := h2
 exact ⟨a + c, b + d, ZX.zr⟩
theorem sub (h1 : In p f h) (h2 : In p f k) : In p f (h - k) := by
 obtain ⟨a, b, rfl⟩ := h1
 obtain ⟨c, d, rfl⟩ := h2
 exact ⟨a - c, b - d, ZX.zr⟩
theorem neg (h1 : In p f h) : In p f (-h) := by
 obtain ⟨a, b, rfl⟩ := h1
 exact ⟨-a, -b, ZX.zr⟩
theorem mul (h1 : In p f h) (c : ZX) : In p f (h * c) := by
 obtain ⟨a, b, rfl⟩ := h1
 exact ⟨a * c, b * c, ZX.zr⟩
theorem mul' (h1 : In p f h) (c : ZX) : In p f (c * h) := by rw [mul_comm]; exact h1.mul c
theorem num (a : ZX) : In p f (C p * a) := ⟨a, 0, ZX.zr⟩
theorem pol (b : ZX) : In p f (f * b) := ⟨0, b, ZX.zr⟩
theorem self : In p f f := by have := pol (p := p) (f := f) 1; rwa [mul_one] at this
theorem of_dvd {l : List Int} (hd : ∀ c ∈ l, (p : Int) ∣ c) : In p f (P l) := by
 refine ⟨P (l.map (· / (p : Int))), 0, ?_⟩
 rw [← P_scale, List.map_map]
 have : l.map ((fun x => (p : Int) * x) ∘ fun x => x / (p : Int)) = l := by
  rw [List.map_congr_left (g := id) fun c hc => ?_, List.map_id]
  exact Int.mul_ediv_cancel' (hd c hc)
 rw [this]
 exact ZX.zr
theorem cst {c : Int} (h : (p : Int) ∣ c) : In p f (C c) := by
 obtain ⟨d, rfl⟩ := h
 exact ⟨C d, 0, ZX.zr⟩
theorem mono (h1 : In p 0 h) : In p f h := by
 obtain ⟨a, b, rfl⟩ := h1
 exact ⟨a, 0, ZX.zr⟩
theorem trans (h1 : In p f h) (h2 : In p g f) : In p g h := by
 obtain ⟨a, b, rfl⟩ := h1
 exact (num a).add (h2.mul b)
theorem mod_num (h1 : In p 0 h) : ∃ a, h = C p * a := by
 obtain ⟨a, b, rfl⟩ := h1
 exact ⟨a, ZX.zr⟩
end In
theorem in_zero_iff {p : Nat} {l : List Int} : In p 0 (P l) ↔ ∀ i, (p : Int) ∣ l.getD i 0 := by
 constructor
 ·intro h i
  obtain ⟨a, e⟩ := h.mod_num
  obtain ⟨m, rfl⟩ := exists_list a
  rw [← P_scale] at e
  rw [P_getD e i, List.getD_eq_getElem?_getD, List.getElem?_map]
  cases m[i]? with
  | none => exact Int.dvd_zero _
  | some v => exact ⟨v, rfl⟩
 ·intro h
  refine In.of_dvd fun c hc => ?_
  obtain ⟨i, hi, rfl⟩ := List.mem_iff_getElem.1 hc
  have := h i
  rwa [List.getD_eq_getElem?_getD, List.getElem?_eq_getElem hi, Option.getD_some] at this
def Cg (p : Nat) (f a b : ZX) : Prop := In p f (a - b)
namespace Cg
variable {p : Nat} {f g a b c d : ZX}
theorem refl (a : ZX) : Cg p f a a := by
 show In p f (a - a)
 rw [show a - a = 0 from ZX.zr]
 exact In.zero
theorem of_eq (h : a = b) : Cg p f a b := h ▸ refl a
theorem symm (h : Cg p f a b) : Cg p f b a := by
 have := In.neg h
 rwa [show -(a - b) = b - a from ZX.zr] at this
theorem trans (h : Cg p f a b) (h2 : Cg p f b c) : Cg p f a c := by
 have := In.add h h2
 rwa [show a - b + (b - c) = a - c from ZX.zr] at this
theorem add (h : Cg p f a b) (h2 : Cg p f c d) : Cg p f (a + c) (b + d) := by
 have := In.add h h2
 rwa [show a - b + (c - d) = (a + c) - (b + d) from ZX.zr] at this
theorem sub (h : Cg p f a b) (h2 : Cg p f c d) : Cg p f (a - c) (b - d) := by
 have := In.sub h h2
 rwa [show a - b - (c - d) = (a - c) - (b - d) from ZX.zr] at this
theorem neg (h : Cg p f a b) : Cg p f (-a) (-b) := by
 have := In.neg h
 rwa [show -(a - b) = -a - -b from ZX.zr] at this
theorem mul (h : Cg p f a b) (h2 : Cg p f c d) : Cg p f (a * c) (b * d) := by
 have := In.add (In.mul h c) (In.mul h2 b)
 rwa [show (a - b) * c + (c - d) * b = a * c - b * d from ZX.zr] at this
theorem pow (h : Cg p f a b) : ∀ n : Nat, Cg p f (a ^ n) (b ^ n)
 | 0 => by rw [pow_zero, pow_zero]; exact refl _
 | n + 1 => by rw [pow_succ, pow_succ]; exact (pow h n).mul h
theorem mono (h : Cg p 0 a b) : Cg p f a b := In.mono h
theorem down (h : Cg p f a b) (h2 : In p g f) : Cg p g a b := In.trans h h2
theorem in_iff (h : Cg p f a b) : In p f a ↔ In p f b := by
 constructor
 ·intro h1
  have := h1.sub h
  rwa [show a - (a - b) = b from ZX.zr] at this
 ·intro h1
  have := In.add h h1
  rwa [show a - b + b = a from ZX.zr] at this
theorem of_in (h : In p f a) : Cg p f a 0 := by
 show In p f (a - 0)
 rw [show a - 0 = a from ZX.zr]; exact h
theorem num_mod (c : Int) : Cg p f (C c) (C (c % p)) := by
 refine ⟨C (c / p), 0, ?_⟩
 have := Int.mul_ediv_add_emod c p
 exact ZX.zr
theorem poly : Cg p f f 0 := of_in In.self
end Cg
def tr : List Int → List Int
 | [] => []
 | c :: cs => if c = 0 ∧ tr cs = [] then [] else c :: tr cs
theorem hv_tr : ∀ (l : List Int) (x : Int), hv (tr l) x = hv l x
 | [], x => rfl
 | c :: cs, x => by
  have ih := hv_tr cs x
  unfold tr
  split
  ·rename_i h
   rw [h.2] at ih
   simp only [hv] at ih ⊢
   rw [← ih, h.1]; simp
  ·simp only [hv, ih]
theorem P_tr (l : List Int) : P (tr l) = P l := ZX.ext fun x => hv_tr l x
theorem tr_len : ∀ l : List Int, (tr l).length ≤ l.length
 | [] => Nat.le_refl _
 | c :: cs => by
  have := tr_len cs
  unfold tr
  split
  ·simp
  ·simp only [List.length_cons]; omega
theorem tr_mem : ∀ {l : List Int} {c : Int}, c ∈ tr l → c ∈ l
 | [], c, h => h
 | d :: cs, c, h => by
  unfold tr at h
  split at h
  ·cases h
  ·rcases List.mem_cons.1 h with rfl | h
   ·exact List.mem_cons_self
   ·exact List.mem_cons_of_mem _ (tr_mem h)
def Nz (l : List Int) : Prop := l = [] ∨ l.getD (l.length - 1) 0 ≠ 0
theorem Nz.cons {c : Int} {l : List Int} (h : Nz l) (h2 : c ≠ 0 ∨ l ≠ []) : Nz (c :: l) := by
 refine .inr ?_
 rcases l with _ | ⟨d, l⟩
 ·simpa using h2
 ·rcases h with h | h
  ·cases h
  ·simpa using h
theorem Nz.tail {c : Int} {l : List Int} (h : Nz (c :: l)) : Nz l := by
 rcases l with _ | ⟨d, l⟩
 ·exact .inl rfl
 ·rcases h with h | h
  ·cases h
  ·exact .inr (by simpa using h)
theorem tr_nz : ∀ l : List Int, Nz (tr l)
 | [] => .inl rfl
 | c :: cs => by
  have ih := tr_nz cs
  unfold tr
  split
  ·exact .inl rfl
  ·rename_i h
   refine ih.cons ?_
   by_cases hc : c = 0
   ·exact .inr fun e => h ⟨hc, e⟩
   ·exact .inl hc
theorem tr_of_nz : ∀ {l : List Int}, Nz l → tr l = l
 | [], _ => rfl
 | c :: cs, h => by
  have ih := tr_of_nz h.tail
  unfold tr
  rw [ih, if_neg]
  rintro ⟨rfl, rfl⟩
  rcases h with h | h
  ·cases h
  ·exact h rfl
def NL (p : Nat) (l : List Int) : Prop := (∀ c ∈ l, 0 ≤ c ∧ c < p) ∧ Nz l
theorem NL.nil {p : Nat} : NL p [] := ⟨by simp, .inl rfl⟩
theorem NL.one {p : Nat} (h : 2 ≤ p) : NL p [1] := ⟨by simp; omega, .inr (by simp)⟩
theorem NL.tr {p : Nat} {l : List Int} (h : ∀ c ∈ l, 0 ≤ c ∧ c < p) : NL p (tr l) := ⟨fun c hc => h c (tr_mem hc), tr_nz l⟩
theorem NL.getD {p : Nat} {l : List Int} (hp : 0 < p) (h : NL p l) (i : Nat) : 0 ≤ l.getD i 0 ∧ l.getD i 0 < p := by
 rcases Nat.lt_or_ge i l.length with h1 | h1
 ·rw [List.getD_eq_getElem?_getD, List.getElem?_eq_getElem h1, Option.getD_some]
  exact h.1 _ (List.getElem_mem h1)
 ·rw [List.getD_eq_getElem?_getD, List.getElem?_eq_none h1, Option.getD_none]
  omega
def nrm (p : Nat) (l : List Int) : List Int := tr (l.map (· % (p : Int)))
theorem nrm_nl {p : Nat} (hp : 0 < p) (l : List Int) : NL p (nrm p l) := NL.tr fun c hc => by
 obtain ⟨d, _, rfl⟩ := List.mem_map.1 hc
 exact ⟨Int.emod_nonneg _ (by omega), Int.emod_lt_of_pos _ (by omega)⟩
theorem nrm_len (p : Nat) (l : List Int) : (nrm p l).length ≤ l.length := by
 have := tr_len (l.map (· % (p : Int)))
 rwa [List.length_map] at this
theorem nrm_cg (p : Nat) (f : ZX) : ∀ l : List Int, Cg p f (P (nrm p l)) (P l) := by
 intro l
 have : P (nrm p l) = P (l.map (· % (p : Int))) := P_tr _
 rw [this]
 clear this
 induction l with
 | nil => exact Cg.refl _
 | cons c l ih =>
  rw [List.map_cons, P_cons, P_cons]
  exact (Cg.num_mod c).symm.add ((Cg.refl _).mul ih)
theorem getD_of_len {l : List Int} {i : Nat} (h : l.length ≤ i) : l.getD i 0 = 0 := by
 rw [List.getD_eq_getElem?_getD, List.getElem?_eq_none h, Option.getD_none]
theorem ext_getD : ∀ {l m : List Int}, l.length = m.length → (∀ i, l.getD i 0 = m.getD i 0) → l = m
 | [], [], _, _ => rfl
 | a :: l, b :: m, h, h2 => by
  have h0 := h2 0
  simp only [List.getD_cons_zero] at h0
  rw [h0, ext_getD (l := l) (m := m) (by simpa using h) fun i => by simpa using h2 (i + 1)]
theorem cg_getD {p : Nat} {l m : List Int} (h : Cg p 0 (P l) (P m)) (i : Nat) : (p : Int) ∣ l.getD i 0 - m.getD i 0 := by
 have e : P l - P m = P (ladd l (m.map ((-1) * ·))) := by
  rw [P_ladd, P_scale]
  exact ZX.zr
 have h1 : In p 0 (P (ladd l (m.map ((-1) * ·)))) := by rw [← e]; exact h
 have h2 := in_zero_iff.1 h1 i
 rw [getD_ladd] at h2
 have h5 : (m.map ((-1) * ·)).getD i 0 = - m.getD i 0 := by
  rw [List.getD_eq_getElem?_getD, List.getD_eq_getElem?_getD, List.getElem?_map]
  cases m[i]? with
  | none => rfl
  | some v => show -1 * v = - v; omega
 rwa [h5, ← Int.sub_eq_add_neg] at h2
theorem small_eq {p : Nat} {a b : Int} (ha : 0 ≤ a ∧ a < p) (hb : 0 ≤ b ∧ b < p) (h : (p : Int) ∣ a - b) : a = b := by
 have h2 : a % (p : Int) = b % (p : Int) := Int.emod_eq_emod_iff_emod_sub_eq_zero.2 (Int.emod_eq_zero_of_dvd h)
 rwa [Int.emod_eq_of_lt ha.1 ha.2, Int.emod_eq_of_lt hb.1 hb.2] at h2
theorem nl_unique {p : Nat} (hp : 0 < p) {l m : List Int} (hl : NL p l) (hm : NL p m) (h : Cg p 0 (P l) (P m)) : l = m := by
 have hg : ∀ i, l.getD i 0 = m.getD i 0 := fun i => small_eq (hl.getD hp i) (hm.getD hp i) (cg_getD h i)
 have key : ∀ {l m : List Int}, NL p l → NL p m → (∀ i, l.getD i 0 = m.getD i 0) → l.length ≤ m.length := by
  intro l m hl hm hg
  apply Classical.byContradiction
  intro hc
  rcases hl.2 with e | e
  ·rw [e] at hc; simp at hc
  ·rw [hg, getD_of_len (by omega)] at e
   exact e rfl
 exact ext_getD (Nat.le_antisymm (key hl hm hg) (key hm hl fun i => (hg i).symm)) hg
theorem exists_nl {p : Nat} (hp : 0 < p) (a : ZX) : ∃ l, NL p l ∧ Cg p 0 (P l) a := by
 obtain ⟨l, rfl⟩ := exists_list a
 exact ⟨nrm p l, nrm_nl hp l, nrm_cg p 0 l⟩
theorem nrm_short {p : Nat} {l : List Int} {n : Nat} (hp : 0 < p) (h : ∀ i, n ≤ i → (p : Int) ∣ l.getD i 0) : (nrm p l).length ≤ n := by
 apply Classical.byContradiction
 intro hc
 have hn := nrm_nl hp l
 rcases hn.2 with e | e
 ·rw [e] at hc; simp at hc
 ·have h1 := cg_getD (nrm_cg p 0 l) ((nrm p l).length - 1)
  have h2 := h ((nrm p l).length - 1) (by omega)
  have h3 : (p : Int) ∣ (nrm p l).getD ((nrm p l).length - 1) 0 := by
   have := Int.dvd_add h1 h2
   rwa [show ∀ a b : Int, a - b + b = a from fun a b => by omega] at this
  have hr := hn.getD hp ((nrm p l).length - 1)
  exact e (small_eq hr ⟨by omega, by omega⟩ (by rwa [Int.sub_zero]))
end Go.Proofs.YtillaipaanancaaGreat.M
end
section
namespace Go.Proofs.YtillaipaanancaaGreat.M
open ZX
set_option linter.unusedVariables false
set_option linter.unusedSimpArgs false
theorem prm_dvd_int {p : Nat} (hp : Prm p) {a b : Int} (h : (p : Int) ∣ a * b) : (p : Int) ∣ a ∨ (p : Int) ∣ b := by
 have h1 : p ∣ a.natAbs * b.natAbs := by
  rw [← Int.natAbs_mul]
  exact Int.ofNat_dvd_left.1 h
 rcases prm_mul hp h1 with h2 | h2
 ·exact .inl (Int.ofNat_dvd_left.2 h2)
 ·exact .inr (Int.ofNat_dvd_left.2 h2)
theorem exists_inv {p : Nat} (hp : Prm p) {c : Int} (h : ¬ (p : Int) ∣ c) : ∃ s : Int, (p : Int) ∣ s * c - 1 := by
 have hp0 := prm_pos hp
 have hc := Int.emod_nonneg c (show (p : Int) ≠ 0 by omega)
 have hn : ¬ p ∣ (c % p).toNat := by
  intro hd
  apply h
  have h1 : (p : Int) ∣ ((c % p).toNat : Int) := Int.natCast_dvd_natCast.2 hd
  rw [Int.toNat_of_nonneg hc] at h1
  exact (Int.dvd_iff_emod_eq_zero).2 (by rw [← Int.emod_emod_of_dvd c (Int.dvd_refl (p : Int))]; exact Int.emod_eq_zero_of_dvd h1)
 have hf := (one_mod_iff _).1 (fermat hp hn)
 have e : p - 1 = (p - 2) + 1 := by have := hp.1; omega
 rw [e, Nat.pow_succ] at hf
 refine ⟨(((c % p).toNat ^ (p - 2) : Nat) : Int), ?_⟩
 have h2 : (p : Int) ∣ c - c % p := Int.dvd_self_sub_emod
 have h3 := Int.dvd_add hf (Int.dvd_mul_of_dvd_right (b := (((c % p).toNat ^ (p - 2) : Nat) : Int)) h2)
 rw [Int.natCast_mul, Int.toNat_of_nonneg hc] at h3
 have h4 : (((c % p).toNat ^ (p - 2) : Nat) : Int) * (c % p) - 1 + (((c % p).toNat ^ (p - 2) : Nat) : Int) * (c - c % p) = (((c % p).toNat ^ (p - 2) : Nat) : Int) * c - 1 := by grind
 rwa [h4] at h3
def Dg (n : Nat) (a : ZX) : Prop := ∃ l : List Int, l.length ≤ n ∧ a = P l
namespace Dg
theorem zero (n : Nat) : Dg n 0 := ⟨[], by simp, rfl⟩
theorem of_P {n : Nat} {l : List Int} (h : l.length ≤ n) : Dg n (P l) := ⟨l, h, rfl⟩
theorem mono {m n : Nat} {a : ZX} (h : Dg m a) (hmn : m ≤ n) : Dg n a := by
 obtain ⟨l, hl, rfl⟩ := h
 exact ⟨l, by omega, rfl⟩
theorem add {n : Nat} {a b : ZX} (h : Dg n a) (h2 : Dg n b) : Dg n (a + b) := by
 obtain ⟨l, hl, rfl⟩ := h
 obtain ⟨m, hm, rfl⟩ := h2
 exact ⟨ladd l m, by rw [len_ladd]; omega, (P_ladd l m).symm⟩
theorem scale {n : Nat} {a : ZX} (h : Dg n a) (c : Int) : Dg n (C c * a) := by
 obtain ⟨l, hl, rfl⟩ := h
 exact ⟨l.map (c * ·), by rwa [List.length_map], (P_scale c l).symm⟩
theorem neg {n : Nat} {a : ZX} (h : Dg n a) : Dg n (-a) := by
 have := h.scale (-1)
 rwa [show C (-1) * a = -a from ZX.zr] at this
theorem sub {n : Nat} {a b : ZX} (h : Dg n a) (h2 : Dg n b) : Dg n (a - b) := by
 have := h.add h2.neg
 rwa [show a + -b = a - b from ZX.zr] at this
theorem mul {m n : Nat} {a b : ZX} (h : Dg m a) (h2 : Dg n b) : Dg (m + n) (a * b) := by
 obtain ⟨l, hl, rfl⟩ := h
 obtain ⟨k, hk, rfl⟩ := h2
 rcases m with _ | m
 ·obtain rfl : l = [] := List.length_eq_zero_iff.1 (by omega)
  rw [show P [] * P k = 0 from by rw [P_nil]; exact ZX.zr]
  exact zero _
 ·rcases n with _ | n
  ·obtain rfl : k = [] := List.length_eq_zero_iff.1 (by omega)
   rw [show P l * P [] = 0 from by rw [P_nil]; exact ZX.zr]
   exact zero _
  ·exact ⟨lmul l k, by have := len_lmul l k m n hl hk; omega, (P_lmul l k).symm⟩
theorem shift {m : Nat} {a : ZX} (h : Dg m a) : ∀ k, Dg (m + k) (X ^ k * a)
 | 0 => by rw [pow_zero, one_mul]; exact h
 | k + 1 => by
  obtain ⟨l, hl, e⟩ := shift h k
  refine ⟨0 :: l, by simp only [List.length_cons]; omega, ?_⟩
  rw [P_cons, ← e, pow_succ]
  exact ZX.zr
theorem one : Dg 1 (1 : ZX) := ⟨[1], by simp, P_one.symm⟩
end Dg
theorem P_append : ∀ l m : List Int, P (l ++ m) = P l + X ^ l.length * P m
 | [], m => by
  rw [List.nil_append, P_nil, List.length_nil, pow_zero]
  exact ZX.zr
 | c :: l, m => by
  rw [List.cons_append, P_cons, P_append l m, P_cons, List.length_cons, pow_succ]
  exact ZX.zr
theorem P_single (c : Int) : P [c] = C c := ZX.ext fun x => by simp [P_v, C_v, hv]
theorem P_snoc (l : List Int) (c : Int) : P (l ++ [c]) = P l + X ^ l.length * C c := by rw [P_append, P_single]
theorem P_zeros (n : Nat) : P (List.replicate n 0) = 0 := by
 induction n with
 | zero => rfl
 | succ n ih =>
  rw [List.replicate_succ, P_cons, ih]
  exact ZX.zr
theorem top_dvd {p n : Nat} {a : ZX} {t : Int} (ha : Dg n a) (h : In p 0 (a + X ^ n * C t)) : (p : Int) ∣ t := by
 obtain ⟨l, hl, rfl⟩ := ha
 have e : P l + X ^ n * C t = P (ladd l (List.replicate n 0 ++ [t])) := by
  rw [P_ladd, P_snoc, P_zeros, List.length_replicate]
  exact ZX.zr
 rw [e] at h
 have h1 := in_zero_iff.1 h n
 rw [getD_ladd, getD_of_len hl] at h1
 have h2 : (List.replicate n (0 : Int) ++ [t]).getD n 0 = t := by
  rw [List.getD_eq_getElem?_getD, List.getElem?_append_right (by simp)]
  simp
 rwa [h2, Int.zero_add] at h1
theorem NL.split {p : Nat} {g : List Int} (hg : NL p g) (hne : g ≠ []) : ∃ (g0 : List Int) (c : Int), g = g0 ++ [c] ∧ 0 < c ∧ c < p ∧ ¬ (p : Int) ∣ c := by
 refine ⟨g.dropLast, g.getLast hne, (List.dropLast_concat_getLast hne).symm, ?_⟩
 have h1 := hg.1 _ (List.getLast_mem hne)
 have h2 : g.getLast hne ≠ 0 := by
  rcases hg.2 with e | e
  ·exact absurd e hne
  ·rw [List.getLast_eq_getElem hne]
   rwa [List.getD_eq_getElem?_getD, List.getElem?_eq_getElem (by have := List.length_pos_iff.2 hne; omega), Option.getD_some] at e
 refine ⟨by omega, h1.2, fun hd => ?_⟩
 have := Int.le_of_dvd (by omega) hd
 omega
theorem mul_top (g0 b0 : List Int) (c t : Int) : ∃ low, Dg (g0.length + b0.length) low ∧ P (g0 ++ [c]) * P (b0 ++ [t]) = low + X ^ (g0.length + b0.length) * C (c * t) := by
 refine ⟨P g0 * P b0 + (X ^ g0.length * (C c * P b0) + X ^ b0.length * (C t * P g0)), ?_, ?_⟩
 ·refine ((Dg.of_P (Nat.le_refl _)).mul (Dg.of_P (Nat.le_refl _))).add (Dg.add ?_ ?_)
  ·have := ((Dg.of_P (Nat.le_refl b0.length)).scale c).shift g0.length
   exact this.mono (by omega)
  ·exact ((Dg.of_P (Nat.le_refl g0.length)).scale t).shift b0.length
 ·rw [P_snoc, P_snoc, pow_add]
  exact ZX.zr
theorem deg_zero {p : Nat} (hp : Prm p) {g : List Int} (hg : NL p g) (hne : g ≠ []) {h : ZX} (hh : Dg (g.length - 1) h) (hin : In p (P g) h) : In p 0 h := by
 obtain ⟨a, b, rfl⟩ := hin
 obtain ⟨m, hm, cm⟩ := exists_nl (prm_pos hp) b
 by_cases hm0 : m = []
 ·have : In p 0 b := cm.in_iff.1 (by rw [hm0, P_nil]; exact In.zero)
  exact (In.num a).add (this.mul' _)
 exfalso
 obtain ⟨g0, c, rfl, _, _, hc⟩ := hg.split hne
 obtain ⟨b0, t, rfl, _, _, ht⟩ := hm.split hm0
 obtain ⟨low, hlow, e⟩ := mul_top g0 b0 c t
 rw [show (g0 ++ [c]).length - 1 = g0.length by simp] at hh
 generalize hX : C p * a + P (g0 ++ [c]) * b = h at hh
 have h1 : Cg p 0 h (P (g0 ++ [c]) * P (b0 ++ [t])) := by
  have h2 : Cg p 0 (P (g0 ++ [c]) * P (b0 ++ [t])) (P (g0 ++ [c]) * b) := (Cg.refl _).mul cm
  have h3 : Cg p 0 (P (g0 ++ [c]) * b) h := by
   show In p 0 _
   rw [← hX, show P (g0 ++ [c]) * b - (C p * a + P (g0 ++ [c]) * b) = C p * (-a) from ZX.zr]
   exact In.num _
  exact (h2.trans h3).symm
 rw [e] at h1
 have h4 : In p 0 ((low - h) + X ^ (g0.length + b0.length) * C (c * t)) := by
  have := In.neg h1
  rwa [show -(h - (low + X ^ (g0.length + b0.length) * C (c * t))) = (low - h) + X ^ (g0.length + b0.length) * C (c * t) from ZX.zr] at this
 rcases prm_dvd_int hp (top_dvd (hlow.sub (hh.mono (by omega))) h4) with h2 | h2
 ·exact hc h2
 ·exact ht h2
theorem exists_div {p : Nat} (hp : Prm p) {g : List Int} (hg : NL p g) (hne : g ≠ []) (a : ZX) : ∃ (q : ZX) (r : List Int), NL p r ∧ r.length < g.length ∧ Cg p 0 a (P g * q + P r) := by
 have hp0 := prm_pos hp
 have hlen := List.length_pos_iff.2 hne
 obtain ⟨l, rfl⟩ := exists_list a
 induction l with
 | nil => exact ⟨0, [], NL.nil, by simpa using hlen, Cg.of_eq (by rw [P_nil]; exact ZX.zr)⟩
 | cons c l ih =>
  obtain ⟨q, r, hr, hrl, hq⟩ := ih
  obtain ⟨g0, d, rfl, _, _, hd⟩ := hg.split hne
  obtain ⟨s, hs⟩ := exists_inv hp hd
  rw [List.length_append, List.length_singleton] at hrl
  generalize ht : (c :: r).getD g0.length 0 = t
  have hm : ∀ i, g0.length ≤ i → (p : Int) ∣ (ladd (c :: r) ((g0 ++ [d]).map ((-(s * t)) * ·))).getD i 0 := by
   intro i hi
   rw [getD_ladd]
   rcases Nat.eq_or_lt_of_le hi with h1 | h1
   ·subst h1
    have h2 : ((g0 ++ [d]).map ((-(s * t)) * ·)).getD g0.length 0 = -(s * t) * d := by
     rw [List.getD_eq_getElem?_getD, List.getElem?_map, List.getElem?_append_right (Nat.le_refl _)]
     simp
    rw [ht, h2]
    have h3 := Int.dvd_mul_of_dvd_left (c := -t) hs
    rwa [show (s * d - 1) * -t = t + -(s * t) * d by grind] at h3
   ·rw [getD_of_len (by simp only [List.length_cons]; omega), getD_of_len (by simp only [List.length_map, List.length_append, List.length_singleton]; omega)]
    exact Int.dvd_zero _
  refine ⟨X * q + C (s * t), nrm p (ladd (c :: r) ((g0 ++ [d]).map ((-(s * t)) * ·))), nrm_nl hp0 _, ?_, ?_⟩
  ·have := nrm_short hp0 hm
   rw [List.length_append, List.length_singleton]
   omega
  ·have h1 := nrm_cg p 0 (ladd (c :: r) ((g0 ++ [d]).map ((-(s * t)) * ·)))
   rw [P_ladd, P_scale] at h1
   have h2 : Cg p 0 (P (c :: l)) (C c + X * (P (g0 ++ [d]) * q + P r)) := by
    rw [P_cons]
    exact (Cg.refl _).add ((Cg.refl _).mul hq)
   refine h2.trans ?_
   rw [P_cons] at h1
   have h3 := ((Cg.refl (p := p) (f := 0) (P (g0 ++ [d]) * (X * q + C (s * t)))).add h1).symm
   rwa [show P (g0 ++ [d]) * (X * q + C (s * t)) + (C c + X * P r + C (-(s * t)) * P (g0 ++ [d])) = C c + X * (P (g0 ++ [d]) * q + P r) from ZX.zr] at h3
theorem exists_nf {p : Nat} (hp : Prm p) {g : List Int} (hg : NL p g) (hne : g ≠ []) (a : ZX) : ∃ r : List Int, NL p r ∧ r.length < g.length ∧ Cg p (P g) (P r) a := by
 obtain ⟨q, r, hr, hl, h⟩ := exists_div hp hg hne a
 refine ⟨r, hr, hl, ?_⟩
 have h1 : Cg p (P g) (P g * q + P r) (P r) := by
  show In p (P g) _
  rw [show P g * q + P r - P r = P g * q from ZX.zr]
  exact In.pol q
 exact (h.mono.trans h1).symm
theorem nf_unique {p : Nat} (hp : Prm p) {g : List Int} (hg : NL p g) (hne : g ≠ []) {r r' : List Int} (hr : NL p r) (hr' : NL p r') (hl : r.length < g.length) (hl' : r'.length < g.length) (h : Cg p (P g) (P r) (P r')) : r = r' :=
 nl_unique (prm_pos hp) hr hr' (deg_zero hp hg hne ((Dg.of_P (by omega)).sub (Dg.of_P (by omega))) h)
theorem bezout {p : Nat} (hp : Prm p) : ∀ (n : Nat) (g f : List Int), NL p g → NL p f → g.length ≤ n →
  ∃ (d : List Int) (s t : ZX), NL p d ∧ In p (P d) (P f) ∧ In p (P d) (P g) ∧ Cg p 0 (P d) (s * P f + t * P g) := by
 intro n
 induction n with
 | zero =>
  intro g f hg hf hl
  obtain rfl : g = [] := List.length_eq_zero_iff.1 (by omega)
  exact ⟨f, 1, 0, hf, In.self, by rw [P_nil]; exact In.zero, Cg.of_eq ZX.zr⟩
 | succ n ih =>
  intro g f hg hf hl
  by_cases hne : g = []
  ·subst hne
   exact ⟨f, 1, 0, hf, In.self, by rw [P_nil]; exact In.zero, Cg.of_eq ZX.zr⟩
  ·obtain ⟨q, r, hr, hrl, hq⟩ := exists_div hp hg hne (P f)
   obtain ⟨d, s, t, hd, h1, h2, h3⟩ := ih r g hr hg (by omega)
   refine ⟨d, t, s - t * q, hd, ?_, h1, ?_⟩
   ·exact (hq.mono.in_iff).2 ((h1.mul q).add h2)
   ·refine h3.trans ?_
    have h4 : Cg p 0 (P r) (P f - P g * q) := by
     have := (hq.sub (Cg.refl (P g * q))).symm
     rwa [show P g * q + P r - P g * q = P r from ZX.zr] at this
    have h5 := (Cg.refl (p := p) (f := 0) (s * P g)).add ((Cg.refl (p := p) (f := 0) t).mul h4)
    rwa [show s * P g + t * (P f - P g * q) = t * P f + (s - t * q) * P g from ZX.zr] at h5
theorem unit_of_single {p : Nat} (hp : Prm p) {d : List Int} (hd : NL p d) (h1 : d.length = 1) : ∃ u : ZX, Cg p 0 (P d * u) 1 := by
 obtain ⟨g0, c, rfl, _, _, hc⟩ := hd.split (by intro e; rw [e] at h1; cases h1)
 obtain rfl : g0 = [] := List.length_eq_zero_iff.1 (by simpa using h1)
 obtain ⟨s, hs⟩ := exists_inv hp hc
 refine ⟨C s, ?_⟩
 show In p 0 _
 rw [List.nil_append, P_single, show C c * C s - 1 = C (s * c - 1) from ZX.zr]
 exact In.cst hs
theorem not_in_one {p : Nat} (hp : Prm p) {g : List Int} (hg : NL p g) (h2 : 2 ≤ g.length) : ¬ In p (P g) 1 := by
 intro h
 have h1 := deg_zero hp hg (by intro e; rw [e] at h2; simp at h2) (Dg.one.mono (by omega)) h
 have h3 := top_dvd (n := 0) (a := 0) (t := 1) (Dg.zero 0) (by rw [pow_zero, show (0 : ZX) + 1 * C 1 = 1 from ZX.zr]; exact h1)
 have := Int.le_of_dvd (by omega) h3
 have := hp.1
 omega
def Dom (p : Nat) (f : ZX) : Prop := ∀ a b, In p f (a * b) → In p f a ∨ In p f b
theorem len_mul {p : Nat} (hp : Prm p) {f d e : List Int} (hf : NL p f) (hd : NL p d) (he : NL p e) (hne : f ≠ []) (h : Cg p 0 (P f) (P d * P e)) : d ≠ [] ∧ e ≠ [] ∧ d.length + e.length = f.length + 1 := by
 have hf0 : ¬ In p 0 (P f) := fun h0 => hne (nl_unique (prm_pos hp) hf NL.nil (by rw [P_nil]; exact Cg.of_in h0))
 have hd0 : d ≠ [] := by
  rintro rfl
  exact hf0 (h.in_iff.2 (by rw [P_nil, show (0 : ZX) * P e = 0 from ZX.zr]; exact In.zero))
 have he0 : e ≠ [] := by
  rintro rfl
  exact hf0 (h.in_iff.2 (by rw [P_nil, show P d * (0 : ZX) = 0 from ZX.zr]; exact In.zero))
 refine ⟨hd0, he0, ?_⟩
 obtain ⟨f0, c, rfl, _, _, hc⟩ := hf.split hne
 obtain ⟨d0, a, rfl, _, _, ha⟩ := hd.split hd0
 obtain ⟨e0, b, rfl, _, _, hb⟩ := he.split he0
 obtain ⟨low, hlow, e⟩ := mul_top d0 e0 a b
 rw [e, P_snoc] at h
 simp only [List.length_append, List.length_singleton]
 rcases Nat.lt_trichotomy f0.length (d0.length + e0.length) with h1 | h1 | h1
 ·exfalso
  have h2 : In p 0 ((low - (P f0 + X ^ f0.length * C c)) + X ^ (d0.length + e0.length) * C (a * b)) := by
   have := In.neg h
   rwa [show -(P f0 + X ^ f0.length * C c - (low + X ^ (d0.length + e0.length) * C (a * b))) = (low - (P f0 + X ^ f0.length * C c)) + X ^ (d0.length + e0.length) * C (a * b) from ZX.zr] at this
  have h3 : Dg (d0.length + e0.length) (P f0 + X ^ f0.length * C c) := by
   rw [← P_snoc]
   exact Dg.of_P (by simp only [List.length_append, List.length_singleton]; omega)
  rcases prm_dvd_int hp (top_dvd (hlow.sub h3) h2) with h4 | h4
  ·exact ha h4
  ·exact hb h4
 ·omega
 ·exfalso
  have h2 : In p 0 ((P f0 - (low + X ^ (d0.length + e0.length) * C (a * b))) + X ^ f0.length * C c) := by
   have h5 : In p 0 (P f0 + X ^ f0.length * C c - (low + X ^ (d0.length + e0.length) * C (a * b))) := h
   rwa [show P f0 + X ^ f0.length * C c - (low + X ^ (d0.length + e0.length) * C (a * b)) = (P f0 - (low + X ^ (d0.length + e0.length) * C (a * b))) + X ^ f0.length * C c from ZX.zr] at h5
  have h3 : Dg f0.length (low + X ^ (d0.length + e0.length) * C (a * b)) := by
   rw [← e, ← P_lmul]
   have h6 := len_lmul (d0 ++ [a]) (e0 ++ [b]) d0.length e0.length (by simp) (by simp)
   exact Dg.of_P (by omega)
  exact hc (top_dvd ((Dg.of_P (Nat.le_refl _)).sub h3) h2)
theorem split {p : Nat} (hp : Prm p) {f : List Int} (hf : NL p f) (h2 : 2 ≤ f.length) (hD : ¬ Dom p (P f)) : ∃ d e : List Int, NL p d ∧ NL p e ∧ 2 ≤ d.length ∧ 2 ≤ e.length ∧ d.length + e.length = f.length + 1 ∧ Cg p 0 (P f) (P d * P e) := by
 have hne : f ≠ [] := by intro e; rw [e] at h2; simp at h2
 obtain ⟨a, b, hab, ha, hb⟩ : ∃ a b, In p (P f) (a * b) ∧ ¬ In p (P f) a ∧ ¬ In p (P f) b := by
  apply Classical.byContradiction
  intro hc
  apply hD
  intro a b hab
  apply Classical.byContradiction
  intro h
  exact hc ⟨a, b, hab, fun h1 => h (.inl h1), fun h1 => h (.inr h1)⟩
 obtain ⟨l, hl, cl⟩ := exists_nl (prm_pos hp) a
 obtain ⟨d, s, t, hd, h1, h3, h4⟩ := bezout hp l.length l f hl hf (Nat.le_refl _)
 obtain ⟨x, e0, he0⟩ := h1
 obtain ⟨e, he, ce⟩ := exists_nl (prm_pos hp) e0
 have hfe : Cg p 0 (P f) (P d * P e) := by
  have h5 : Cg p 0 (P f) (P d * e0) := by
   show In p 0 _
   rw [he0, show C p * x + P d * e0 - P d * e0 = C p * x from ZX.zr]
   exact In.num x
  exact h5.trans ((Cg.refl _).mul ce.symm)
 obtain ⟨hd0, he1, hlen⟩ := len_mul hp hf hd he hne hfe
 have := List.length_pos_iff.2 hd0
 have := List.length_pos_iff.2 he1
 refine ⟨d, e, hd, he, ?_, ?_, hlen, hfe⟩
 ·apply Classical.byContradiction
  intro hc
  obtain ⟨u, hu⟩ := unit_of_single hp hd (by omega)
  apply hb
  have h5 : Cg p (P f) 1 (t * a * u) := by
   refine (hu.mono.symm).trans ?_
   have h6 := (h4.mono (f := P f)).mul (Cg.refl u)
   refine h6.trans ?_
   have h7 := ((((Cg.refl s).mul (Cg.poly (p := p) (f := P f))).add ((Cg.refl t).mul (cl.mono (f := P f)))).mul (Cg.refl u))
   rwa [show (s * 0 + t * a) * u = t * a * u from ZX.zr] at h7
  have h8 := (h5.mul (Cg.refl b)).in_iff.2 (by rw [show t * a * u * b = (a * b) * (t * u) from ZX.zr]; exact hab.mul _)
  rwa [one_mul] at h8
 ·apply Classical.byContradiction
  intro hc
  obtain ⟨u, hu⟩ := unit_of_single hp he (by omega)
  apply ha
  refine cl.mono.in_iff.1 (In.trans h3 ?_)
  have h5 : Cg p 0 (P d) (P f * u) := by
   have h6 := (hfe.mul (Cg.refl u)).symm
   rw [show P d * P e * u = P d * (P e * u) from ZX.zr] at h6
   have h7 := ((Cg.refl (p := p) (f := 0) (P d)).mul hu).symm.trans h6
   rwa [mul_one] at h7
  exact h5.mono.in_iff.2 (In.pol u)
theorem exists_factor {p : Nat} (hp : Prm p) {f : List Int} (hf : NL p f) (h2 : 2 ≤ f.length) (hD : ¬ Dom p (P f)) : ∃ g : List Int, NL p g ∧ 2 ≤ g.length ∧ 2 * (g.length - 1) ≤ f.length - 1 ∧ In p (P g) (P f) ∧ Dom p (P g) := by
 have dvd1 : ∀ {f d e : List Int}, Cg p 0 (P f) (P d * P e) → In p (P d) (P f) := fun h => h.mono.in_iff.2 (In.pol _)
 have dvd2 : ∀ {f d e : List Int}, Cg p 0 (P f) (P d * P e) → In p (P e) (P f) := fun {f d e} h => h.mono.in_iff.2 (by rw [mul_comm]; exact In.pol _)
 have half : ∃ n, ∃ g : List Int, g.length = n ∧ NL p g ∧ 2 ≤ g.length ∧ In p (P g) (P f) ∧ 2 * (n - 1) ≤ f.length - 1 := by
  obtain ⟨d, e, hd, he, hd2, he2, hlen, h⟩ := split hp hf h2 hD
  by_cases h3 : d.length ≤ e.length
  ·exact ⟨_, d, rfl, hd, hd2, dvd1 h, by omega⟩
  ·exact ⟨_, e, rfl, he, he2, dvd2 h, by omega⟩
 obtain ⟨n, hn⟩ := half
 induction n using Nat.strongRecOn with
 | ind n ih =>
  obtain ⟨g, hgn, hg, hg2, hgf, hle⟩ := hn
  by_cases hDg : Dom p (P g)
  ·exact ⟨g, hg, hg2, by omega, hgf, hDg⟩
  ·obtain ⟨d, e, hd, he, hd2, he2, hlen, h⟩ := split hp hg hg2 hDg
   exact ih d.length (by omega) ⟨d, rfl, hd, hd2, In.trans hgf (dvd1 h), by omega⟩
def ch : Nat → Nat → Nat
 | _, 0 => 1
 | 0, _ + 1 => 0
 | n + 1, k + 1 => ch n (k + 1) + ch n k
theorem ch_zero (n : Nat) : ch n 0 = 1 := by cases n <;> rfl
theorem ch_big : ∀ {n k : Nat}, n < k → ch n k = 0
 | 0, k + 1, _ => rfl
 | n + 1, k + 1, h => by rw [ch, ch_big (n := n) (k := k + 1) (by omega), ch_big (n := n) (k := k) (by omega)]
theorem ch_self : ∀ n : Nat, ch n n = 1
 | 0 => rfl
 | n + 1 => by rw [ch, ch_big (by omega), ch_self n]
theorem ch_mul : ∀ n k : Nat, (k + 1) * ch (n + 1) (k + 1) = (n + 1) * ch n k
 | 0, 0 => rfl
 | 0, k + 1 => by
  rw [ch_big (n := 0) (k := k + 1) (by omega), ch_big (n := 0 + 1) (k := k + 1 + 1) (by omega)]
  omega
 | n + 1, 0 => by
  have h := ch_mul n 0
  rw [ch_zero] at h ⊢
  rw [ch, ch_zero]
  omega
 | n + 1, k + 1 => by
  have h1 := ch_mul n (k + 1)
  have h2 := ch_mul n k
  have e1 : ch (n + 1 + 1) (k + 1 + 1) = ch (n + 1) (k + 1 + 1) + ch (n + 1) (k + 1) := rfl
  have e2 : ch (n + 1) (k + 1) = ch n (k + 1) + ch n k := rfl
  rw [e1, Nat.mul_add, h1]
  have e3 : (k + 1 + 1) * ch (n + 1) (k + 1) = (k + 1) * ch (n + 1) (k + 1) + ch (n + 1) (k + 1) := by rw [Nat.add_mul (k + 1) 1, Nat.one_mul]
  rw [e3, h2, e2]
  grind
theorem ch_dvd {p : Nat} (hp : Prm p) {k : Nat} (h0 : 0 < k) (hk : k < p) : p ∣ ch p k := by
 obtain ⟨n, rfl⟩ : ∃ n, p = n + 1 := ⟨p - 1, by omega⟩
 obtain ⟨j, rfl⟩ : ∃ j, k = j + 1 := ⟨k - 1, by omega⟩
 have h := ch_mul n j
 rcases prm_mul hp (a := j + 1) (b := ch (n + 1) (j + 1)) ⟨_, h⟩ with h1 | h1
 ·have := Nat.le_of_dvd (by omega) h1; omega
 ·exact h1
def hom (c : Nat → Int) : Nat → ZX → ZX → ZX
 | 0, _, _ => C (c 0)
 | n + 1, a, b => C (c 0) * b ^ (n + 1) + a * hom (fun k => c (k + 1)) n a b
theorem hom_add (a b : ZX) : ∀ (n : Nat) (c d : Nat → Int), hom (fun k => c k + d k) n a b = hom c n a b + hom d n a b
 | 0, c, d => by
  show C (c 0 + d 0) = C (c 0) + C (d 0)
  exact ZX.zr
 | n + 1, c, d => by
  have := hom_add a b n (fun k => c (k + 1)) (fun k => d (k + 1))
  simp only [hom, this]
  exact ZX.zr
theorem hom_top (a b : ZX) : ∀ (n : Nat) (c : Nat → Int), c (n + 1) = 0 → hom c (n + 1) a b = b * hom c n a b
 | 0, c, h => by
  simp only [hom, h, pow_one]
  exact ZX.zr
 | n + 1, c, h => by
  rw [hom, hom_top a b n (fun k => c (k + 1)) h]
  show _ = b * (C (c 0) * b ^ (n + 1) + a * hom (fun k => c (k + 1)) n a b)
  rw [pow_succ b (n + 1)]
  exact ZX.zr
theorem binom (a b : ZX) : ∀ n : Nat, (a + b) ^ n = hom (fun k => (ch n k : Int)) n a b
 | 0 => by
  rw [pow_zero]
  rfl
 | n + 1 => by
  have e : (fun k => (ch (n + 1) k : Int)) = fun k => (ch n k : Int) + (match k with | 0 => 0 | k + 1 => (ch n k : Int)) := by
   funext k
   cases k with
   | zero => rw [ch_zero, ch_zero]; rfl
   | succ k => rw [ch]; simp
  rw [e, hom_add, hom_top a b n (fun k => (ch n k : Int)) (by rw [ch_big (by omega)]; rfl), pow_succ, binom a b n]
  have e2 : hom (fun k => (match k with | 0 => 0 | k + 1 => (ch n k : Int) : Int)) (n + 1) a b = a * hom (fun k => (ch n k : Int)) n a b := by
   rw [hom]
   show C 0 * b ^ (n + 1) + a * hom (fun k => (ch n k : Int)) n a b = _
   exact ZX.zr
  rw [e2]
  exact ZX.zr
theorem hom_cg {p : Nat} {f a b : ZX} : ∀ (n : Nat) (c d : Nat → Int), (∀ k, k ≤ n → (p : Int) ∣ c k - d k) → Cg p f (hom c n a b) (hom d n a b)
 | 0, c, d, h => by
  show In p f (C (c 0) - C (d 0))
  rw [show C (c 0) - C (d 0) = C (c 0 - d 0) from ZX.zr]
  exact In.cst (h 0 (Nat.le_refl _))
 | n + 1, c, d, h => by
  have h0 : Cg p f (C (c 0)) (C (d 0)) := by
   show In p f (C (c 0) - C (d 0))
   rw [show C (c 0) - C (d 0) = C (c 0 - d 0) from ZX.zr]
   exact In.cst (h 0 (by omega))
  exact (h0.mul (Cg.refl _)).add ((Cg.refl a).mul (hom_cg n _ _ fun k hk => h (k + 1) (by omega)))
theorem hom_last (a b : ZX) : ∀ n : Nat, hom (fun k => if k = n then 1 else 0) n a b = a ^ n
 | 0 => by
  rw [pow_zero]
  rfl
 | n + 1 => by
  have e : (fun k => if k + 1 = n + 1 then (1 : Int) else 0) = fun k => if k = n then 1 else 0 := by
   funext k
   by_cases h : k = n
   ·rw [if_pos h, if_pos (by omega)]
   ·rw [if_neg h, if_neg (by omega)]
  rw [hom, e, hom_last a b n, if_neg (by omega), pow_succ]
  exact ZX.zr
theorem hom_none (a b : ZX) : ∀ n : Nat, hom (fun _ => 0) n a b = 0
 | 0 => rfl
 | n + 1 => by
  rw [hom, hom_none a b n]
  exact ZX.zr
theorem hom_first (a b : ZX) : ∀ n : Nat, hom (fun k => if k = 0 then 1 else 0) n a b = b ^ n
 | 0 => by
  rw [pow_zero]
  rfl
 | n + 1 => by
  have e : (fun k => if k + 1 = 0 then (1 : Int) else 0) = fun _ => 0 := by
   funext k
   exact if_neg (by omega)
  rw [hom, e, hom_none, if_pos rfl]
  exact ZX.zr
theorem frob_add {p : Nat} (hp : Prm p) {f : ZX} (a b : ZX) : Cg p f ((a + b) ^ p) (a ^ p + b ^ p) := by
 have hp2 := hp.1
 rw [binom, ← hom_last a b p, ← hom_first a b p, ← hom_add]
 refine hom_cg p _ _ fun k hk => ?_
 show (p : Int) ∣ (ch p k : Int) - ((if k = p then 1 else 0) + (if k = 0 then 1 else 0))
 by_cases h0 : k = 0
 ·subst h0
  rw [ch_zero, if_neg (by omega), if_pos rfl]
  exact ⟨0, by omega⟩
 ·by_cases h1 : k = p
  ·subst h1
   rw [ch_self, if_pos rfl, if_neg (by omega)]
   exact ⟨0, by omega⟩
  ·rw [if_neg h1, if_neg h0]
   have := Int.natCast_dvd_natCast.2 (ch_dvd hp (by omega) (by omega : k < p))
   simpa using this
theorem frob_const {p : Nat} (hp : Prm p) {f : ZX} (c : Int) : Cg p f (C c ^ p) (C c) := by
 have e : C c ^ p = C (c ^ p) := ZX.zr
 rw [e]
 show In p f _
 rw [show C (c ^ p) - C c = C (c ^ p - c) from ZX.zr]
 apply In.cst
 have hp2 := hp.1
 obtain ⟨m, hm⟩ : ∃ m, p = m + 1 := ⟨p - 1, by omega⟩
 have hc := Int.emod_nonneg c (show (p : Int) ≠ 0 by omega)
 have h2 : (p : Int) ∣ c - c % p := Int.dvd_self_sub_emod
 have key : ∀ a : Nat, (p : Int) ∣ (a : Int) ^ p - a := by
  intro a
  by_cases ha : p ∣ a
  ·have h1 : (p : Int) ∣ (a : Int) := Int.natCast_dvd_natCast.2 ha
   have h3 : (p : Int) ∣ (a : Int) ^ p := by
    rw [hm, Int.pow_succ, ← hm]
    exact Int.dvd_mul_of_dvd_right h1
   exact Int.dvd_sub h3 h1
  ·have h1 := (one_mod_iff _).1 (fermat hp ha)
   have h3 : (p : Int) ∣ (((a ^ (p - 1) : Nat) : Int) - 1) * a := Int.dvd_mul_of_dvd_left h1
   have e : (((a ^ (p - 1) : Nat) : Int) - 1) * a = (a : Int) ^ p - a := by
    have e2 : (a : Int) ^ p = (a : Int) ^ (p - 1) * a := by
     rw [show p - 1 = m by omega, hm, Int.pow_succ]
    rw [e2, Int.natCast_pow]
    grind
   rwa [e] at h3
 have h3 := key (c % p).toNat
 rw [Int.toNat_of_nonneg hc] at h3
 have h4 : (p : Int) ∣ c ^ p - (c % p) ^ p := by
  have : ∀ n : Nat, (p : Int) ∣ c ^ n - (c % p) ^ n := by
   intro n
   induction n with
   | zero => exact ⟨0, by rw [Int.pow_zero, Int.pow_zero]; omega⟩
   | succ n ih =>
    have := Int.dvd_add (Int.dvd_mul_of_dvd_left (c := c) ih) (Int.dvd_mul_of_dvd_right (b := (c % p) ^ n) h2)
    rwa [show (c ^ n - (c % p) ^ n) * c + (c % p) ^ n * (c - c % p) = c ^ (n + 1) - (c % p) ^ (n + 1) by rw [Int.pow_succ, Int.pow_succ]; grind] at this
  exact this p
 have := Int.dvd_sub (Int.dvd_add h4 h3) h2
 rwa [show c ^ p - (c % p) ^ p + ((c % p) ^ p - c % p) - (c - c % p) = c ^ p - c by omega] at this
def ha : List Int → ZX → ZX
 | [], _ => 0
 | c :: cs, y => C c + y * ha cs y
theorem ha_X : ∀ l, ha l X = P l
 | [] => rfl
 | c :: l => by rw [ha, ha_X l, P_cons]
theorem ha_cg {p : Nat} {f y z : ZX} (h : Cg p f y z) : ∀ l, Cg p f (ha l y) (ha l z)
 | [] => Cg.refl _
 | c :: l => (Cg.refl _).add (h.mul (ha_cg h l))
theorem frob_val {p : Nat} (hp : Prm p) {f : ZX} (y : ZX) : ∀ l, Cg p f (ha l y ^ p) (ha l (y ^ p))
 | [] => by
  have : (0 : ZX) ^ p = 0 := by
   have := hp.1
   rw [show p = p - 1 + 1 by omega, pow_succ]
   exact ZX.zr
  rw [ha, ha, this]
  exact Cg.refl _
 | c :: l => by
  refine (frob_add hp _ _).trans ((frob_const hp c).add ?_)
  rw [mul_pow]
  exact (Cg.refl _).mul (frob_val hp y l)
theorem frob_pow {p : Nat} (hp : Prm p) {f : ZX} (y : ZX) (l : List Int) : ∀ k : Nat, Cg p f (ha l y ^ p ^ k) (ha l (y ^ p ^ k))
 | 0 => by rw [Nat.pow_zero, pow_one, pow_one]; exact Cg.refl _
 | k + 1 => by
  rw [Nat.pow_succ, pow_mul, pow_mul]
  exact ((frob_pow hp y l k).pow p).trans (frob_val hp _ l)
theorem fixed_all {p : Nat} (hp : Prm p) {f : ZX} {k : Nat} (h : Cg p f (X ^ p ^ k) X) (a : ZX) : Cg p f (a ^ p ^ k) a := by
 obtain ⟨l, rfl⟩ := exists_list a
 have h1 := (frob_pow hp (f := f) X l k).trans (ha_cg h l)
 rwa [ha_X] at h1
def dgt (p : Nat) : Nat → Nat → List Int
 | 0, _ => []
 | k + 1, n => if n = 0 then [] else ((n % p : Nat) : Int) :: dgt p k (n / p)
theorem dgt_val {p : Nat} (h2 : 2 ≤ p) : ∀ k n, n ≤ k → hv (dgt p k n) p = n
 | 0, n, h => by
  obtain rfl : n = 0 := by omega
  rfl
 | k + 1, n, h => by
  unfold dgt
  split
  ·rename_i h0; rw [h0]; rfl
  ·rename_i h0
   have h1 : n / p < n := Nat.div_lt_self (by omega) (by omega)
   rw [hv, dgt_val h2 k (n / p) (by omega)]
   have := Nat.mod_add_div n p
   have e : ((n % p : Nat) : Int) + (p : Int) * ((n / p : Nat) : Int) = ((n % p + p * (n / p) : Nat) : Int) := by push_cast; rfl
   rw [e, this]
theorem dgt_ne {p : Nat} {k n : Nat} (h0 : n ≠ 0) (hk : n ≤ k) : dgt p k n ≠ [] := by
 cases k with
 | zero => omega
 | succ k => unfold dgt; rw [if_neg h0]; simp
theorem dgt_nl {p : Nat} (h2 : 2 ≤ p) : ∀ k n, n ≤ k → NL p (dgt p k n)
 | 0, n, h => NL.nil
 | k + 1, n, h => by
  unfold dgt
  split
  ·exact NL.nil
  ·rename_i h0
   have h1 : n / p < n := Nat.div_lt_self (by omega) (by omega)
   have ih := dgt_nl h2 k (n / p) (by omega)
   have hm := Nat.mod_lt n (show 0 < p by omega)
   refine ⟨fun c hc => ?_, ih.2.cons ?_⟩
   ·rcases List.mem_cons.1 hc with rfl | hc
    ·omega
    ·exact ih.1 c hc
   ·by_cases hd : n / p = 0
    ·left
     have := Nat.mod_add_div n p
     rw [hd] at this
     omega
    ·right
     exact dgt_ne hd (by omega)
theorem dgt_len {p : Nat} (h2 : 2 ≤ p) : ∀ k n d, n ≤ k → n < p ^ d → (dgt p k n).length ≤ d
 | 0, n, d, h, hd => by simp [dgt]
 | k + 1, n, d, h, hd => by
  unfold dgt
  split
  ·simp
  ·rename_i h0
   cases d with
   | zero => rw [Nat.pow_zero] at hd; omega
   | succ d =>
    have h1 : n / p < n := Nat.div_lt_self (by omega) (by omega)
    have := dgt_len h2 k (n / p) d (by omega) (Nat.div_lt_of_lt_mul (by rw [Nat.pow_succ] at hd; rwa [Nat.mul_comm] at hd))
    simp only [List.length_cons]
    omega
theorem nl_num {p : Nat} : ∀ {l : List Int}, (∀ c ∈ l, 0 ≤ c ∧ c < p) → 0 ≤ hv l p ∧ hv l p < ((p ^ l.length : Nat) : Int)
 | [], _ => by simp [hv]
 | c :: l, h => by
  have ih := nl_num (l := l) fun d hd => h d (List.mem_cons_of_mem _ hd)
  have hc := h c List.mem_cons_self
  simp only [hv, List.length_cons]
  have h1 : 0 ≤ (p : Int) * hv l p := Int.mul_nonneg (by omega) ih.1
  have h2 : (p : Int) * (hv l p + 1) ≤ (p : Int) * ((p ^ l.length : Nat) : Int) := Int.mul_le_mul_of_nonneg_left (by omega) (by omega)
  have h3 : ((p ^ (l.length + 1) : Nat) : Int) = (p : Int) * ((p ^ l.length : Nat) : Int) := by
   rw [Nat.pow_succ, Nat.mul_comm]; push_cast; rfl
  rw [h3]
  rw [Int.mul_add, Int.mul_one] at h2
  omega
theorem nl_num_zero {p : Nat} : ∀ {m : List Int}, (∀ c ∈ m, 0 ≤ c ∧ c < p) → Nz m → hv m p = 0 → m = []
 | [], _, _, _ => rfl
 | c :: m, hm, nm, h => by
  exfalso
  have ih := nl_num (l := m) fun d hd => hm d (List.mem_cons_of_mem _ hd)
  have hc := hm c List.mem_cons_self
  simp only [hv] at h
  have h1 : 0 ≤ (p : Int) * hv m p := Int.mul_nonneg (by omega) ih.1
  have hc0 : c = 0 := by omega
  have hm0 : (p : Int) * hv m p = 0 := by omega
  have hm1 : hv m p = 0 := by
   rcases Int.mul_eq_zero.1 hm0 with h2 | h2
   ·omega
   ·exact h2
  have := nl_num_zero (m := m) (fun d hd => hm d (List.mem_cons_of_mem _ hd)) nm.tail hm1
  subst this
  subst hc0
  rcases nm with h2 | h2
  ·cases h2
  ·exact h2 rfl
theorem nl_num_inj {p : Nat} : ∀ {l m : List Int}, (∀ c ∈ l, 0 ≤ c ∧ c < p) → (∀ c ∈ m, 0 ≤ c ∧ c < p) → Nz l → Nz m → hv l p = hv m p → l = m
 | [], m, _, hm, _, nm, h => (nl_num_zero hm nm h.symm).symm
 | c :: l, [], hl, _, nl, _, h => nl_num_zero hl nl h
 | c :: l, d :: m, hl, hm, nl, nm, h => by
  have hc := hl c List.mem_cons_self
  have hd := hm d List.mem_cons_self
  simp only [hv] at h
  have hcd : c = d := small_eq (p := p) hc hd ⟨hv m p - hv l p, by rw [Int.mul_sub]; omega⟩
  subst hcd
  have h1 : hv l p = hv m p := Int.eq_of_mul_eq_mul_left (a := (p : Int)) (by omega) (by omega)
  rw [nl_num_inj (fun e he => hl e (List.mem_cons_of_mem _ he)) (fun e he => hm e (List.mem_cons_of_mem _ he)) nl.tail nm.tail h1]
def dg (p n : Nat) : List Int := dgt p n n
theorem dg_nl {p : Nat} (h2 : 2 ≤ p) (n : Nat) : NL p (dg p n) := dgt_nl h2 n n (Nat.le_refl _)
theorem dg_val {p : Nat} (h2 : 2 ≤ p) (n : Nat) : hv (dg p n) p = n := dgt_val h2 n n (Nat.le_refl _)
theorem dg_len {p : Nat} (h2 : 2 ≤ p) {n d : Nat} (h : n < p ^ d) : (dg p n).length ≤ d := dgt_len h2 n n d (Nat.le_refl _) h
theorem dg_num {p : Nat} (h2 : 2 ≤ p) {l : List Int} (hl : NL p l) : dg p (hv l p).toNat = l := by
 have h1 := dg_nl h2 (hv l p).toNat
 refine nl_num_inj h1.1 hl.1 h1.2 hl.2 ?_
 rw [dg_val h2, Int.toNat_of_nonneg (nl_num hl.1).1]
theorem num_lt {p d : Nat} (h2 : 2 ≤ p) {l : List Int} (hl : NL p l) (h : l.length ≤ d) : (hv l p).toNat < p ^ d := by
 have h1 := nl_num hl.1
 have h3 := Nat.pow_le_pow_right (show 0 < p by omega) h
 omega
def prodX : List ZX → ZX
 | [] => 1
 | a :: l => a * prodX l
theorem prodX_perm {l m : List ZX} (h : l.Perm m) : prodX l = prodX m := by
 induction h with
 | nil => rfl
 | cons x _ ih => simp only [prodX, ih]
 | swap x y l => simp only [prodX]; exact ZX.zr
 | trans _ _ h1 h2 => rw [h1, h2]
theorem prodX_cg {p : Nat} {f : ZX} {α : Type} (u v : α → ZX) : ∀ l : List α, (∀ x ∈ l, Cg p f (u x) (v x)) → Cg p f (prodX (l.map u)) (prodX (l.map v))
 | [], _ => Cg.refl _
 | a :: l, h => (h a List.mem_cons_self).mul (prodX_cg u v l fun x hx => h x (List.mem_cons_of_mem _ hx))
theorem prodX_mul {α : Type} (a : ZX) (u : α → ZX) : ∀ l : List α, prodX (l.map fun x => a * u x) = a ^ l.length * prodX (l.map u)
 | [] => by
  rw [List.length_nil, pow_zero]
  exact ZX.zr
 | b :: l => by
  simp only [List.map_cons, prodX, prodX_mul a u l, List.length_cons, pow_succ]
  exact ZX.zr
theorem Dom.not_prod {p : Nat} {f : ZX} (hD : Dom p f) (h1 : ¬ In p f 1) {α : Type} (u : α → ZX) : ∀ l : List α, (∀ x ∈ l, ¬ In p f (u x)) → ¬ In p f (prodX (l.map u))
 | [], _ => h1
 | a :: l, h => fun hc => by
  rcases hD _ _ hc with h2 | h2
  ·exact h a List.mem_cons_self h2
  ·exact Dom.not_prod hD h1 u l (fun x hx => h x (List.mem_cons_of_mem _ hx)) h2
theorem Dom.cancel {p : Nat} {f a b c : ZX} (hD : Dom p f) (ha : ¬ In p f a) (h : Cg p f (a * b) (a * c)) : Cg p f b c := by
 have h1 : In p f (a * (b - c)) := by
  have h2 : In p f (a * b - a * c) := h
  rwa [show a * b - a * c = a * (b - c) from ZX.zr] at h2
 rcases hD _ _ h1 with h2 | h2
 ·exact absurd h2 ha
 ·exact h2
section
variable {p : Nat} (hp : Prm p) {f : List Int} (hf : NL p f) (h2 : 2 ≤ f.length) (hD : Dom p (P f))
include hp hf h2
theorem ne_of_two : f ≠ [] := by have _ := hp; have _ := hf; intro e; rw [e] at h2; simp at h2
theorem in_nf {l : List Int} (hl : NL p l) (hlen : l.length < f.length) (h : In p (P f) (P l)) : l = [] :=
 nf_unique hp hf (ne_of_two hp hf h2) hl NL.nil hlen (by simp only [List.length_nil]; omega) (by rw [P_nil]; exact Cg.of_in h)
include hD
theorem field_fermat {a : ZX} (ha : ¬ In p (P f) a) : Cg p (P f) (a ^ (p ^ (f.length - 1) - 1)) 1 := by
 have hp2 := hp.1
 have hne := ne_of_two hp hf h2
 have hex : ∀ i : Nat, ∃ r : List Int, NL p r ∧ r.length < f.length ∧ Cg p (P f) (P r) (a * P (dg p i)) := fun i => exists_nf hp hf hne _
 let φ : Nat → Nat := fun i => (hv (Classical.choose (hex i)) p).toNat
 have hφ : ∀ i, Cg p (P f) (P (dg p (φ i))) (a * P (dg p i)) := by
  intro i
  obtain ⟨h1, h3, h4⟩ := Classical.choose_spec (hex i)
  show Cg p (P f) (P (dg p (hv (Classical.choose (hex i)) p).toNat)) _
  rw [dg_num hp2 h1]
  exact h4
 have hlt : ∀ i, φ i < p ^ (f.length - 1) := by
  intro i
  obtain ⟨h1, h3, h4⟩ := Classical.choose_spec (hex i)
  exact num_lt hp2 h1 (by omega)
 have hnz : ∀ i, 1 ≤ i → i < p ^ (f.length - 1) → ¬ In p (P f) (P (dg p i)) := by
  intro i h1 h3 hc
  have h4 := in_nf hp hf h2 (dg_nl hp2 i) (by have := dg_len hp2 h3; omega) hc
  have h5 := dg_val hp2 i
  rw [h4] at h5
  simp [hv] at h5
  omega
 have hpos : 0 < p ^ (f.length - 1) := Nat.pow_pos (by omega)
 have hperm := perm_map_self (l := List.range' 1 (p ^ (f.length - 1) - 1)) (List.nodup_range' (step := 1)) φ
  (fun i hi => by
   rw [List.mem_range'_1] at hi ⊢
   have h3 := hlt i
   refine ⟨?_, by omega⟩
   rcases Nat.eq_zero_or_pos (φ i) with h4 | h4
   ·exfalso
    have h5 := hφ i
    rw [h4] at h5
    have h6 : In p (P f) (a * P (dg p i)) := h5.in_iff.1 (by rw [show P (dg p 0) = 0 from rfl]; exact In.zero)
    rcases hD _ _ h6 with h7 | h7
    ·exact ha h7
    ·exact hnz i hi.1 (by omega) h7
   ·exact h4)
  (fun i hi j hj e => by
   rw [List.mem_range'_1] at hi hj
   have h3 := hφ i
   rw [e] at h3
   have h4 := hD.cancel ha (h3.symm.trans (hφ j))
   have h5 := nf_unique hp hf hne (dg_nl hp2 i) (dg_nl hp2 j) (by have := dg_len hp2 (show i < p ^ (f.length - 1) by omega); omega) (by have := dg_len hp2 (show j < p ^ (f.length - 1) by omega); omega) h4
   have h6 := dg_val hp2 i
   rw [h5, dg_val hp2 j] at h6
   omega)
 have h3 := prodX_perm (hperm.map fun i => P (dg p i))
 rw [List.map_map] at h3
 have h4 := prodX_cg (p := p) (f := P f) ((fun i => P (dg p i)) ∘ φ) (fun i => a * P (dg p i)) (List.range' 1 (p ^ (f.length - 1) - 1)) fun i _ => hφ i
 rw [h3, prodX_mul, List.length_range'] at h4
 have h5 := hD.not_prod (not_in_one hp hf h2) (fun i => P (dg p i)) (List.range' 1 (p ^ (f.length - 1) - 1)) fun i hi => by
  rw [List.mem_range'_1] at hi
  exact hnz i hi.1 (by omega)
 refine hD.cancel h5 ?_
 rw [mul_one, mul_comm]
 exact h4.symm
theorem field_frob (a : ZX) : Cg p (P f) (a ^ p ^ (f.length - 1)) a := by
 have hpos : 0 < p ^ (f.length - 1) := Nat.pow_pos (prm_pos hp)
 have e : a ^ p ^ (f.length - 1) = a ^ (p ^ (f.length - 1) - 1) * a := by rw [← pow_succ, show p ^ (f.length - 1) - 1 + 1 = p ^ (f.length - 1) by omega]
 rw [e]
 by_cases ha : In p (P f) a
 ·have h3 : Cg p (P f) a 0 := Cg.of_in ha
  refine ((Cg.refl _).mul h3).trans ?_
  rw [show a ^ (p ^ (f.length - 1) - 1) * 0 = 0 from ZX.zr]
  exact h3.symm
 ·have h3 := (field_fermat hp hf h2 hD ha).mul (Cg.refl a)
  rwa [one_mul] at h3
end
def ev : List ZX → ZX → ZX
 | [], _ => 0
 | c :: cs, y => c + y * ev cs y
def xaddmul : List ZX → ZX → List ZX → List ZX
 | as, _, [] => as
 | [], _, _ => []
 | a :: as, r, b :: bs => (a + r * b) :: xaddmul as r bs
def xsd : List ZX → ZX → List ZX
 | [], _ => []
 | _ :: cs, r => xaddmul cs r (xsd cs r)
theorem xaddmul_ev (r x : ZX) : ∀ (as bs : List ZX), bs.length ≤ as.length → ev (xaddmul as r bs) x = ev as x + r * ev bs x
 | as, [], _ => by
  have e : xaddmul as r [] = as := by cases as <;> rfl
  rw [e]
  show ev as x = ev as x + r * 0
  exact ZX.zr
 | [], b :: bs, h => by simp at h
 | a :: as, b :: bs, h => by
  simp only [xaddmul, ev]
  rw [xaddmul_ev r x as bs (by simpa using h)]
  exact ZX.zr
theorem xaddmul_len (r : ZX) : ∀ (as bs : List ZX), bs.length ≤ as.length → (xaddmul as r bs).length = as.length
 | as, [], _ => by cases as <;> simp [xaddmul]
 | [], b :: bs, h => by simp at h
 | a :: as, b :: bs, h => by simp only [xaddmul, List.length_cons]; rw [xaddmul_len r as bs (by simpa using h)]
theorem xsd_len (r : ZX) : ∀ cs : List ZX, (xsd cs r).length = cs.length - 1
 | [] => rfl
 | c :: cs => by
  rw [xsd, xaddmul_len r cs _ (by rw [xsd_len r cs]; omega)]
  simp
theorem xsd_ev (r x : ZX) : ∀ cs : List ZX, ev cs x - ev cs r = (x - r) * ev (xsd cs r) x
 | [] => by
  show (0 : ZX) - 0 = (x - r) * 0
  exact ZX.zr
 | c :: cs => by
  have h := xsd_ev r x cs
  simp only [ev, xsd]
  rw [xaddmul_ev r x cs _ (by rw [xsd_len]; omega)]
  have e : (x - r) * (ev cs x + r * ev (xsd cs r) x) = (x - r) * ev cs x + r * ((x - r) * ev (xsd cs r) x) := ZX.zr
  rw [e, ← h]
  exact ZX.zr
theorem xaddmul_monic (r : ZX) : ∀ (as bs : List ZX), bs.length ≤ as.length → ∃ as', xaddmul (as ++ [1]) r bs = as' ++ [1] ∧ as'.length = as.length
 | as, [], _ => ⟨as, by cases as <;> simp [xaddmul], rfl⟩
 | [], b :: bs, h => by simp at h
 | a :: as, b :: bs, h => by
  obtain ⟨as', h1, h2⟩ := xaddmul_monic r as bs (by simpa using h)
  exact ⟨(a + r * b) :: as', by simp only [List.cons_append, xaddmul, h1], by simp [h2]⟩
theorem field_roots {p : Nat} {f : ZX} (hD : Dom p f) (h1f : ¬ In p f 1) : ∀ (as rs : List ZX), rs.Pairwise (fun a b => ¬ In p f (a - b)) → (∀ r ∈ rs, In p f (ev (as ++ [1]) r)) → rs.length ≤ as.length
 | [], [], _, _ => Nat.le_refl _
 | [], r :: rs, _, h => by
  have h1 := h r List.mem_cons_self
  rw [show ev ([] ++ [1]) r = 1 from by show (1 : ZX) + r * 0 = 1; exact ZX.zr] at h1
  exact absurd h1 h1f
 | a :: as, [], _, _ => Nat.zero_le _
 | a :: as, r :: rs, hd, h => by
  obtain ⟨as', h1, h2⟩ := xaddmul_monic r as (xsd (as ++ [1]) r) (by rw [xsd_len]; simp)
  have hq : xsd (a :: as ++ [1]) r = as' ++ [1] := h1
  have hr := h r List.mem_cons_self
  have hpw := List.pairwise_cons.1 hd
  have := field_roots hD h1f as' rs hpw.2 fun s hs => by
   have h3 := h s (List.mem_cons_of_mem _ hs)
   have h4 : In p f ((s - r) * ev (as' ++ [1]) s) := by
    rw [← hq, ← xsd_ev]
    exact h3.sub hr
   rcases hD _ _ h4 with h5 | h5
   ·exfalso
    apply hpw.1 s hs
    have := h5.neg
    rwa [show -(s - r) = r - s from ZX.zr] at this
   ·exact h5
  simp only [List.length_cons]
  omega
theorem ev_append (y : ZX) : ∀ as bs : List ZX, ev (as ++ bs) y = ev as y + y ^ as.length * ev bs y
 | [], bs => by
  rw [List.length_nil, pow_zero]
  show ev bs y = 0 + 1 * ev bs y
  exact ZX.zr
 | a :: as, bs => by
  rw [List.cons_append, ev, ev_append y as bs, List.length_cons, pow_succ, ev]
  exact ZX.zr
theorem ev_zeros (y : ZX) : ∀ n : Nat, ev (List.replicate n 0) y = 0
 | 0 => rfl
 | n + 1 => by
  rw [List.replicate_succ, ev, ev_zeros y n]
  exact ZX.zr
theorem ev_one (y : ZX) : ev [1] y = 1 := by show (1 : ZX) + y * 0 = 1; exact ZX.zr
section
variable {p : Nat} (hp : Prm p) {f : List Int} (hf : NL p f) (h2 : 2 ≤ f.length) (hD : Dom p (P f))
include hp hf h2 hD
theorem roots_num (as : List ZX) (ns : List Nat) (hnd : ns.Nodup) (hlt : ∀ n ∈ ns, n < p ^ (f.length - 1)) (hr : ∀ n ∈ ns, In p (P f) (ev (as ++ [1]) (P (dg p n)))) : ns.length ≤ as.length := by
 have hp2 := hp.1
 have h := field_roots hD (not_in_one hp hf h2) as (ns.map fun n => P (dg p n)) (by
  rw [List.pairwise_map]
  refine List.Pairwise.imp_of_mem (fun {a b} ha hb hab hc => hab ?_) hnd
  have h5 := nf_unique hp hf (ne_of_two hp hf h2) (dg_nl hp2 a) (dg_nl hp2 b) (by have := dg_len hp2 (hlt a ha); omega) (by have := dg_len hp2 (hlt b hb); omega) hc
  have h6 := dg_val hp2 a
  rw [h5, dg_val hp2 b] at h6
  omega) (fun r hrm => by
  obtain ⟨n, hn, rfl⟩ := List.mem_map.1 hrm
  exact hr n hn)
 rwa [List.length_map] at h
theorem not_fixed {i : Nat} (h1 : 1 ≤ i) (hi : i < f.length - 1) : ¬ Cg p (P f) (X ^ p ^ i) X := by
 intro hc
 have hp2 := hp.1
 have hpi : p ^ 1 ≤ p ^ i := Nat.pow_le_pow_right (by omega) h1
 rw [Nat.pow_one] at hpi
 have hall := fixed_all hp hc
 have h := roots_num hp hf h2 hD (([0, -1] : List ZX) ++ List.replicate (p ^ i - 2) 0) (List.range (p ^ (f.length - 1))) List.nodup_range (fun n hn => List.mem_range.1 hn) (fun n _ => by
  rw [ev_append, ev_append, ev_zeros, ev_one, List.length_append, List.length_replicate, show ([0, -1] : List ZX).length + (p ^ i - 2) = p ^ i by simp only [List.length_cons, List.length_nil]; omega]
  have e : ev ([0, -1] : List ZX) (P (dg p n)) = - P (dg p n) := by
   show (0 : ZX) + P (dg p n) * (-1 + P (dg p n) * 0) = _
   exact ZX.zr
  rw [e]
  have h3 : In p (P f) (P (dg p n) ^ p ^ i - P (dg p n)) := hall _
  have h4 : ∀ Q : ZX, -P (dg p n) + P (dg p n) ^ ([0, -1] : List ZX).length * 0 + Q * 1 = Q - P (dg p n) := fun Q => by
   show -P (dg p n) + P (dg p n) ^ 2 * 0 + Q * 1 = Q - P (dg p n)
   exact ZX.zr
  rw [h4]
  exact h3)
 rw [List.length_range, List.length_append, List.length_replicate] at h
 simp only [List.length_cons, List.length_nil] at h
 have h3 : p ^ i < p ^ (f.length - 1) := Nat.pow_lt_pow_right (by omega) hi
 omega
theorem field_pass {i : Nat} (h1 : 1 ≤ i) (hi : i < f.length - 1) {d : List Int} (hd : NL p d) (hd2 : 2 ≤ d.length) (hdf : In p (P d) (P f)) : ¬ In p (P d) (X ^ p ^ i - X) := by
 intro hc
 obtain ⟨x, e0, he0⟩ := hdf
 obtain ⟨e, he, ce⟩ := exists_nl (prm_pos hp) e0
 have hfe : Cg p 0 (P f) (P d * P e) := by
  have h5 : Cg p 0 (P f) (P d * e0) := by
   show In p 0 _
   rw [he0, show C p * x + P d * e0 - P d * e0 = C p * x from ZX.zr]
   exact In.num x
  exact h5.trans ((Cg.refl _).mul ce.symm)
 obtain ⟨hd0, he1, hlen⟩ := len_mul hp hf hd he (ne_of_two hp hf h2) hfe
 rcases hD _ _ (hfe.mono.in_iff.1 In.self) with h3 | h3
 ·exact not_fixed hp hf h2 hD h1 hi (In.trans hc h3)
 ·exact he1 (in_nf hp hf h2 he (by omega) h3)
end
theorem not_field {p : Nat} (hp : Prm p) {f : List Int} (hf : NL p f) (h2 : 2 ≤ f.length) (hD : ¬ Dom p (P f)) :
  ∃ (d : List Int) (k : Nat), NL p d ∧ 2 ≤ d.length ∧ In p (P d) (P f) ∧ 1 ≤ k ∧ 2 * k ≤ f.length - 1 ∧ In p (P d) (X ^ p ^ k - X) ∧ (Cg p (P f) (X ^ p ^ (f.length - 1)) X → k ∣ f.length - 1) := by
 obtain ⟨g, hg, hg2, hle, hgf, hDg⟩ := exists_factor hp hf h2 hD
 refine ⟨g, g.length - 1, hg, hg2, hgf, by omega, hle, field_frob hp hg hg2 hDg X, fun hx => ?_⟩
 have h3 : Cg p (P g) (X ^ p ^ (f.length - 1)) X := hx.down hgf
 have hit : ∀ q : Nat, Cg p (P g) (X ^ p ^ ((g.length - 1) * q)) X := by
  intro q
  induction q with
  | zero => rw [Nat.mul_zero, Nat.pow_zero, pow_one]; exact Cg.refl _
  | succ q ih =>
   rw [Nat.mul_succ, Nat.pow_add, pow_mul]
   exact (ih.pow _).trans (field_frob hp hg hg2 hDg X)
 have h4 := Nat.div_add_mod (f.length - 1) (g.length - 1)
 have h5 : Cg p (P g) (X ^ p ^ ((f.length - 1) % (g.length - 1))) X := by
  have h6 := (hit ((f.length - 1) / (g.length - 1))).pow (p ^ ((f.length - 1) % (g.length - 1)))
  rw [← pow_mul, ← Nat.pow_add, h4] at h6
  exact h6.symm.trans h3
 have hlt := Nat.mod_lt (f.length - 1) (show 0 < g.length - 1 by omega)
 rcases Nat.eq_zero_or_pos ((f.length - 1) % (g.length - 1)) with h6 | h6
 ·exact Nat.dvd_of_mod_eq_zero h6
 ·exact absurd h5 (not_fixed hp hg hg2 hDg h6 hlt)
end Go.Proofs.YtillaipaanancaaGreat.M
end
section
namespace Go.Proofs.YtillaipaanancaaGreat.M
set_option linter.unusedVariables false
set_option linter.unusedSimpArgs false
namespace ZX
theorem Cg.one_pow {p : Nat} {f t : ZX} (h : Cg p f t 1) (n : Nat) : Cg p f (t ^ n) 1 := by
 have := h.pow n
 rwa [ZX.one_pow] at this
end ZX
end Go.Proofs.YtillaipaanancaaGreat.M
end
section
namespace Go.Proofs.YtillaipaanancaaGreat.M
set_option linter.unusedVariables false
set_option linter.unusedSimpArgs false
namespace ZX
def IsOrd (p : Nat) (f A : ZX) (k : Nat) : Prop := 1 ≤ k ∧ Cg p f (A ^ k) 1 ∧ ∀ j, 1 ≤ j → j < k → ¬ Cg p f (A ^ j) 1
section
variable {p : Nat} {f A : ZX}
theorem pow_mod_one {k : Nat} (h : Cg p f (A ^ k) 1) (m : Nat) : Cg p f (A ^ m) (A ^ (m % k)) := by
 have e : A ^ m = (A ^ k) ^ (m / k) * A ^ (m % k) := by rw [← pow_mul, ← pow_add, Nat.div_add_mod]
 rw [e]
 exact ((Cg.one_pow h _).mul (Cg.refl _)).trans (Cg.of_eq (one_mul _))
theorem IsOrd.dvd_iff {k : Nat} (h : IsOrd p f A k) (m : Nat) : Cg p f (A ^ m) 1 ↔ k ∣ m := by
 constructor
 ·intro hm
  have h1 := (pow_mod_one h.2.1 m).symm.trans hm
  refine Nat.dvd_of_mod_eq_zero (Classical.byContradiction fun h0 => h.2.2 (m % k) (by omega) (Nat.mod_lt _ h.1) h1)
 ·rintro ⟨c, rfl⟩
  rw [pow_mul]
  exact Cg.one_pow h.2.1 c
theorem IsOrd.unique {k m : Nat} (h : IsOrd p f A k) (h' : IsOrd p f A m) : k = m :=
 Nat.dvd_antisymm ((h.dvd_iff m).1 h'.2.1) ((h'.dvd_iff k).1 h.2.1)
end
end ZX
end Go.Proofs.YtillaipaanancaaGreat.M
end
section
namespace Go.Proofs.YtillaipaanancaaGreat.M
open ZX
set_option linter.unusedVariables false
set_option linter.unusedSimpArgs false
theorem P_set : ∀ (l : List Int) (i : Nat) (v : Int), i < l.length → P (l.set i v) = P l + X ^ i * C (v - l.getD i 0)
 | [], i, v, h => by simp at h
 | c :: l, 0, v, h => by
  rw [List.set_cons_zero, P_cons, P_cons, List.getD_cons_zero]
  exact ZX.zr
 | c :: l, i + 1, v, h => by
  have ih := P_set l i v (by simpa using h)
  rw [List.set_cons_succ, P_cons, P_cons, List.getD_cons_succ, ih]
  exact ZX.zr
theorem P_take_succ (l : List Int) (i : Nat) (h : i < l.length) : P (l.take (i + 1)) = P (l.take i) + X ^ i * C (l.getD i 0) := by
 rw [List.take_succ_eq_append_getElem h, P_snoc, List.length_take, Nat.min_eq_left (by omega), List.getD_eq_getElem?_getD, List.getElem?_eq_getElem h, Option.getD_some]
theorem getD_set (l : List Int) (i j : Nat) (v : Int) (h : i < l.length) : (l.set i v).getD j 0 = if i = j then v else l.getD j 0 := by
 rw [List.getD_eq_getElem?_getD, List.getD_eq_getElem?_getD, List.getElem?_set]
 split
 ·rename_i e; subst e; simp [h]
 ·rfl
theorem getD_take (l : List Int) (n j : Nat) : (l.take n).getD j 0 = if j < n then l.getD j 0 else 0 := by
 rw [List.getD_eq_getElem?_getD, List.getD_eq_getElem?_getD, List.getElem?_take]
 split <;> rfl
theorem getD_zeros (n j : Nat) : (List.replicate n (0 : Int)).getD j 0 = 0 := by
 rw [List.getD_eq_getElem?_getD, List.getElem?_replicate]
 split <;> rfl
theorem cg_of_getD {p : Nat} {f : ZX} {l m : List Int} (h : ∀ i, (p : Int) ∣ l.getD i 0 - m.getD i 0) : Cg p f (P l) (P m) := by
 have e : P l - P m = P (ladd l (m.map ((-1) * ·))) := by
  rw [P_ladd, P_scale]
  exact ZX.zr
 show In p f (P l - P m)
 rw [e]
 refine In.mono (in_zero_iff.2 fun i => ?_)
 rw [getD_ladd]
 have h5 : (m.map ((-1) * ·)).getD i 0 = - m.getD i 0 := by
  rw [List.getD_eq_getElem?_getD, List.getD_eq_getElem?_getD, List.getElem?_map]
  cases m[i]? with
  | none => rfl
  | some v => show -1 * v = - v; omega
 rw [h5, ← Int.sub_eq_add_neg]
 exact h i
theorem hv_none : ∀ (l : List Int), (∀ i, l.getD i 0 = 0) → ∀ x, hv l x = 0
 | [], _, x => rfl
 | c :: l, h, x => by
  have h0 := h 0
  rw [List.getD_cons_zero] at h0
  show c + x * hv l x = 0
  rw [hv_none l (fun i => by have := h (i + 1); rwa [List.getD_cons_succ] at this) x, h0]
  simp
theorem P_of_getD {l m : List Int} (h : ∀ i, l.getD i 0 = m.getD i 0) : P l = P m := by
 refine ZX.ext fun x => ?_
 have h2 := hv_none (ladd l (m.map ((-1) * ·))) (fun i => by
  rw [getD_ladd, h i]
  have h5 : (m.map ((-1) * ·)).getD i 0 = - m.getD i 0 := by
   rw [List.getD_eq_getElem?_getD, List.getD_eq_getElem?_getD, List.getElem?_map]
   cases m[i]? with
   | none => rfl
   | some v => show -1 * v = - v; omega
  rw [h5]; omega) x
 rw [hv_ladd, hv_scale] at h2
 show hv l x = hv m x
 omega
theorem tr_snoc_zero : ∀ l : List Int, tr (l ++ [0]) = tr l
 | [] => by simp [tr]
 | c :: l => by
  have ih := tr_snoc_zero l
  rw [List.cons_append, tr, tr, ih]
theorem tr_snoc_ne (l : List Int) {c : Int} (h : c ≠ 0) : tr (l ++ [c]) = l ++ [c] := tr_of_nz (.inr (by simpa using h))
theorem tr_short {l : List Int} {n : Nat} (h : ∀ j, n ≤ j → l.getD j 0 = 0) : (tr l).length ≤ n := by
 rw [← Nat.not_lt]
 intro hc
 rcases tr_nz l with e | e
 ·rw [e] at hc; simp at hc
 ·have h1 : (tr l).getD ((tr l).length - 1) 0 = l.getD ((tr l).length - 1) 0 := P_getD (P_tr l) _
  rw [h1, h _ (by omega)] at e
  exact e rfl
theorem tr_nl {p : Nat} {l : List Int} (h : ∀ j, j < l.length → 0 ≤ l.getD j 0 ∧ l.getD j 0 < p) : NL p (tr l) := NL.tr fun c hc => by
 obtain ⟨i, hi, rfl⟩ := List.mem_iff_getElem.1 hc
 have := h i hi
 rwa [List.getD_eq_getElem?_getD, List.getElem?_eq_getElem hi, Option.getD_some] at this
open Classical in
noncomputable def nf (p : Nat) (a : ZX) : List Int := if h : ∃ l, NL p l ∧ Cg p 0 (P l) a then h.choose else []
open Classical in
noncomputable def rm (p : Nat) (g : List Int) (a : ZX) : List Int := if h : ∃ r, NL p r ∧ r.length < g.length ∧ Cg p (P g) (P r) a then h.choose else []
theorem nf_spec {p : Nat} (hp : 0 < p) (a : ZX) : NL p (nf p a) ∧ Cg p 0 (P (nf p a)) a := by
 unfold nf
 rw [dif_pos (exists_nl hp a)]
 exact (exists_nl hp a).choose_spec
theorem nf_eq {p : Nat} (hp : 0 < p) {l : List Int} {a : ZX} (h : NL p l) (h2 : Cg p 0 (P l) a) : l = nf p a := nl_unique hp h (nf_spec hp a).1 (h2.trans (nf_spec hp a).2.symm)
theorem nf_cg {p : Nat} (hp : 0 < p) {a b : ZX} (h : Cg p 0 a b) : nf p a = nf p b := nf_eq hp (nf_spec hp a).1 ((nf_spec hp a).2.trans h)
theorem nf_len {p n : Nat} (hp : 0 < p) {l : List Int} (h : l.length ≤ n) : (nf p (P l)).length ≤ n := by
 have : nrm p l = nf p (P l) := nf_eq hp (nrm_nl hp l) (nrm_cg p 0 l)
 rw [← this]
 have := nrm_len p l
 omega
theorem nf_dg {p n : Nat} (hp : 0 < p) {a : ZX} (h : Dg n a) : (nf p a).length ≤ n := by
 obtain ⟨l, h1, rfl⟩ := h
 exact nf_len hp h1
theorem rm_spec {p : Nat} (hp : Prm p) {g : List Int} (hg : NL p g) (hne : g ≠ []) (a : ZX) : NL p (rm p g a) ∧ (rm p g a).length < g.length ∧ Cg p (P g) (P (rm p g a)) a := by
 unfold rm
 rw [dif_pos (exists_nf hp hg hne a)]
 exact (exists_nf hp hg hne a).choose_spec
theorem rm_eq {p : Nat} (hp : Prm p) {g : List Int} (hg : NL p g) (hne : g ≠ []) {r : List Int} {a : ZX} (h : NL p r) (h1 : r.length < g.length) (h2 : Cg p (P g) (P r) a) : r = rm p g a :=
 nf_unique hp hg hne h (rm_spec hp hg hne a).1 h1 (rm_spec hp hg hne a).2.1 (h2.trans (rm_spec hp hg hne a).2.2.symm)
theorem rm_cg {p : Nat} (hp : Prm p) {g : List Int} (hg : NL p g) (hne : g ≠ []) {a b : ZX} (h : Cg p (P g) a b) : rm p g a = rm p g b :=
 rm_eq hp hg hne (rm_spec hp hg hne a).1 (rm_spec hp hg hne a).2.1 ((rm_spec hp hg hne a).2.2.trans h)
theorem NL.lead {p : Nat} (hp : Prm p) {g : List Int} (hg : NL p g) (hne : g ≠ []) : 0 < g.getD (g.length - 1) 0 ∧ g.getD (g.length - 1) 0 < p := by
 have h1 := hg.getD (prm_pos hp) (g.length - 1)
 rcases hg.2 with e | e
 ·exact absurd e hne
 ·omega
def Res (p : Nat) (l : List Int) : Prop := ∀ i, 0 ≤ l.getD i 0 ∧ l.getD i 0 < p
theorem NL.res {p : Nat} (hp : 0 < p) {l : List Int} (h : NL p l) : Res p l := fun i => h.getD hp i
theorem Res.zeros {p : Nat} (hp : 0 < p) (n : Nat) : Res p (List.replicate n 0) := fun i => by rw [getD_zeros]; omega
theorem Res.set {p : Nat} {l : List Int} (h : Res p l) {i : Nat} {v : Int} (hi : i < l.length) (h0 : 0 ≤ v) (h1 : v < p) : Res p (l.set i v) := fun j => by
 rw [getD_set _ _ _ _ hi]
 split
 ·exact ⟨h0, h1⟩
 ·exact h j
theorem Res.take {p : Nat} (hp : 0 < p) {l : List Int} (h : Res p l) (n : Nat) : Res p (l.take n) := fun j => by
 rw [getD_take]
 split
 ·exact h j
 ·omega
theorem Res.tr {p : Nat} {l : List Int} (h : Res p l) : NL p (tr l) := tr_nl fun j _ => h j
theorem Cg.num {p : Nat} {f : ZX} {s t : Int} (h : (p : Int) ∣ s - t) : Cg p f (C s) (C t) := by
 show In p f (C s - C t)
 rw [show C s - C t = C (s - t) from ZX.zr]
 exact In.cst h
theorem emod_dvd (p : Nat) (x : Int) : (p : Int) ∣ x % p - x := by
 have h := Int.mul_ediv_add_emod x p
 exact ⟨- (x / p), by rw [Int.mul_neg]; omega⟩
theorem mul_step {p : Nat} {a b l : List Int} {i j : Nat} (hj : j < b.length) (hi : i + j < l.length) (h : Cg p 0 (P l) (P (a.take i) * P b + X ^ i * (C (a.getD i 0) * P (b.take j)))) :
  Cg p 0 (P (l.set (i + j) ((l.getD (i + j) 0 + a.getD i 0 * b.getD j 0) % p))) (P (a.take i) * P b + X ^ i * (C (a.getD i 0) * P (b.take (j + 1)))) := by
 rw [P_set _ _ _ hi, P_take_succ _ _ hj]
 have h1 : Cg p 0 (C ((l.getD (i + j) 0 + a.getD i 0 * b.getD j 0) % p - l.getD (i + j) 0)) (C (a.getD i 0 * b.getD j 0)) := Cg.num (by
  have := emod_dvd p (l.getD (i + j) 0 + a.getD i 0 * b.getD j 0)
  rwa [show ∀ v x y : Int, v - x - y = v - (x + y) from fun v x y => by omega])
 refine (h.add ((Cg.refl (X ^ (i + j))).mul h1)).trans (Cg.of_eq ?_)
 rw [ZX.pow_add]
 exact ZX.zr
theorem mul_next {p : Nat} {a b l : List Int} {i : Nat} (hi : i < a.length) (h : Cg p 0 (P l) (P (a.take i) * P b + X ^ i * (C (a.getD i 0) * P (b.take b.length)))) : Cg p 0 (P l) (P (a.take (i + 1)) * P b) := by
 rw [List.take_length] at h
 rw [P_take_succ _ _ hi]
 exact h.trans (Cg.of_eq ZX.zr)
structure DivI (p : Nat) (a g q r : List Int) (t : Nat) : Prop where
 lenr : r.length = a.length
 lenq : q.length + g.length = a.length + 1
 resq : Res p q
 resr : Res p r
 zq : ∀ i, i < t → q.getD i 0 = 0
 zr : ∀ i, t + g.length ≤ i + 1 → r.getD i 0 = 0
 cg : Cg p 0 (P a) (P g * P q + P r)
structure DivJ (p : Nat) (g r0 r : List Int) (s : Nat) (c : Int) (j : Nat) : Prop where
 len : r.length = r0.length
 res : Res p r
 same : ∀ i, s + j ≤ i → r.getD i 0 = r0.getD i 0
 top : j = g.length → r.getD (s + g.length - 1) 0 = 0
 cg : Cg p 0 (P r) (P r0 - X ^ s * (C c * P (g.take j)))
theorem DivI.start {p : Nat} (hp : 0 < p) {a g : List Int} (ha : NL p a) (hg : 0 < g.length) (h : g.length ≤ a.length) : DivI p a g (List.replicate (a.length - g.length + 1) 0) a (a.length - g.length + 1) where
 lenr := rfl
 lenq := by rw [List.length_replicate]; omega
 resq := Res.zeros hp _
 resr := ha.res hp
 zq := fun i _ => getD_zeros _ _
 zr := fun i hi => getD_of_len (by omega)
 cg := by
  rw [P_zeros]
  exact Cg.of_eq ZX.zr
theorem DivJ.start {p : Nat} {g r0 : List Int} (s : Nat) (c : Int) (hg : 0 < g.length) (h : Res p r0) : DivJ p g r0 r0 s c 0 where
 len := rfl
 res := h
 same := fun _ _ => rfl
 top := fun h => by omega
 cg := Cg.of_eq (by rw [List.take_zero, P_nil]; exact ZX.zr)
theorem DivJ.step {p : Nat} (hp : 0 < p) {g r0 r : List Int} {s j : Nat} {c : Int} (h : DivJ p g r0 r s c j) (hj : j < g.length) (hs : s + j < r0.length) (hc : (p : Int) ∣ r0.getD (s + g.length - 1) 0 - c * g.getD (g.length - 1) 0) :
  DivJ p g r0 (r.set (s + j) ((r.getD (s + j) 0 - c * g.getD j 0) % p)) s c (j + 1) where
 len := by rw [List.length_set]; exact h.len
 res := h.res.set (by rw [h.len]; exact hs) (Int.emod_nonneg _ (by omega)) (Int.emod_lt_of_pos _ (by omega))
 same := fun i hi => by
  rw [getD_set _ _ _ _ (by rw [h.len]; exact hs), if_neg (by omega)]
  exact h.same i (by omega)
 top := fun e => by
  have e1 : s + g.length - 1 = s + j := by omega
  have e2 : g.length - 1 = j := by omega
  rw [getD_set _ _ _ _ (by rw [h.len]; exact hs), if_pos (by omega), h.same _ (Nat.le_refl _)]
  rw [e1, e2] at hc
  exact Int.emod_eq_zero_of_dvd hc
 cg := by
  rw [P_set _ _ _ (by rw [h.len]; exact hs), P_take_succ _ _ hj]
  have h1 : Cg p 0 (C ((r.getD (s + j) 0 - c * g.getD j 0) % p - r.getD (s + j) 0)) (C (- (c * g.getD j 0))) := Cg.num (by
   have := emod_dvd p (r.getD (s + j) 0 - c * g.getD j 0)
   rwa [show ∀ v x y : Int, v - x - -y = v - (x - y) from fun v x y => by omega])
  refine (h.cg.add ((Cg.refl (X ^ (s + j))).mul h1)).trans (Cg.of_eq ?_)
  rw [ZX.pow_add]
  exact ZX.zr
theorem DivI.next {p : Nat} (hp : 0 < p) {a g q r r' : List Int} {s : Nat} {c : Int} (h : DivI p a g q r (s + 1)) (hg : 0 < g.length) (hs : s < q.length) (h0 : 0 ≤ c) (h1 : c < p) (k : DivJ p g r r' s c g.length) : DivI p a g (q.set s c) r' s where
 lenr := k.len.trans h.lenr
 lenq := by rw [List.length_set]; exact h.lenq
 resq := h.resq.set hs h0 h1
 resr := k.res
 zq := fun i hi => by
  rw [getD_set _ _ _ _ hs, if_neg (by omega)]
  exact h.zq i (by omega)
 zr := fun i hi => by
  rcases Nat.lt_or_ge i (s + g.length) with h2 | h2
  ·have e : i = s + g.length - 1 := by omega
   rw [e]
   exact k.top rfl
  ·rw [k.same i h2]
   exact h.zr i (by omega)
 cg := by
  have e := k.cg
  rw [List.take_length] at e
  rw [P_set _ _ _ hs, h.zq s (by omega)]
  refine h.cg.trans (Cg.symm ?_)
  refine ((Cg.refl (P g * (P q + X ^ s * C (c - 0)))).add e).trans (Cg.of_eq ZX.zr)
theorem top_inv {p : Nat} {x c i l : Int} (hc : c = x * i % p) (hi : (p : Int) ∣ i * l - 1) : (p : Int) ∣ x - c * l := by
 have h1 := emod_dvd p (x * i)
 rw [← hc] at h1
 obtain ⟨u, hu⟩ := hi
 obtain ⟨v, hv⟩ := h1
 exact ⟨- (x * u) - v * l, by
  have e : x - c * l = - (x * (i * l - 1)) - (c - x * i) * l := by grind
  rw [e, hu, hv]
  grind⟩
def DivR (p : Nat) (a g : List Int) (o : List Int × List Int) : Prop := NL p o.1 ∧ NL p o.2 ∧ o.2.length < g.length ∧ o.1.length ≤ a.length ∧ Cg p 0 (P a) (P g * P o.1 + P o.2)
theorem DivI.done {p : Nat} (hp : 0 < p) {a g q r : List Int} (hg : 0 < g.length) (h : DivI p a g q r 0) : DivR p a g (tr q, tr r) := by
 have h1 := tr_len q
 have h2 := h.lenq
 have h3 := tr_short (l := r) (n := g.length - 1) fun j hj => h.zr j (by omega)
 refine ⟨h.resq.tr, h.resr.tr, by show (tr r).length < g.length; omega, by show (tr q).length ≤ a.length; omega, ?_⟩
 show Cg p 0 (P a) (P g * P (tr q) + P (tr r))
 rw [P_tr, P_tr]
 exact h.cg
theorem DivI.cut {p : Nat} {a g q r : List Int} (hg : 0 < g.length) (h : DivI p a g q r 0) : tr (r.take (g.length - 1)) = tr r := by
 have e : ∀ i, (r.take (g.length - 1)).getD i 0 = r.getD i 0 := fun i => by
  rw [getD_take]
  split
  ·rfl
  ·exact (h.zr i (by omega)).symm
 have h1 : NL p (tr (r.take (g.length - 1))) := Res.tr fun i => by rw [e]; exact h.resr i
 exact nl_unique (by have := h.resr 0; omega) h1 h.resr.tr (Cg.of_eq (by rw [P_tr, P_tr, P_of_getD e]))
theorem DivR.short {p : Nat} {a g : List Int} (ha : NL p a) (h : a.length < g.length) : DivR p a g ([], a) := ⟨NL.nil, ha, h, by simp, by
 show Cg p 0 (P a) (P g * P [] + P a)
 rw [P_nil]
 exact Cg.of_eq ZX.zr⟩
theorem DivR.rm {p : Nat} (hp : Prm p) {a g : List Int} (hg : NL p g) {o : List Int × List Int} (h : DivR p a g o) : o.2 = rm p g (P a) := by
 obtain ⟨h1, h2, h3, _, h4⟩ := h
 refine rm_eq hp hg (by intro e; rw [e] at h3; simp at h3) h2 h3 (Cg.symm (h4.mono.trans ?_))
 have : Cg p (P g) (P g * P o.1) 0 := Cg.of_in (In.self.mul _)
 exact (this.add (Cg.refl _)).trans (Cg.of_eq ZX.zr)
end Go.Proofs.YtillaipaanancaaGreat.M
end

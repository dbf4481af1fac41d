/- The pure statement of ResidueSums: the totients of the divisors of n have the sum n, their Moebius values the sum 1 for n = 1 and 0 for greater n, and n is the product of its prime factors, for n up to 100000. No conditions. -/
import Derived.Test.YtmedflaejnbkoaaS10
import Derived.Test.YtmedflaejnbkoaaQF13
namespace Go.Proofs.Ytmedflaejnbkoaa.Pure
open Go.RowKit Go.Proofs.YtmedflaejnbkoaaW.PrintWords Go.Proofs.YtmedflaejnbkoaaW.PrintLast Go.Proofs.YtmedflaejnbkoaaW.PrintMore Go.Proofs.Ytmedflaejnbkoaa.M Go.Proofs.Ytmedflaejnbkoaa.Q
set_option linter.unusedVariables false
set_option linter.unusedSimpArgs false

theorem rdI {L : List Nat} {i : Nat} (h : i < L.length) : rd (toI L) (i : Int) = ((L[i] : Nat) : Int) := by
  unfold rd toI
  rw [Int.toNat_natCast, List.getD_eq_getElem?_getD, List.getElem?_map, List.getElem?_eq_getElem h]
  rfl
theorem rdS {l : List (Nat × Nat)} {i : Nat} (h : i < l.length) : rd_T53 (l.map toS) (i : Int) = toS l[i] := by
  unfold rd_T53
  rw [Int.toNat_natCast, List.getD_eq_getElem?_getD, List.getElem?_map, List.getElem?_eq_getElem h]
  rfl
theorem sums_l1 (N : Nat) (hN : N ≤ 100000) (dv : List Int) (l pre : List (Nat × Nat)) (q : Nat × Nat) (rest : List (Nat × Nat)) (hl : l = pre ++ q :: rest) (hf : FacL l N) (he : q.2 ≤ 20)
    (h : Ev (fun k => galoislaw04_ResidueSums.l0 k (N : Int) dv (l.map toS) ((prodL pre * q.1 ^ q.2 : Nat) : Int) (wrap64 ((pre.length : Int) + 1))) true) : ∀ (d c : Nat), c + d = q.2 →
    Ev (fun k => galoislaw04_ResidueSums.l1 k (N : Int) dv (l.map toS) ((prodL pre * q.1 ^ c : Nat) : Int) (pre.length : Int) (c : Int)) true
  | 0, c, hc => by
    obtain ⟨K, hK⟩ := h
    refine ⟨K + 1, fun k hk => ?_⟩
    obtain ⟨j, rfl, hj⟩ := ex_succ hk
    have h1 := hK j hj
    have hlen : pre.length < l.length := by rw [hl]; simp
    have hg : rd_T53 (l.map toS) (pre.length : Int) = toS q := by rw [hl]; exact rd_at pre q rest
    simp only [galoislaw04_ResidueSums.l1]
    obtain rfl : c = q.2 := by omega
    rw [if_pos (by omega), if_pos (by rw [List.length_map]; omega), hg, toS_f1, if_neg (by omega)]
    exact h1
  | d + 1, c, hc => by
    obtain ⟨K, hK⟩ := sums_l1 N hN dv l pre q rest hl hf he h d (c + 1) (by omega)
    dsimp only at hK
    refine ⟨K + 1, fun k hk => ?_⟩
    obtain ⟨j, rfl, hj⟩ := ex_succ hk
    have h1 := hK j hj
    have hlen : pre.length < l.length := by rw [hl]; simp
    have hg : rd_T53 (l.map toS) (pre.length : Int) = toS q := by rw [hl]; exact rd_at pre q rest
    have hq := hf.prm q (by rw [hl]; simp)
    have hdv : prodL pre * q.1 ^ q.2 ≤ N := by
      refine Nat.le_of_dvd hf.pos ⟨prodL rest, ?_⟩
      rw [← hf.prod, hl, prodL_split, Nat.mul_assoc]
    have hpw : ∀ j, j ≤ q.2 → prodL pre * q.1 ^ j ≤ N := fun j hj => Nat.le_trans (Nat.mul_le_mul_left _ (Nat.pow_le_pow_right (prm_pos hq.1) hj)) hdv
    have h2 := hpw c (by omega)
    have h3 := hpw (c + 1) (by omega)
    have e1 : prodL pre * q.1 ^ c * q.1 = prodL pre * q.1 ^ (c + 1) := by rw [Nat.pow_succ, Nat.mul_assoc]
    simp only [galoislaw04_ResidueSums.l1]
    rw [if_pos (by omega), if_pos (by rw [List.length_map]; omega), hg, toS_f1, toS_f0, if_pos (by omega), if_pos (by omega), ← Int.natCast_mul, e1, wrap_id (x := ((prodL pre * q.1 ^ (c + 1) : Nat) : Int)) (by omega) (by omega), wrap_id (x := (c : Int) + 1) (by omega) (by omega)]
    exact h1
theorem exp20 {l : List (Nat × Nat)} {N : Nat} (hN : N ≤ 100000) (hf : FacL l N) {q : Nat × Nat} (hq : q ∈ l) : q.2 ≤ 20 := by
  rcases Nat.lt_or_ge 20 q.2 with h | h
  · exfalso
    have h1 := Nat.le_of_dvd hf.pos (hf.mem_dvd hq)
    have h2 : 2 ^ 21 ≤ q.1 ^ q.2 := Nat.le_trans (Nat.pow_le_pow_right (by omega) h) (Nat.pow_le_pow_left (hf.prm q hq).1.1 _)
    omega
  · exact h
theorem sums_l0 (N : Nat) (hN : N ≤ 100000) (dv : List Int) (l : List (Nat × Nat)) (hf : FacL l N) (h : Ev (fun k => galoislaw04_ResidueSums.l2 k (N : Int) dv (N : Int) 0 0 0) true) : ∀ (rest pre : List (Nat × Nat)), l = pre ++ rest →
    Ev (fun k => galoislaw04_ResidueSums.l0 k (N : Int) dv (l.map toS) (prodL pre : Int) (pre.length : Int)) true
  | [], pre, hl => by
    obtain ⟨K, hK⟩ := h
    refine ⟨K + 1, fun k hk => ?_⟩
    obtain ⟨j, rfl, hj⟩ := ex_succ hk
    have h1 := hK j hj
    rw [List.append_nil] at hl
    subst hl
    simp only [galoislaw04_ResidueSums.l0]
    rw [if_neg (by simp), hf.prod]
    exact h1
  | q :: rest, pre, hl => by
    have hqm : q ∈ l := by rw [hl]; simp
    have hq := hf.prm q hqm
    have hexp := exp20 hN hf hqm
    have hlen := len_lt hf.prm
    rw [hf.prod] at hlen
    have hlen2 : pre.length < l.length := by rw [hl]; simp
    have hg : rd_T53 (l.map toS) (pre.length : Int) = toS q := by rw [hl]; exact rd_at pre q rest
    have hqN : q.1 ≤ N := Nat.le_of_dvd hf.pos (hf.mem_dvd1 hqm)
    have ih := sums_l0 N hN dv l hf h rest (pre ++ [q]) (by rw [hl, List.append_assoc]; rfl)
    rw [prodL_snoc, List.length_append, List.length_singleton] at ih
    obtain ⟨K, hK⟩ := sums_l1 N hN dv l pre q rest hl hf hexp (by rw [wrap_id (x := (pre.length : Int) + 1) (by omega) (by omega)]; exact ih) q.2 0 (by omega)
    obtain ⟨b, hb, K2, hK2⟩ := IsPrime_prog (n := q.1) (prm_pos hq.1) (by omega)
    dsimp only at hK hK2
    obtain rfl : b = true := hb.2 hq.1
    refine ⟨K + K2 + 2, fun k hk => ?_⟩
    obtain ⟨j, rfl, hj⟩ := ex_succ hk
    obtain ⟨j, rfl, hj⟩ := ex_succ hj
    simp only [galoislaw04_ResidueSums.l0]
    rw [if_pos (by rw [List.length_map]; omega), if_pos (by omega), hg, toS_f0, toS_f1, hK2 _ (by omega), Option.bind_some, if_pos rfl, if_pos rfl, if_neg (by omega), if_neg (by omega)]
    have hj2 : galoislaw04_ResidueSums.j2 (j + 1) (N : Int) dv (l.map toS) (prodL pre : Int) (pre.length : Int) false = some true := by
      simp only [galoislaw04_ResidueSums.j2]
      rw [if_neg (by simp)]
      have := hK j (by omega)
      rw [Nat.pow_zero, Nat.mul_one] at this
      exact this
    by_cases hp : pre.length = 0
    · rw [if_neg (by omega)]
      exact hj2
    · rw [if_pos (by omega), wrap_id (x := (pre.length : Int) - 1) (by omega) (by omega), if_pos (by omega), if_pos (by rw [List.length_map]; omega)]
      have e1 : (pre.length : Int) - 1 = ((pre.length - 1 : Nat) : Int) := by omega
      have e2 : l[pre.length] = q := by simp [hl]
      have hlt := List.pairwise_iff_getElem.1 hf.asc (pre.length - 1) pre.length (by omega) hlen2 (by omega)
      rw [e2] at hlt
      rw [e1, rdS (by omega : pre.length - 1 < l.length), toS_f0, decide_eq_false (by omega)]
      exact hj2
theorem sumZ_nonneg (f : Nat → Int) (h : ∀ x, 0 ≤ f x) : ∀ l : List Nat, 0 ≤ sumZ (l.map f)
  | [] => by simp [sumZ]
  | x :: l => by
    have := sumZ_nonneg f h l
    have := h x
    simp only [List.map_cons, sumZ]
    omega
theorem sumZ_small (f : Nat → Int) (h : ∀ x, -1 ≤ f x ∧ f x ≤ 1) : ∀ l : List Nat, -(l.length : Int) ≤ sumZ (l.map f) ∧ sumZ (l.map f) ≤ (l.length : Int)
  | [] => by simp [sumZ]
  | x :: l => by
    have := sumZ_small f h l
    have := h x
    simp only [List.map_cons, sumZ, List.length_cons]
    omega
theorem sums_l2 (N : Nat) (h0 : 0 < N) (hN : N ≤ 100000) : ∀ (rest pre : List Nat), divs N = pre ++ rest →
    Ev (fun k => galoislaw04_ResidueSums.l2 k (N : Int) (toI (divs N)) (N : Int) (sumZ (pre.map fun x => (phi x : Int))) (sumZ (pre.map moeb)) (pre.length : Int)) true
  | [], pre, hl => by
    refine ⟨1, fun k hk => ?_⟩
    obtain ⟨j, rfl, hj⟩ := ex_succ hk
    rw [List.append_nil] at hl
    have h1 := divs_phi h0
    have h2 := divs_mu h0
    rw [hl] at h1 h2
    simp only [galoislaw04_ResidueSums.l2]
    rw [if_neg (by rw [toI_len, hl]; omega), if_pos trivial, h1, h2, if_pos rfl]
    by_cases e : N = 1
    · subst e; simp
    · rw [if_neg e]
      have e2 : ((N : Int) == 1) = false := beq_eq_false_iff_ne.2 (by omega)
      rw [e2, if_pos (by decide), decide_eq_true (by omega)]
      rfl
  | d :: rest, pre, hl => by
    have hlen := divs_len h0
    have hlen2 : pre.length < (divs N).length := by rw [hl]; simp
    have hd : d ∣ N := (mem_divs h0).1 (by rw [hl]; simp)
    have hd0 : 0 < d := Nat.pos_of_dvd_of_pos hd h0
    have hdN : d ≤ N := Nat.le_of_dvd h0 hd
    have hg : rd (toI (divs N)) (pre.length : Int) = (d : Int) := by rw [hl]; exact rd_toI pre d rest
    obtain ⟨K, hK⟩ := sums_l2 N h0 hN rest (pre ++ [d]) (by rw [hl, List.append_assoc]; rfl)
    obtain ⟨K1, h1⟩ := Totient_spec (n := d) hd0 (by omega)
    obtain ⟨K2, h2⟩ := Moebius_spec (n := d) hd0 (by omega)
    dsimp only at hK h1 h2
    have hb1 : 0 ≤ sumZ (pre.map fun x => (phi x : Int)) := sumZ_nonneg _ (fun x => by omega) _
    have hb2 : sumZ (pre.map fun x => (phi x : Int)) + phi d ≤ (N : Int) := by
      have h3 := divs_phi h0
      rw [hl, List.map_append, sumZ_append] at h3
      simp only [List.map_cons, sumZ] at h3
      have h4 := sumZ_nonneg (fun x => (phi x : Int)) (fun x => by omega) rest
      omega
    have hb3 := sumZ_small moeb mu_bound pre
    have hb4 := mu_bound d
    refine ⟨K + K1 + K2 + 1, fun k hk => ?_⟩
    obtain ⟨j, rfl, hj⟩ := ex_succ hk
    have h5 := hK j (by omega)
    rw [List.map_append, List.map_append, sumZ_append, sumZ_append, List.length_append, List.length_singleton] at h5
    simp only [List.map_cons, List.map_nil, sumZ, Int.add_zero] at h5
    have hmx : mx 1 (d : Int) = (d : Int) := by unfold mx; omega
    have hmod : Int.tmod (N : Int) (d : Int) = 0 := by rw [Int.tmod_eq_emod_of_nonneg (by omega)]; exact Int.emod_eq_zero_of_dvd (Int.natCast_dvd_natCast.2 hd)
    simp only [galoislaw04_ResidueSums.l2]
    rw [if_pos (by rw [toI_len]; omega), if_pos (by omega), hg, h1 _ (by omega), Option.bind_some, h2 _ (by omega), Option.bind_some, if_pos rfl, if_pos rfl]
    have hfin : (if mx 1 (d : Int) = 0 then (none : Option Bool) else if Int.tmod (N : Int) (mx 1 (d : Int)) = 0 then galoislaw04_ResidueSums.l2 j (N : Int) (toI (divs N)) (N : Int) (wrap64 (sumZ (pre.map fun x => (phi x : Int)) + (phi d : Int))) (wrap64 (sumZ (pre.map moeb) + moeb d)) (wrap64 ((pre.length : Int) + 1)) else none) = some true := by
      rw [hmx, if_neg (by omega), if_pos hmod, wrap_id (x := sumZ (pre.map fun x => (phi x : Int)) + (phi d : Int)) (by omega) (by omega), wrap_id (x := sumZ (pre.map moeb) + moeb d) (by omega) (by omega), wrap_id (x := (pre.length : Int) + 1) (by omega) (by omega)]
      exact h5
    by_cases hp : pre.length = 0
    · rw [if_neg (by omega)]
      exact hfin
    · rw [if_pos (by omega), wrap_id (x := (pre.length : Int) - 1) (by omega) (by omega), if_pos (by omega), if_pos (by rw [toI_len]; omega)]
      have e1 : (pre.length : Int) - 1 = ((pre.length - 1 : Nat) : Int) := by omega
      have e2 : (divs N)[pre.length] = d := by simp [hl]
      have hlt := List.pairwise_iff_getElem.1 (divs_asc h0) (pre.length - 1) pre.length (by omega) hlen2 (by omega)
      rw [e2] at hlt
      rw [e1, rdI (by omega : pre.length - 1 < (divs N).length), if_neg (by omega)]
      exact hfin
theorem ResidueSums : galoislaw04_ResidueSums.Pure := by
  intro a0 w0
  obtain ⟨Ka, ha⟩ := awake_ev
  have hw := wf_u32 w0
  have e0 : Int.tmod a0 100000 = a0 % 100000 := Int.tmod_eq_emod_of_nonneg (by omega)
  obtain ⟨N, hN⟩ := Int.eq_ofNat_of_zero_le (show 0 ≤ 1 + a0 % 100000 by omega)
  have h0 : 0 < N := by omega
  have h1 : N ≤ 100000 := by omega
  obtain ⟨K1, hd⟩ := Divisors_spec (n := N) h0 (by omega)
  obtain ⟨K2, hf⟩ := Factor_prog (n := N) h0 (by omega)
  obtain ⟨K3, hl⟩ := sums_l0 N h1 (toI (divs N)) (fac N) (fac_spec h0) (by
    have := sums_l2 N h0 h1 (divs N) [] rfl
    simpa [sumZ] using this) (fac N) [] rfl
  dsimp only at hd hf hl
  refine ⟨Ka + K1 + K2 + K3 + 1, ?_⟩
  generalize hk : Ka + K1 + K2 + K3 = k
  simp only [galoislaw04_ResidueSums.f]
  rw [ha _ (by omega), Option.bind_some, if_pos rfl, wrap_id (x := a0) (by omega) (by omega), e0, wrap_id (x := 1 + a0 % 100000) (by omega) (by omega), hN, hd _ (by omega), Option.bind_some, hf _ (by omega), Option.bind_some, if_pos rfl]
  simp only [galoislaw04_ResidueSums.j0]
  rw [if_neg (by simp)]
  exact hl k (by omega)
end Go.Proofs.Ytmedflaejnbkoaa.Pure

/- What the printed factorizations, totients and orders of residue's reference compute. No conditions. -/
import Derived.Test.YtmedflaejnbkoaaS4
import Derived.Test.YtmedflaejnbkoaaQF21
import Derived.Test.YtmedflaejnbkoaaQF29
import Derived.Test.YtmedflaejnbkoaaQF49
import Derived.Test.YtmedflaejnbkoaaQF52
namespace Go.Proofs.Ytmedflaejnbkoaa.Q
open Go.RowKit Go.Proofs.YtmedflaejnbkoaaW.PrintWords Go.Proofs.YtmedflaejnbkoaaW.PrintLast Go.Proofs.YtmedflaejnbkoaaW.PrintMore Go.Proofs.Ytmedflaejnbkoaa.M
set_option linter.unusedVariables false
set_option linter.unusedSimpArgs false

theorem ref_order_loop (a : Nat) {m o : Nat} (hm : 0 < m) (hM : m ≤ 2147483647) (ham : a < m) (ho : IsOrd a m o) (hoM : o ≤ 2147483647) : ∀ (d j : Nat), 1 ≤ j → j + d = o → Ev (fun k => galoisref04_Order.l0 k (a : Int) (m : Int) ((a ^ j % m : Nat) : Int) (j : Int)) (o : Int)
  | 0, j, hj, hd => by
    refine ⟨1, fun k hk => ?_⟩
    obtain ⟨i, rfl, hi⟩ := ex_succ hk
    simp only [galoisref04_Order.l0]
    rw [if_neg (by omega), if_pos, show j = o by omega]
    rw [show j = o by omega, ho.one]
    simp
  | d + 1, j, hj, hd => by
    obtain ⟨K, hK⟩ := ref_order_loop a hm hM ham ho hoM d (j + 1) (by omega) (by omega)
    dsimp only at hK
    refine ⟨K + 1, fun k hk => ?_⟩
    obtain ⟨i, rfl, hi⟩ := ex_succ hk
    have hlt := Nat.mod_lt (a ^ j) hm
    have hb := mul_lt_w (a := ((a ^ j % m : Nat) : Int)) (b := (a : Int)) (by omega) (by omega) (by omega) (by omega)
    simp only [galoisref04_Order.l0]
    rw [if_neg (by omega), if_neg, wrap_id (by omega) (by omega), Int.tmod_eq_emod_of_nonneg hb.1, wrap_id (by omega) (by omega)]
    · have e : ((a ^ j % m : Nat) : Int) * (a : Int) % (m : Int) = ((a ^ (j + 1) % m : Nat) : Int) := by
        rw [← Int.natCast_mul, ← Int.natCast_emod, Nat.pow_succ, Nat.mul_mod, Nat.mod_mod, ← Nat.mul_mod]
      rw [e]
      exact hK i hi
    · intro h
      refine ho.least j hj (by omega) ?_
      have : ((a ^ j % m : Nat) : Int) = ((1 % m : Nat) : Int) := by rw [h]; simp
      exact Int.ofNat_inj.1 this
theorem ref_Order_spec (a : Int) {m : Nat} (hm : 0 < m) (hM : m ≤ 2147483647) {o : Nat} (ho : IsOrd (res a m) m o) : Ev (fun k => galoisref04_Order.f k a (m : Int)) (o : Int) := by
  have hc := cop_of_pow ho.pos ho.one
  have hol : o ≤ 2147483647 := by
    have h1 := Nat.le_of_dvd (phi_pos hm) (ho.dvd (euler hm hc))
    have h2 := phi_le hm
    omega
  obtain ⟨K, hK⟩ := ref_order_loop (res a m) hm hM (res_lt a hm) ho hol (o - 1) 1 (by omega) (by have := ho.pos; omega)
  dsimp only at hK
  refine ⟨K, fun k hk => ?_⟩
  have h1 := hK k hk
  rw [Nat.pow_one, Nat.mod_eq_of_lt (res_lt a hm)] at h1
  simp only [galoisref04_Order.f]
  rw [Mod_nat hm hM, Option.bind_some]
  exact h1

/-! ### the reference's factorization -/
theorem Factor_l1 (d : Nat) (hd : 2 ≤ d) (l : List (Nat × Nat)) (hl : l.length ≤ 2147483647) (hdM : d ≤ 2147483647) (r : List S53) : ∀ (c m c0 : Nat), ¬ d ∣ m → d ^ c * m ≤ 2147483647 → c0 + c ≤ 4294967296 →
    Ev (fun k => galoisref04_Factor.l0 k (m : Int) ((if 0 < c0 + c then l ++ [(d, c0 + c)] else l).map toS) ((d + 1 : Nat) : Int)) r → Ev (fun k => galoisref04_Factor.l1 k ((d ^ c * m : Nat) : Int) (l.map toS) (d : Int) (c0 : Int)) r
  | 0, m, c0, hm, hM, hc, ⟨K, hK⟩ => by
    dsimp only at hK
    refine ⟨K + 1, fun k hk => ?_⟩
    obtain ⟨j, rfl, hj⟩ := ex_succ hk
    have h0 : m % d ≠ 0 := fun h => hm (Nat.dvd_of_mod_eq_zero h)
    have h1 := hK j hj
    simp only [galoisref04_Factor.l1]
    rw [Nat.pow_zero, Nat.one_mul, if_neg (by omega), Int.tmod_eq_emod_of_nonneg (by omega), show (m : Int) % d = ((m % d : Nat) : Int) by simp, if_neg (by omega)]
    by_cases hc0 : 0 < c0
    · rw [if_pos (by omega), if_pos (by rw [List.length_map]; omega), wrap_id (by omega) (by omega)]
      rw [if_pos (by omega), List.map_append] at h1
      exact h1
    · rw [if_neg (by omega), wrap_id (by omega) (by omega)]
      rw [if_neg (by omega)] at h1
      exact h1
  | c + 1, m, c0, hm, hM, hc, h => by
    have e : d ^ (c + 1) * m = d * (d ^ c * m) := by rw [Nat.pow_succ, Nat.mul_comm (d ^ c) d, Nat.mul_assoc]
    have hle : d ^ c * m ≤ d * (d ^ c * m) := Nat.le_mul_of_pos_left _ (by omega)
    obtain ⟨K, h⟩ := Factor_l1 d hd l hl hdM r c m (c0 + 1) hm (by rw [e] at hM; omega) (by omega) (by rw [show c0 + 1 + c = c0 + (c + 1) by omega]; exact h)
    dsimp only at h
    refine ⟨K + 1, fun k hk => ?_⟩
    obtain ⟨j, rfl, hj⟩ := ex_succ hk
    have h1 := h j hj
    simp only [galoisref04_Factor.l1]
    rw [e] at hM ⊢
    generalize d ^ c * m = t at *
    have e2 : ((d * t : Nat) : Int) % d = 0 := by rw [← Int.natCast_emod, Nat.mul_mod_right]; rfl
    have e3 : ((d * t : Nat) : Int) / d = t := by rw [← Int.natCast_ediv, Nat.mul_div_cancel_left _ (by omega)]
    rw [if_neg (by omega), Int.tmod_eq_emod_of_nonneg (by omega), if_pos e2, Int.tdiv_eq_ediv_of_nonneg (by omega), e3, wrap_id (by omega) (by omega), wrap_id (by omega) (by omega)]
    exact h1
theorem pow_exp_le {d c m : Nat} (hd : 2 ≤ d) (hm : ¬ d ∣ m) (hM : d ^ c * m ≤ 2147483647) : c ≤ 2147483647 := by
  have h1 : c < 2 ^ c := Nat.lt_two_pow_self
  have h2 : 2 ^ c ≤ d ^ c := Nat.pow_le_pow_left hd c
  have h3 : 0 < m := by
    rcases Nat.eq_zero_or_pos m with rfl | h
    · exact absurd ⟨0, by simp⟩ hm
    · exact h
  have h4 : d ^ c * 1 ≤ d ^ c * m := Nat.mul_le_mul_left _ h3
  omega
theorem Factor_loop (N : Nat) (hN : N ≤ 2147483647) : ∀ (M d n : Nat) (l : List (Nat × Nat)), N + 4 ≤ d + M → Trial N l n d → 2 ≤ d → d ≤ 46342 ∨ n = 1 → Ev (fun k => galoisref04_Factor.l0 k (n : Int) (l.map toS) (d : Int)) (facS N) := by
  intro M
  induction M with
  | zero =>
    intro d n l h1 ht h3 h5
    have hn := trial_n_le ht
    have h1n : n = 1 := by
      apply Classical.byContradiction
      intro h
      have hpos := ht.pos
      have h2 := ht.last (by omega) (by
        have : 2 * d ≤ d * d := Nat.mul_le_mul_right d (by omega)
        omega)
      omega
    refine ⟨1, fun k hk => ?_⟩
    obtain ⟨j, rfl, hj⟩ := ex_succ hk
    simp only [galoisref04_Factor.l0]
    rw [if_neg (by omega)]
    unfold facS
    rw [(ht.done h1n).eq_fac]
  | succ M ih =>
    intro d n l h1 ht h3 h5
    have hn := trial_n_le ht
    have hpos := ht.pos
    have hlen := trial_len ht
    by_cases h1n : n = 1
    · refine ⟨1, fun k hk => ?_⟩
      obtain ⟨j, rfl, hj⟩ := ex_succ hk
      simp only [galoisref04_Factor.l0]
      rw [if_neg (by omega)]
      unfold facS
      rw [(ht.done h1n).eq_fac]
    · have h5 : d ≤ 46342 := by omega
      have hw : d * d ≤ 46342 * 46342 := Nat.mul_le_mul h5 h5
      by_cases hdd : d * d ≤ n
      · obtain ⟨c, m, e, hm⟩ := exists_pow_split d (by omega) n ht.pos
        have ht2 := ht.divided (by omega) e hm
        have hd2 : d ≤ 46340 := by
          apply Classical.byContradiction
          intro h
          have : 46341 * 46341 ≤ d * d := Nat.mul_le_mul (by omega) (by omega)
          omega
        have hM : d ^ c * m ≤ 2147483647 := by rw [← e]; omega
        have hrec := ih (d + 1) m _ (by omega) ht2 (by omega) (Or.inl (by omega))
        have hc := pow_exp_le (by omega) hm hM
        obtain ⟨K, hK⟩ := Factor_l1 d (by omega) l (by omega) (by omega) (facS N) c m 0 hm hM (by omega) (by rw [Nat.zero_add]; exact hrec)
        dsimp only at hK
        rw [← e] at hK
        refine ⟨K + 2, fun k hk => ?_⟩
        obtain ⟨j, rfl, hj⟩ := ex_succ hk
        obtain ⟨j, rfl, hj⟩ := ex_succ hj
        simp only [galoisref04_Factor.l0, galoisref04_Factor.j1]
        rw [if_pos (by omega), ← Int.natCast_mul, wrap_id (by omega) (by omega), if_neg (by omega)]
        exact hK j (by omega)
      · have ht2 := ht.last' (by omega) (by omega)
        have hnd : ¬ n ∣ 1 := fun h => by have := Nat.le_of_dvd (by omega) h; omega
        have ht3 := ht2.divided (c := 1) (m := 1) (by omega) (by simp) hnd
        have hrec := ih (n + 1) 1 _ (by have := (ht.last (by omega) (by omega)).2; omega) ht3 (by omega) (Or.inr rfl)
        obtain ⟨K, hK⟩ := Factor_l1 n (by omega) l (by omega) (by omega) (facS N) 1 1 0 hnd (by simp; omega) (by omega) (by rw [Nat.zero_add]; exact hrec)
        dsimp only at hK
        rw [Nat.pow_one, Nat.mul_one] at hK
        refine ⟨K + 2, fun k hk => ?_⟩
        obtain ⟨j, rfl, hj⟩ := ex_succ hk
        obtain ⟨j, rfl, hj⟩ := ex_succ hj
        simp only [galoisref04_Factor.l0, galoisref04_Factor.j1]
        rw [if_pos (by omega), ← Int.natCast_mul, wrap_id (by omega) (by omega), if_pos (by omega)]
        exact hK j (by omega)
theorem ref_Factor_spec {n : Nat} (h0 : 0 < n) (hN : n ≤ 2147483647) : Ev (fun k => galoisref04_Factor.f k (n : Int)) (facS n) := by
  have := Factor_loop n hN (n + 4) 2 n [] (by omega) (Trial.start h0) (by omega) (Or.inl (by omega))
  exact this
theorem ref_totient_inner (l : List (Nat × Nat)) (pre : List (Nat × Nat)) (q : Nat × Nat) (rest : List (Nat × Nat)) (hl : l = pre ++ q :: rest) (hlen : l.length ≤ 2147483647) (hq : Prm q.1) (r : Int) : ∀ (d x c : Nat), c + d = q.2 → 1 ≤ c → q.2 ≤ 2147483647 → x * q.1 ^ d ≤ 2147483647 →
    Ev (fun k => galoisref04_Totient.l0 k ((x * q.1 ^ d : Nat) : Int) (l.map toS) ((pre.length + 1 : Nat) : Int)) r → Ev (fun k => galoisref04_Totient.l1 k (x : Int) (l.map toS) (pre.length : Int) (c : Int)) r
  | 0, x, c, hc, h1, h2, hx, ⟨K, hK⟩ => by
    dsimp only at hK
    refine ⟨K + 1, fun k hk => ?_⟩
    obtain ⟨j, rfl, hj⟩ := ex_succ hk
    have hl2 : pre.length < l.length := by rw [hl]; simp
    have hr : rd_T53 (l.map toS) (pre.length : Int) = toS q := by rw [hl, rd_at]
    simp only [galoisref04_Totient.l1]
    rw [if_pos (by omega), if_pos (by rw [List.length_map]; omega), hr]
    simp only [toS_f0, toS_f1]
    rw [if_neg (by omega), wrap_id (by omega) (by omega)]
    have := hK j hj
    rw [Nat.pow_zero, Nat.mul_one] at this
    exact this
  | d + 1, x, c, hc, h1, h2, hx, h => by
    have e : x * q.1 ^ (d + 1) = x * q.1 * q.1 ^ d := by rw [Nat.pow_succ, Nat.mul_comm (q.1 ^ d), Nat.mul_assoc]
    have hxq : x * q.1 ≤ 2147483647 := by
      have : x * q.1 * 1 ≤ x * q.1 * q.1 ^ d := Nat.mul_le_mul_left _ (Nat.pow_pos (prm_pos hq))
      omega
    obtain ⟨K, hK⟩ := ref_totient_inner l pre q rest hl hlen hq r d (x * q.1) (c + 1) (by omega) (by omega) h2 (by omega) (by rw [← e]; exact h)
    dsimp only at hK
    refine ⟨K + 1, fun k hk => ?_⟩
    obtain ⟨j, rfl, hj⟩ := ex_succ hk
    have hl2 : pre.length < l.length := by rw [hl]; simp
    have hr : rd_T53 (l.map toS) (pre.length : Int) = toS q := by rw [hl, rd_at]
    simp only [galoisref04_Totient.l1]
    rw [if_pos (by omega), if_pos (by rw [List.length_map]; omega), hr]
    simp only [toS_f0, toS_f1]
    rw [if_pos (by omega), ← Int.natCast_mul, wrap_id (by omega) (by omega), wrap_id (by omega) (by omega)]
    exact hK j hj
theorem exp_lt {l : List (Nat × Nat)} {n : Nat} (hf : FacL l n) {q : Nat × Nat} (hq : q ∈ l) : q.2 < n := by
  have h1 : q.2 < 2 ^ q.2 := Nat.lt_two_pow_self
  have h2 : 2 ^ q.2 ≤ q.1 ^ q.2 := Nat.pow_le_pow_left (hf.prm q hq).1.1 _
  have h3 := Nat.le_of_dvd hf.pos (hf.mem_dvd hq)
  omega
theorem ref_totient_loop (N : Nat) (hN : N ≤ 2147483647) : ∀ (rest pre : List (Nat × Nat)), FacL (pre ++ rest) N → Ev (fun k => galoisref04_Totient.l0 k (phiL pre : Int) ((pre ++ rest).map toS) (pre.length : Int)) (phiL (pre ++ rest) : Int)
  | [], pre, hf => by
    refine ⟨1, fun k hk => ?_⟩
    obtain ⟨j, rfl, hj⟩ := ex_succ hk
    simp only [galoisref04_Totient.l0]
    rw [if_neg (by simp), List.append_nil]
  | q :: rest, pre, hf => by
    have hqm : q ∈ pre ++ q :: rest := by simp
    have hq := hf.prm q hqm
    have hlen := len_lt hf.prm
    rw [hf.prod] at hlen
    have hlen2 : pre.length < (pre ++ q :: rest).length := by simp
    have hq1 := hq.1.1
    have hex := exp_lt hf hqm
    have e2 : phiL (pre ++ [q]) = phiL pre * (q.1 - 1) * q.1 ^ (q.2 - 1) := by
      rw [phiL_append, phiL, phiL, Nat.mul_one, Nat.mul_comm (q.1 ^ _), Nat.mul_assoc]
    have hb : phiL (pre ++ [q]) ≤ N := by
      have h1 : prodL (pre ++ [q]) ∣ N := ⟨prodL rest, by rw [← prodL_append, List.append_assoc]; exact hf.prod.symm⟩
      have h2 := phiL_le (l := pre ++ [q]) fun q' hq' => hf.prm q' (by rcases List.mem_append.1 hq' with h | h; exact List.mem_append_left _ h; rw [List.mem_singleton.1 h]; exact hqm)
      have h3 := Nat.le_of_dvd hf.pos h1
      omega
    have hb2 : phiL pre * (q.1 - 1) ≤ N := by
      have : phiL pre * (q.1 - 1) * 1 ≤ phiL pre * (q.1 - 1) * q.1 ^ (q.2 - 1) := Nat.mul_le_mul_left _ (Nat.pow_pos (by omega))
      omega
    obtain ⟨K, hK⟩ := ref_totient_inner (pre ++ q :: rest) pre q rest rfl (by omega) hq.1 (phiL (pre ++ q :: rest)) (q.2 - 1) (phiL pre * (q.1 - 1)) 1 (by omega) (by omega) (by omega) (by rw [← e2]; omega) (by
      have := ref_totient_loop N hN rest (pre ++ [q]) (by rw [List.append_assoc]; exact hf)
      rw [List.append_assoc, List.singleton_append, List.length_append, List.length_singleton, e2] at this
      exact this)
    dsimp only at hK
    refine ⟨K + 1, fun k hk => ?_⟩
    obtain ⟨j, rfl, hj⟩ := ex_succ hk
    have hqN : q.1 ≤ N := Nat.le_of_dvd hf.pos (hf.mem_dvd1 hqm)
    simp only [galoisref04_Totient.l0]
    rw [if_pos (by rw [List.length_map]; omega), if_pos (by omega), rd_at]
    simp only [toS_f0, toS_f1]
    rw [wrap_id (x := (q.1 : Int) - 1) (by omega) (by omega), show (phiL pre : Int) * ((q.1 : Int) - 1) = ((phiL pre * (q.1 - 1) : Nat) : Int) by rw [Int.natCast_mul, Int.natCast_sub (by omega)]; rfl, wrap_id (by omega) (by omega)]
    exact hK j hj
theorem ref_Totient_spec {n : Nat} (h0 : 0 < n) (hN : n ≤ 2147483647) : Ev (fun k => galoisref04_Totient.f k (n : Int)) (phi n : Int) := by
  obtain ⟨K, hK⟩ := ref_Factor_spec h0 hN
  obtain ⟨K2, hK2⟩ := ref_totient_loop n hN (fac n) [] (fac_spec h0)
  dsimp only at hK hK2
  refine ⟨K + K2, fun k hk => ?_⟩
  simp only [galoisref04_Totient.f]
  rw [hK k (by omega), Option.bind_some]
  exact hK2 k (by omega)
theorem isPrime_loop (n : Nat) (hn : n ≤ 2147483647) : ∀ (M d : Nat), n + 2 ≤ d + M → 2 ≤ d → d ≤ 46341 → (∀ p, Prm p → p ∣ n → d ≤ p) → 1 ≤ n → ∃ b : Bool, (b = true ↔ Prm n) ∧ Ev (fun k => galoisref04_IsPrime.l0 k (n : Int) (d : Int)) b := by
  intro M
  induction M with
  | zero =>
    intro d h1 h2 h5 hb hn1
    have hdd : n < d * d := by
      have : 2 * d ≤ d * d := Nat.mul_le_mul_right d (by omega)
      omega
    have hw : d * d ≤ 46341 * 46341 := Nat.mul_le_mul h5 h5
    refine ⟨decide ((n : Int) > 1), ?_, 1, fun k hk => ?_⟩
    · rw [decide_eq_true_eq]
      constructor
      · intro h
        exact prm_of_small (by omega) fun p hp hd => Nat.lt_of_lt_of_le hdd (Nat.mul_le_mul (hb p hp hd) (hb p hp hd))
      · intro h; have := h.1; omega
    · obtain ⟨j, rfl, hj⟩ := ex_succ hk
      simp only [galoisref04_IsPrime.l0]
      rw [← Int.natCast_mul, wrap_id (by omega) (by omega), if_neg (by omega)]
  | succ M ih =>
    intro d h1 h2 h5 hb hn1
    have hw : d * d ≤ 46341 * 46341 := Nat.mul_le_mul h5 h5
    by_cases hdd : d * d ≤ n
    · by_cases hdv : d ∣ n
      · refine ⟨false, ?_, 1, fun k hk => ?_⟩
        · constructor
          · intro h; cases h
          · intro h
            have h3 : d ≠ n := by
              rintro rfl
              have : 2 * d ≤ d * d := Nat.mul_le_mul_right d (by omega)
              omega
            exact absurd h (not_prm_of hdv (by omega) h3)
        · obtain ⟨j, rfl, hj⟩ := ex_succ hk
          simp only [galoisref04_IsPrime.l0]
          rw [← Int.natCast_mul, wrap_id (by omega) (by omega), if_pos (by omega), if_neg (by omega), Int.tmod_eq_emod_of_nonneg (by omega), if_pos]
          rw [← Int.natCast_emod, Nat.mod_eq_zero_of_dvd hdv]
          rfl
      · have hd2 : d ≤ 46340 := by
          apply Classical.byContradiction
          intro h
          have : 46341 * 46341 ≤ d * d := Nat.mul_le_mul (by omega) (by omega)
          omega
        obtain ⟨b, hb1, K, hK⟩ := ih (d + 1) (by omega) (by omega) (by omega) (fun p hp hd => by
          have h3 := hb p hp hd
          have h4 : p ≠ d := by rintro rfl; exact hdv hd
          omega) hn1
        dsimp only at hK
        refine ⟨b, hb1, K + 1, fun k hk => ?_⟩
        obtain ⟨j, rfl, hj⟩ := ex_succ hk
        have h0 : n % d ≠ 0 := fun h => hdv (Nat.dvd_of_mod_eq_zero h)
        simp only [galoisref04_IsPrime.l0]
        rw [← Int.natCast_mul, wrap_id (by omega) (by omega), if_pos (by omega), if_neg (by omega), Int.tmod_eq_emod_of_nonneg (by omega), if_neg (by rw [← Int.natCast_emod]; omega), wrap_id (by omega) (by omega)]
        exact hK j hj
    · refine ⟨decide ((n : Int) > 1), ?_, 1, fun k hk => ?_⟩
      · rw [decide_eq_true_eq]
        constructor
        · intro h
          exact prm_of_small (by omega) fun p hp hd => Nat.lt_of_lt_of_le (by omega) (Nat.mul_le_mul (hb p hp hd) (hb p hp hd))
        · intro h; have := h.1; omega
      · obtain ⟨j, rfl, hj⟩ := ex_succ hk
        simp only [galoisref04_IsPrime.l0]
        rw [← Int.natCast_mul, wrap_id (by omega) (by omega), if_neg (by omega)]
theorem ref_IsPrime_spec {n : Nat} (h0 : 0 < n) (hN : n ≤ 2147483647) : ∃ b : Bool, (b = true ↔ Prm n) ∧ Ev (fun k => galoisref04_IsPrime.f k (n : Int)) b := isPrime_loop n hN (n + 2) 2 (by omega) (by omega) (by omega) (fun _ hp _ => hp.1) h0
end Go.Proofs.Ytmedflaejnbkoaa.Q

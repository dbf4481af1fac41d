/- What the printed divisors and Moebius's function of residue's reference compute, and the comparisons of lists. No conditions. -/
import Derived.Test.YtmedflaejnbkoaaS10
import Derived.Test.YtmedflaejnbkoaaS4b
import Derived.Test.YtmedflaejnbkoaaQG2
import Derived.Test.YtmedflaejnbkoaaQF50
import Derived.Test.YtmedflaejnbkoaaQF51
import Derived.Test.YtmedflaejnbkoaaQF53
namespace Go.Proofs.Ytmedflaejnbkoaa.Q
open Go.RowKit Go.Proofs.YtmedflaejnbkoaaW.PrintWords Go.Proofs.YtmedflaejnbkoaaW.PrintLast Go.Proofs.YtmedflaejnbkoaaW.PrintMore Go.Proofs.Ytmedflaejnbkoaa.M
set_option linter.unusedVariables false
set_option linter.unusedSimpArgs false

/-! the reference's divisors -/
structure RD (n : Nat) (low high : List Nat) (d : Nat) : Prop where
  lowA : low.Pairwise (· < ·)
  lowM : ∀ x, x ∈ low ↔ x ∣ n ∧ 1 ≤ x ∧ x < d
  highA : high.Pairwise (· > ·)
  highM : ∀ z, z ∈ high ↔ ∃ y, 1 ≤ y ∧ y < d ∧ y * z = n ∧ y * y < n
theorem RD.lenL {n d : Nat} {low high : List Nat} (h : RD n low high d) (hn : 0 < n) : low.length ≤ n := nodup_len (h.lowA.imp fun {a b} hab => by omega) fun x hx => ⟨((h.lowM x).1 hx).2.1, Nat.le_of_dvd hn ((h.lowM x).1 hx).1⟩
theorem RD.lenH {n d : Nat} {low high : List Nat} (h : RD n low high d) (hn : 0 < n) : high.length ≤ n := nodup_len (h.highA.imp fun {a b} hab => by omega) fun z hz => by
  obtain ⟨y, h1, h2, h3, h4⟩ := (h.highM z).1 hz
  have hd : z ∣ n := ⟨y, by rw [← h3, Nat.mul_comm]⟩
  exact ⟨Nat.pos_of_dvd_of_pos hd hn, Nat.le_of_dvd hn hd⟩
theorem snoc_asc {l : List Nat} {x : Nat} (h : l.Pairwise (· < ·)) (hx : ∀ y ∈ l, y < x) : (l ++ [x]).Pairwise (· < ·) := List.pairwise_append.2 ⟨h, List.pairwise_singleton _ _, fun a ha b hb => by rw [List.mem_singleton.1 hb]; exact hx a ha⟩
theorem snoc_desc {l : List Nat} {x : Nat} (h : l.Pairwise (· > ·)) (hx : ∀ y ∈ l, y > x) : (l ++ [x]).Pairwise (· > ·) := List.pairwise_append.2 ⟨h, List.pairwise_singleton _ _, fun a ha b hb => by rw [List.mem_singleton.1 hb]; exact hx a ha⟩
theorem RD.no {n d : Nat} {low high : List Nat} (h : RD n low high d) (hd : ¬ d ∣ n) : RD n low high (d + 1) := by
  refine ⟨h.lowA, fun x => ?_, h.highA, fun z => ?_⟩
  · rw [h.lowM]
    refine ⟨fun ⟨a, b, c⟩ => ⟨a, b, by omega⟩, fun ⟨a, b, c⟩ => ⟨a, b, ?_⟩⟩
    have : x ≠ d := by rintro rfl; exact hd a
    omega
  · rw [h.highM]
    refine ⟨fun ⟨y, a, b, c, e⟩ => ⟨y, a, by omega, c, e⟩, fun ⟨y, a, b, c, e⟩ => ⟨y, a, ?_, c, e⟩⟩
    have : y ≠ d := by rintro rfl; exact hd ⟨z, c.symm⟩
    omega
theorem RD.low1 {n d : Nat} {low high : List Nat} (h : RD n low high d) (hd : d ∣ n) (h1 : 1 ≤ d) : (low ++ [d]).Pairwise (· < ·) ∧ ∀ x, x ∈ low ++ [d] ↔ x ∣ n ∧ 1 ≤ x ∧ x < d + 1 := by
  refine ⟨snoc_asc h.lowA fun y hy => ((h.lowM y).1 hy).2.2, fun x => ?_⟩
  rw [List.mem_append, List.mem_singleton, h.lowM]
  constructor
  · rintro (⟨a, b, c⟩ | rfl)
    · exact ⟨a, b, by omega⟩
    · exact ⟨hd, h1, by omega⟩
  · rintro ⟨a, b, c⟩
    by_cases e : x = d
    · exact .inr e
    · exact .inl ⟨a, b, by omega⟩
theorem RD.yes {n d : Nat} {low high : List Nat} (h : RD n low high d) (hd : d ∣ n) (h1 : 1 ≤ d) (hlt : d * d < n) : RD n (low ++ [d]) (high ++ [n / d]) (d + 1) := by
  have hl := h.low1 hd h1
  have hnd : d * (n / d) = n := Nat.mul_div_cancel' hd
  refine ⟨hl.1, hl.2, snoc_desc h.highA fun z hz => ?_, fun z => ?_⟩
  · obtain ⟨y, a, b, c, e⟩ := (h.highM z).1 hz
    rcases Nat.lt_or_ge (n / d) z with h2 | h2
    · exact h2
    · exfalso
      have h3 : y * z ≤ y * (n / d) := Nat.mul_le_mul_left _ h2
      have h4 : y * (n / d) < d * (n / d) := Nat.mul_lt_mul_of_pos_right b (Nat.pos_of_ne_zero (by intro e0; rw [e0] at hnd; omega))
      omega
  · rw [List.mem_append, List.mem_singleton, h.highM]
    constructor
    · rintro (⟨y, a, b, c, e⟩ | rfl)
      · exact ⟨y, a, by omega, c, e⟩
      · exact ⟨d, h1, by omega, hnd, hlt⟩
    · rintro ⟨y, a, b, c, e⟩
      by_cases hy : y = d
      · subst hy; exact .inr (Nat.eq_of_mul_eq_mul_left h1 (by rw [c, hnd]))
      · exact .inl ⟨y, a, by omega, c, e⟩
theorem RD.half {n d : Nat} {low high : List Nat} (h : RD n low high d) (hd : d ∣ n) (h1 : 1 ≤ d) (heq : d * d = n) : RD n (low ++ [d]) high (d + 1) := by
  have hl := h.low1 hd h1
  refine ⟨hl.1, hl.2, h.highA, fun z => ?_⟩
  rw [h.highM]
  refine ⟨fun ⟨y, a, b, c, e⟩ => ⟨y, a, by omega, c, e⟩, fun ⟨y, a, b, c, e⟩ => ⟨y, a, ?_, c, e⟩⟩
  have : y ≠ d := by rintro rfl; omega
  omega
theorem RD.done {n d : Nat} {low high : List Nat} (h : RD n low high d) (hn : 0 < n) (hd : n < d * d) (hpr : 1 ≤ d ∧ (d - 1) * (d - 1) ≤ n) : low ++ high.reverse = divs n := by
  have hmul : ∀ {a b : Nat}, a ≤ b → a * a ≤ b * b := fun {a b} h => Nat.mul_le_mul h h
  refine asc_ext (List.pairwise_append.2 ⟨h.lowA, List.pairwise_reverse.2 h.highA, fun x hx z hz => ?_⟩) (divs_asc hn) fun x => ?_
  · obtain ⟨a1, a2, a3⟩ := (h.lowM x).1 hx
    obtain ⟨y, b1, b2, b3, b4⟩ := (h.highM z).1 (List.mem_reverse.1 hz)
    rcases Nat.lt_or_ge x z with h2 | h2
    · exact h2
    · exfalso
      have h3 : x * x ≤ (d - 1) * (d - 1) := hmul (by omega)
      have h4 : z * z ≤ x * x := hmul h2
      have h5 : y < z := by
        rcases Nat.lt_or_ge y z with h5 | h5
        · exact h5
        · have : y * z ≤ y * y := Nat.mul_le_mul_left _ h5
          omega
      have h6 : y * z < z * z := Nat.mul_lt_mul_of_pos_right h5 (by omega)
      omega
  · rw [mem_divs hn, List.mem_append, List.mem_reverse, h.lowM, h.highM]
    constructor
    · rintro (⟨a, _, _⟩ | ⟨y, _, _, c, _⟩)
      · exact a
      · exact ⟨y, by rw [← c, Nat.mul_comm]⟩
    · intro hx
      have hx0 : 1 ≤ x := Nat.pos_of_dvd_of_pos hx hn
      by_cases hxx : x < d
      · exact .inl ⟨hx, hx0, hxx⟩
      · right
        obtain ⟨y, hy⟩ := hx
        have hdx : d * d ≤ x * x := hmul (by omega)
        have hyx : y < x := by
          rcases Nat.lt_or_ge y x with h5 | h5
          · exact h5
          · have : x * x ≤ x * y := Nat.mul_le_mul_left _ h5
            omega
        have hy0 : 1 ≤ y := Nat.pos_of_ne_zero (by rintro rfl; simp at hy; omega)
        have hyy : y * y < n := by
          have : y * y < x * y := Nat.mul_lt_mul_of_pos_right hyx hy0
          omega
        refine ⟨y, hy0, ?_, by rw [hy, Nat.mul_comm], hyy⟩
        rcases Nat.lt_or_ge y d with h5 | h5
        · exact h5
        · have := hmul h5; omega
theorem refdiv_l1 (high : List Nat) (hl : high.length ≤ 2147483647) : ∀ (pre rest cur : List Nat), high = pre ++ rest → cur.length + pre.length ≤ 8589934592 → Ev (fun k => galoisref04_Divisors.l1 k (toI cur) (toI high) ((pre.length : Int) - 1)) (toI (cur ++ pre.reverse)) := by
  intro pre
  have hh : ∀ m (pre : List Nat), pre.length = m → ∀ (rest cur : List Nat), high = pre ++ rest → cur.length + pre.length ≤ 8589934592 → Ev (fun k => galoisref04_Divisors.l1 k (toI cur) (toI high) ((pre.length : Int) - 1)) (toI (cur ++ pre.reverse)) := by
    intro m
    induction m with
    | zero =>
      intro pre hm rest cur _ _
      obtain rfl := List.length_eq_zero_iff.1 hm
      refine ⟨1, fun k hk => ?_⟩
      obtain ⟨j, rfl, hj⟩ := ex_succ hk
      simp only [galoisref04_Divisors.l1]
      rw [if_neg (by simp)]
      simp
    | succ m ih =>
      intro pre hm rest cur he hc
      have hne : pre ≠ [] := by rintro rfl; simp at hm
      have e := List.dropLast_concat_getLast hne
      generalize pre.dropLast = p0 at e
      generalize pre.getLast hne = x at e
      subst e
      simp only [List.length_append, List.length_singleton] at hm hc
      obtain ⟨K, hK⟩ := ih p0 (by omega) (x :: rest) (cur ++ [x]) (by rw [he, List.append_assoc]; rfl) (by simp; omega)
      dsimp only at hK
      have hlen : p0.length < high.length := by rw [he]; simp
      have hrd : rd (toI high) (p0.length : Int) = (x : Int) := by rw [he, List.append_assoc]; exact rd_toI p0 x rest
      refine ⟨K + 1, fun k hk => ?_⟩
      obtain ⟨j, rfl, hj⟩ := ex_succ hk
      have h1 := hK j hj
      have e1 : (((p0 ++ [x]).length : Nat) : Int) - 1 = (p0.length : Int) := by simp
      simp only [galoisref04_Divisors.l1]
      rw [e1, if_pos (by omega), if_pos (by omega), if_pos (by rw [toI_len]; omega), if_pos (by rw [toI_len]; omega), hrd, wrap_id (x := (p0.length : Int) - 1) (by omega) (by omega)]
      rw [toI_append, toI_one] at h1
      rw [h1]
      simp
  exact hh pre.length pre rfl
theorem refdiv_loop {n : Nat} (hn : 0 < n) (hN : n ≤ 2147483647) : ∀ (M d : Nat) (low high : List Nat), n + 2 ≤ d + M → 1 ≤ d → d ≤ 46341 → (d - 1) * (d - 1) ≤ n → RD n low high d → Ev (fun k => galoisref04_Divisors.l0 k (n : Int) (toI low) (toI high) (d : Int)) (toI (divs n))
  | 0, d, low, high, hM, h1, hd, hp, h => by
    exfalso
    have : (n + 1) * (n + 1) ≤ (d - 1) * (d - 1) := Nat.mul_le_mul (by omega) (by omega)
    have : (n + 1) * (n + 1) = n * n + n + n + 1 := by rw [Nat.succ_mul, Nat.mul_succ]; omega
    have : 0 ≤ n * n := Nat.zero_le _
    omega
  | M + 1, d, low, high, hM, h1, hd, hp, h => by
    have hlL := h.lenL hn
    have hlH := h.lenH hn
    have hdd : d * d ≤ 46341 * 46341 := Nat.mul_le_mul hd hd
    by_cases hc : d * d ≤ n
    · have hd2 : d ≤ 46340 := by
        rcases Nat.lt_or_ge d 46341 with h2 | h2
        · omega
        · have : 46341 * 46341 ≤ d * d := Nat.mul_le_mul h2 h2
          omega
      have hdn : d ≤ n := Nat.le_trans (Nat.le_mul_self d) hc
      by_cases hdv : d ∣ n
      · by_cases hlt : d * d < n
        · obtain ⟨K, hK⟩ := refdiv_loop hn hN M (d + 1) (low ++ [d]) (high ++ [n / d]) (by omega) (by omega) (by omega) (by simpa using hc) (h.yes hdv h1 hlt)
          dsimp only at hK
          refine ⟨K + 1, fun k hk => ?_⟩
          obtain ⟨j, rfl, hj⟩ := ex_succ hk
          have h2 := hK j hj
          simp only [galoisref04_Divisors.l0]
          have e1 : Int.tmod (n : Int) (d : Int) = 0 := by rw [Int.tmod_eq_emod_of_nonneg (by omega)]; exact Int.emod_eq_zero_of_dvd (Int.natCast_dvd_natCast.2 hdv)
          have e2 : Int.tdiv (n : Int) (d : Int) = ((n / d : Nat) : Int) := by rw [Int.tdiv_eq_ediv_of_nonneg (by omega)]; rfl
          have e3 : n / d ≤ n := Nat.div_le_self _ _
          have e4 : (0 : Int) ≤ ((n / d : Nat) : Int) := Int.natCast_nonneg _
          rw [← Int.natCast_mul, wrap_id (x := ((d * d : Nat) : Int)) (by omega) (by omega), if_pos (by omega), if_neg (by omega), if_pos e1, if_pos (by rw [toI_len]; omega), Option.bind_some, if_pos (by omega), if_pos (by rw [toI_len]; omega), e2, wrap_id (x := ((n / d : Nat) : Int)) (by omega) (by omega), wrap_id (x := (d : Int) + 1) (by omega) (by omega)]
          rw [toI_append, toI_append, toI_one, toI_one] at h2
          exact h2
        · obtain ⟨K, hK⟩ := refdiv_loop hn hN M (d + 1) (low ++ [d]) high (by omega) (by omega) (by omega) (by simpa using hc) (h.half hdv h1 (by omega))
          dsimp only at hK
          refine ⟨K + 1, fun k hk => ?_⟩
          obtain ⟨j, rfl, hj⟩ := ex_succ hk
          have h2 := hK j hj
          simp only [galoisref04_Divisors.l0]
          have e1 : Int.tmod (n : Int) (d : Int) = 0 := by rw [Int.tmod_eq_emod_of_nonneg (by omega)]; exact Int.emod_eq_zero_of_dvd (Int.natCast_dvd_natCast.2 hdv)
          rw [← Int.natCast_mul, wrap_id (x := ((d * d : Nat) : Int)) (by omega) (by omega), if_pos (by omega), if_neg (by omega), if_pos e1, if_pos (by rw [toI_len]; omega), Option.bind_some, if_neg (by omega), wrap_id (x := (d : Int) + 1) (by omega) (by omega)]
          rw [toI_append, toI_one] at h2
          exact h2
      · obtain ⟨K, hK⟩ := refdiv_loop hn hN M (d + 1) low high (by omega) (by omega) (by omega) (by simpa using hc) (h.no hdv)
        dsimp only at hK
        refine ⟨K + 1, fun k hk => ?_⟩
        obtain ⟨j, rfl, hj⟩ := ex_succ hk
        have h2 := hK j hj
        simp only [galoisref04_Divisors.l0]
        have e1 : ¬ Int.tmod (n : Int) (d : Int) = 0 := by
          rw [Int.tmod_eq_emod_of_nonneg (by omega)]
          intro e
          exact hdv (Int.natCast_dvd_natCast.1 (Int.dvd_of_emod_eq_zero e))
        rw [← Int.natCast_mul, wrap_id (x := ((d * d : Nat) : Int)) (by omega) (by omega), if_pos (by omega), if_neg (by omega), if_neg e1, wrap_id (x := (d : Int) + 1) (by omega) (by omega)]
        exact h2
    · obtain ⟨K, hK⟩ := refdiv_l1 high (by omega) high [] low (by simp) (by omega)
      dsimp only at hK
      refine ⟨K + 1, fun k hk => ?_⟩
      obtain ⟨j, rfl, hj⟩ := ex_succ hk
      have h2 := hK j hj
      simp only [galoisref04_Divisors.l0]
      rw [← Int.natCast_mul, wrap_id (x := ((d * d : Nat) : Int)) (by omega) (by omega), if_neg (by omega), toI_len, wrap_id (x := (high.length : Int) - 1) (by omega) (by omega), h2, h.done hn (by omega) ⟨h1, hp⟩]
theorem ref_Divisors_spec {n : Nat} (h0 : 0 < n) (hN : n ≤ 2147483647) : Ev (fun k => galoisref04_Divisors.f k (n : Int)) (toI (divs n)) := by
  obtain ⟨K, hK⟩ := refdiv_loop h0 hN (n + 1) 1 [] [] (by omega) (by omega) (by omega) (by simp) ⟨List.Pairwise.nil, fun x => by simp; omega, List.Pairwise.nil, fun z => by
    simp only [List.not_mem_nil, false_iff]
    rintro ⟨y, a, b, _⟩
    omega⟩
  exact ⟨K, fun k hk => hK k hk⟩

theorem ref_moeb_loop (N : Nat) (hN : N ≤ 2147483647) : ∀ (rest pre : List (Nat × Nat)) (s : Int), FacL (pre ++ rest) N → -1 ≤ s → s ≤ 1 → Ev (fun k => galoisref04_Moebius.l0 k s ((pre ++ rest).map toS) (pre.length : Int)) (muA s rest)
  | [], pre, s, hf, h1, h2 => by
    refine ⟨1, fun k hk => ?_⟩
    obtain ⟨j, rfl, hj⟩ := ex_succ hk
    simp only [galoisref04_Moebius.l0]
    rw [if_neg (by simp)]
    rfl
  | q :: rest, pre, s, hf, h1, h2 => by
    have hlen := len_lt hf.prm
    rw [hf.prod] at hlen
    have hlen2 : pre.length < (pre ++ q :: rest).length := by simp
    obtain ⟨K, hK⟩ := ref_moeb_loop N hN rest (pre ++ [q]) (-s) (by rw [List.append_assoc]; exact hf) (by omega) (by omega)
    dsimp only at hK
    rw [List.append_assoc, List.singleton_append, List.length_append, List.length_singleton] at hK
    refine ⟨K + 1, fun k hk => ?_⟩
    obtain ⟨j, rfl, hj⟩ := ex_succ hk
    have h3 := hK j hj
    simp only [galoisref04_Moebius.l0]
    rw [if_pos (by rw [List.length_map]; omega), if_pos (by omega), rd_at]
    simp only [toS_f1, muA]
    by_cases hq : 1 < q.2
    · rw [if_pos (by omega), if_pos hq]
    · rw [if_neg (by omega), if_neg hq, wrap_id (x := -s) (by omega) (by omega), wrap_id (x := (pre.length : Int) + 1) (by omega) (by omega)]
      exact h3
theorem ref_Moebius_spec {n : Nat} (h0 : 0 < n) (hN : n ≤ 2147483647) : Ev (fun k => galoisref04_Moebius.f k (n : Int)) (moeb n) := by
  obtain ⟨K, hK⟩ := ref_Factor_spec h0 hN
  obtain ⟨K2, hK2⟩ := ref_moeb_loop n hN (fac n) [] 1 (fac_spec h0) (by omega) (by omega)
  dsimp only at hK hK2
  refine ⟨K + K2, fun k hk => ?_⟩
  simp only [galoisref04_Moebius.f]
  rw [hK k (by omega), Option.bind_some]
  exact hK2 k (by omega)

/-! lists that are compared with themselves -/
theorem same_loop (l : List Int) (hl : l.length ≤ 2147483647) : ∀ (d i : Nat), i + d = l.length → Ev (fun k => galoislaw04_same.l0 k l l (i : Int)) true
  | 0, i, h => ⟨1, fun k hk => by
    obtain ⟨j, rfl, hj⟩ := ex_succ hk
    simp only [galoislaw04_same.l0]
    rw [if_neg (by omega)]⟩
  | d + 1, i, h => by
    obtain ⟨K, hK⟩ := same_loop l hl d (i + 1) (by omega)
    dsimp only at hK
    refine ⟨K + 1, fun k hk => ?_⟩
    obtain ⟨j, rfl, hj⟩ := ex_succ hk
    have h2 := hK j hj
    simp only [galoislaw04_same.l0]
    rw [if_pos (by omega), if_pos (by omega), if_pos (by omega), if_pos trivial, wrap_id (x := (i : Int) + 1) (by omega) (by omega)]
    exact h2
theorem same_spec (l : List Int) (hl : l.length ≤ 2147483647) : Ev (fun k => galoislaw04_same.f k l l) true := by
  obtain ⟨K, hK⟩ := same_loop l hl l.length 0 (by omega)
  dsimp only at hK
  refine ⟨K, fun k hk => ?_⟩
  simp only [galoislaw04_same.f]
  rw [if_pos trivial]
  exact hK k hk
theorem samePowers_loop (l : List S53) (hl : l.length ≤ 2147483647) : ∀ (d i : Nat), i + d = l.length → Ev (fun k => galoislaw04_samePowers.l0 k l l (i : Int)) true
  | 0, i, h => ⟨1, fun k hk => by
    obtain ⟨j, rfl, hj⟩ := ex_succ hk
    simp only [galoislaw04_samePowers.l0]
    rw [if_neg (by omega)]⟩
  | d + 1, i, h => by
    obtain ⟨K, hK⟩ := samePowers_loop l hl d (i + 1) (by omega)
    dsimp only at hK
    refine ⟨K + 1, fun k hk => ?_⟩
    obtain ⟨j, rfl, hj⟩ := ex_succ hk
    have h2 := hK j hj
    simp only [galoislaw04_samePowers.l0]
    rw [if_pos (by omega), if_pos (by omega), if_pos (by omega), if_neg (by simp), wrap_id (x := (i : Int) + 1) (by omega) (by omega)]
    exact h2
theorem samePowers_spec (l : List S53) (hl : l.length ≤ 2147483647) : Ev (fun k => galoislaw04_samePowers.f k l l) true := by
  obtain ⟨K, hK⟩ := samePowers_loop l hl l.length 0 (by omega)
  dsimp only at hK
  refine ⟨K, fun k hk => ?_⟩
  simp only [galoislaw04_samePowers.f]
  rw [if_pos trivial]
  exact hK k hk
end Go.Proofs.Ytmedflaejnbkoaa.Q

/- Machine side and arithmetic of the law, put together by a program of the session. No conditions. -/
import Derived.Test.YtillaipaanancaaGreatKdr0
import Derived.Test.YtillaipaanancaaGreatKdr17
import Derived.Test.YtillaipaanancaaGreatKdr18
import Derived.Test.YtillaipaanancaaGreatKdr19
section
namespace Go.Proofs.YtillaipaanancaaGreat.Q
open Go.RowKit Go.Proofs.YtillaipaanancaaGreatW.PrintWords Go.Proofs.YtillaipaanancaaGreatW.PrintLast Go.Proofs.YtillaipaanancaaGreatW.PrintMore Go.Proofs.YtillaipaanancaaGreat.M Go.Proofs.YtillaipaanancaaGreat.M.ZX
set_option linter.unusedVariables false
set_option linter.unusedSimpArgs false
def toS (q : Nat × Nat) : S134 := ⟨q.1, q.2⟩
noncomputable def facS (n : Nat) : List S134 := (fac n).map toS
theorem rd_at (pre : List (Nat × Nat)) (q : Nat × Nat) (rest : List (Nat × Nat)) : rd_T134 ((pre ++ q :: rest).map toS) (pre.length : Int) = toS q := by
 unfold rd_T134
 rw [Int.toNat_natCast, List.getD_eq_getElem?_getD, List.getElem?_map, List.getElem?_append_right (Nat.le_refl _)]
 simp
theorem len_lt : ∀ {l : List (Nat × Nat)}, (∀ q ∈ l, Prm q.1 ∧ 1 ≤ q.2) → l.length < prodL l
 | [], _ => by simp [prodL]
 | q :: l, h => by
  have h1 := len_lt fun q hq => h q (List.mem_cons_of_mem _ hq)
  have h2 := h q List.mem_cons_self
  have h3 : 2 ≤ q.1 ^ q.2 := Nat.le_trans h2.1.1 (by
   have := Nat.pow_le_pow_right (n := q.1) (by have := h2.1.1; omega) h2.2
   rwa [Nat.pow_one] at this)
  have h4 : 2 * prodL l ≤ q.1 ^ q.2 * prodL l := Nat.mul_le_mul_right _ h3
  simp only [prodL, List.length_cons]
  omega
theorem trial_len {n0 n d : Nat} {l : List (Nat × Nat)} (h : Trial n0 l n d) : l.length ≤ n0 := by
 have h1 := len_lt h.prm
 have h2 : prodL l * 1 ≤ prodL l * n := Nat.mul_le_mul_left _ h.pos
 have h3 := h.prod
 omega
theorem trial_n_le {n0 n d : Nat} {l : List (Nat × Nat)} (h : Trial n0 l n d) : n ≤ n0 := by
 have h2 : 1 * n ≤ prodL l * n := Nat.mul_le_mul_right _ (by have := prodL_pos h.prm; omega)
 have h3 := h.prod
 omega
theorem tryL_spec (d : Nat) (hd : 2 ≤ d) : ∀ (c m c0 : Nat), ¬ d ∣ m → d ^ c * m ≤ 2147483647 → c0 + c ≤ 4294967296 → Ev (fun k => tryL k (d : Int) ((d ^ c * m : Nat) : Int) (c0 : Int)) ((m : Int), ((c0 + c : Nat) : Int))
 | 0, m, c0, hm, hM, hc => by
  refine ⟨1, fun k hk => ?_⟩
  obtain ⟨j, rfl, hj⟩ := ex_succ hk
  have h0 : m % d ≠ 0 := fun h => hm (Nat.dvd_of_mod_eq_zero h)
  simp only [tryL]
  rw [Nat.pow_zero, Nat.one_mul, if_neg (by omega), Int.tmod_eq_emod_of_nonneg (by omega), show (m : Int) % d = ((m % d : Nat) : Int) by simp, if_neg (by omega)]
  rfl
 | c + 1, m, c0, hm, hM, hc => by
  have e : d ^ (c + 1) * m = d * (d ^ c * m) := by rw [Nat.pow_succ, Nat.mul_comm (d ^ c) d, Nat.mul_assoc]
  have hle : d ^ c * m ≤ d * (d ^ c * m) := Nat.le_mul_of_pos_left _ (by omega)
  obtain ⟨K, h⟩ := tryL_spec d hd c m (c0 + 1) hm (by rw [e] at hM; omega) (by omega)
  dsimp only at h
  refine ⟨K + 1, fun k hk => ?_⟩
  obtain ⟨j, rfl, hj⟩ := ex_succ hk
  have h1 := h j hj
  simp only [tryL]
  rw [e] at hM ⊢
  generalize d ^ c * m = t at *
  have e2 : ((d * t : Nat) : Int) % d = 0 := by rw [← Int.natCast_emod, Nat.mul_mod_right]; rfl
  have e3 : ((d * t : Nat) : Int) / d = t := by rw [← Int.natCast_ediv, Nat.mul_div_cancel_left _ (by omega)]
  rw [if_neg (by omega), Int.tmod_eq_emod_of_nonneg (by omega), if_pos e2, Int.tdiv_eq_ediv_of_nonneg (by omega), e3, wrap_id (by omega) (by omega), wrap_id (by omega) (by omega)]
  rw [show c0 + 1 + c = c0 + (c + 1) by omega] at h1
  exact h1
theorem tryF_spec (d : Nat) (hd : 2 ≤ d) (c m : Nat) (l : List (Nat × Nat)) (hm : ¬ d ∣ m) (hM : d ^ c * m ≤ 2147483647) (hl : l.length ≤ 2147483647) : Ev (fun k => tryF k (d : Int) ((d ^ c * m : Nat) : Int) (l.map toS)) ((m : Int), (if 0 < c then l ++ [(d, c)] else l).map toS) := by
 have hc : c ≤ 2147483647 := by
  have h1 : c < 2 ^ c := Nat.lt_two_pow_self
  have h2 : 2 ^ c ≤ d ^ c := Nat.pow_le_pow_left hd c
  have h3 : 0 < m := by
   rcases Nat.eq_zero_or_pos m with rfl | h
   ·exact absurd ⟨0, by simp⟩ hm
   ·exact h
  have h4 : d ^ c * 1 ≤ d ^ c * m := Nat.mul_le_mul_left _ h3
  omega
 obtain ⟨K, h⟩ := tryL_spec d hd c m 0 hm hM (by omega)
 dsimp only at h
 refine ⟨K, fun k hk => ?_⟩
 have h1 := h k hk
 rw [Nat.zero_add] at h1
 simp only [tryF]
 rw [show ((0 : Nat) : Int) = 0 from rfl] at h1
 rw [h1, Option.bind_some]
 by_cases h0 : 0 < c
 ·rw [if_pos (by simp; omega), if_pos (by rw [List.length_map]; omega), if_pos h0, List.map_append]
  rfl
 ·rw [if_neg (by simp; omega), if_neg h0]
theorem factor_loop (N : Nat) (hN : N ≤ 2147483647) : ∀ (M d n : Nat) (l : List (Nat × Nat)), N + 4 ≤ d + M → Trial N l n d → 3 ≤ d → d % 2 = 1 → d ≤ 46342 → ∃ K, ∀ kk k, K ≤ kk → K ≤ k → rs_factor.l0 kk k (n : Int) (l.map toS) (d : Int) = some (facS N) := by
 intro M
 induction M with
 | zero =>
  intro d n l h1 ht h3 hodd h5
  -- d is beyond N: nothing is left
  have hn := trial_n_le ht
  have hpos := ht.pos
  have hdd : n < d * d := by
   have : 2 * d ≤ d * d := Nat.mul_le_mul_right d (by omega)
   omega
  refine ⟨1, fun kk k _ hk => ?_⟩
  obtain ⟨j, rfl, hj⟩ := ex_succ hk
  have h1n : n = 1 := by
   apply Classical.byContradiction
   intro h
   have := ht.last (by omega) hdd
   omega
  have hw : d * d ≤ 46342 * 46342 := Nat.mul_le_mul h5 h5
  simp only [rs_factor.l0]
  rw [← Int.natCast_mul, wrap_id (by omega) (by omega), if_neg (by omega), if_neg (by omega)]
  unfold facS
  rw [(ht.done h1n).eq_fac]
 | succ M ih =>
  intro d n l h1 ht h3 hodd h5
  have hw : d * d ≤ 46342 * 46342 := Nat.mul_le_mul h5 h5
  have hn := trial_n_le ht
  have hpos := ht.pos
  have hlen := trial_len ht
  by_cases hdd : d * d ≤ n
  ·obtain ⟨c, m, e, hm⟩ := exists_pow_split d (by omega) n ht.pos
   have ht2 := ht.divided (by omega) e hm
   have hd2 : d ≤ 46340 := by
    apply Classical.byContradiction
    intro h
    have : 46341 * 46341 ≤ d * d := Nat.mul_le_mul (by omega) (by omega)
    omega
   have ht3 : Trial N (if 0 < c then l ++ [(d, c)] else l) m (d + 2) := ht2.skip (by omega) fun p hp hpm => by
    have h6 := ht2.big p hp hpm
    have h7 : p ≠ d + 1 := by
     rintro rfl
     rcases hp.2 2 ⟨(d + 1) / 2, by omega⟩ with h | h <;> omega
    omega
   obtain ⟨K, hK⟩ := ih (d + 2) m _ (by omega) ht3 (by omega) (by omega) (by omega)
   obtain ⟨K2, h2⟩ := tryF_spec d (by omega) c m l hm (by rw [← e]; omega) (by omega)
   dsimp only at h2
   rw [← e] at h2
   refine ⟨K + K2 + 1, fun kk k hkk hk => ?_⟩
   obtain ⟨j, rfl, hj⟩ := ex_succ hk
   simp only [rs_factor.l0]
   rw [← Int.natCast_mul, wrap_id (by omega) (by omega), if_pos (by omega), h2 kk (by omega), Option.bind_some, wrap_id (by omega) (by omega)]
   exact hK kk j (by omega) (by omega)
  ·by_cases h1n : n = 1
   ·refine ⟨1, fun kk k _ hk => ?_⟩
    obtain ⟨j, rfl, hj⟩ := ex_succ hk
    simp only [rs_factor.l0]
    rw [← Int.natCast_mul, wrap_id (by omega) (by omega), if_neg (by omega), if_neg (by omega)]
    unfold facS
    rw [(ht.done h1n).eq_fac]
   ·have ht2 := ht.last' (by omega) (by omega)
    have ht3 := ht2.divided (c := 1) (m := 1) (by omega) (by simp) (fun h => by have := Nat.le_of_dvd (by omega) h; omega)
    obtain ⟨K2, h2⟩ := tryF_spec n (by omega) 1 1 l (fun h => by have := Nat.le_of_dvd (by omega) h; omega) (by simp; omega) (by omega)
    dsimp only at h2
    rw [Nat.pow_one, Nat.mul_one] at h2
    refine ⟨K2 + 1, fun kk k hkk hk => ?_⟩
    obtain ⟨j, rfl, hj⟩ := ex_succ hk
    simp only [rs_factor.l0]
    rw [← Int.natCast_mul, wrap_id (by omega) (by omega), if_neg (by omega), if_pos (by omega), h2 kk (by omega), Option.bind_some]
    unfold facS
    rw [← (ht3.done rfl).eq_fac]
theorem factor_spec {n : Nat} (h0 : 0 < n) (hN : n ≤ 2147483647) : Ev (fun k => rs_factor.f k (n : Int)) (facS n) := by
 obtain ⟨c, m, e, hm⟩ := exists_pow_split 2 (by omega) n h0
 have ht := (Trial.start h0).divided (by omega) e hm
 obtain ⟨K, hK⟩ := factor_loop n hN (n + 4) 3 m _ (by omega) ht (by omega) (by omega) (by omega)
 obtain ⟨K2, h2⟩ := tryF_spec 2 (by omega) c m [] hm (by rw [← e]; omega) (by simp)
 dsimp only at h2
 rw [← e] at h2
 refine ⟨K + K2, fun k hk => ?_⟩
 have h3 := h2 k (by omega)
 simp only [rs_factor.f]
 rw [show ((2 : Nat) : Int) = 2 from rfl] at h3
 rw [List.map_nil] at h3
 rw [h3, Option.bind_some]
 exact hK k k (by omega) (by omega)
theorem prime_spec {n : Nat} (h0 : 0 < n) (hN : n ≤ 2147483647) : ∃ b : Bool, (b = true ↔ Prm n) ∧ Ev (fun k => rs_prime.f k (n : Int)) b := by
 obtain ⟨K, hK⟩ := factor_spec h0 hN
 dsimp only at hK
 by_cases h1 : (fac n).length = 1
 ·obtain ⟨q, hq⟩ := List.length_eq_one_iff.1 h1
  refine ⟨((q.2 : Int) == 1), ?_, K, fun k hk => ?_⟩
  ·rw [beq_iff_eq, fac_prm_iff h0, hq]
   constructor
   ·intro h; exact ⟨q.1, by rw [show q = (q.1, q.2) from rfl, show q.2 = 1 by omega]⟩
   ·rintro ⟨p, h⟩
    have := (List.cons.inj h).1
    rw [this]
    rfl
  ·simp only [rs_prime.f]
   rw [hK k hk, Option.bind_some]
   have hl : (facS n).length = 1 := by unfold facS; rw [List.length_map]; exact h1
   rw [hl, if_pos (by omega), if_pos (by omega)]
   unfold facS
   rw [hq]
   have := rd_at [] q []
   simp only [List.nil_append, List.length_nil] at this
   rw [show (0 : Int) = ((0 : Nat) : Int) from rfl, this]
   rfl
 ·refine ⟨false, ?_, K, fun k hk => ?_⟩
  ·rw [fac_prm_iff h0]
   constructor
   ·intro h; cases h
   ·rintro ⟨p, h⟩; rw [h] at h1; exact absurd rfl h1
  ·simp only [rs_prime.f]
   rw [hK k hk, Option.bind_some]
   have hl : (facS n).length = (fac n).length := by unfold facS; rw [List.length_map]
   rw [if_neg (by omega)]
theorem bad_one {m : Int} (h0 : 1 ≤ m) (h1 : m ≤ 2147483647) : rs_bad.f [m] = some false := by
 simp only [rs_bad.f, List.any_cons, List.any_nil, badP, Bool.or_false]
 rw [decide_eq_false (by omega), decide_eq_false (by omega)]
 rfl
theorem IsPrime_prog {n : Nat} (h0 : 0 < n) (hM : n ≤ 2147483647) : ∃ b : Bool, (b = true ↔ Prm n) ∧ Ev (fun k => rs_IsPrime.f k (n : Int)) (b, 0) := by
 obtain ⟨b, hb, K, hK⟩ := prime_spec h0 hM
 dsimp only at hK
 refine ⟨b, hb, K, fun k hk => ?_⟩
 simp only [rs_IsPrime.f]
 rw [bad_one (by omega) (by omega), Option.bind_some, if_neg (by simp), hK k hk, Option.bind_some]
theorem isPrime_loop (n : Nat) (hn : n ≤ 2147483647) : ∀ (M d : Nat), n + 2 ≤ d + M → 2 ≤ d → d ≤ 46341 → (∀ p, Prm p → p ∣ n → d ≤ p) → 1 ≤ n → ∃ b : Bool, (b = true ↔ Prm n) ∧ Ev (fun k => r4IsPrime.l0 k (n : Int) (d : Int)) b := by
 intro M
 induction M with
 | zero =>
  intro d h1 h2 h5 hb hn1
  have hdd : n < d * d := by
   have : 2 * d ≤ d * d := Nat.mul_le_mul_right d (by omega)
   omega
  have hw : d * d ≤ 46341 * 46341 := Nat.mul_le_mul h5 h5
  refine ⟨decide ((n : Int) > 1), ?_, 1, fun k hk => ?_⟩
  ·rw [decide_eq_true_eq]
   constructor
   ·intro h
    exact prm_of_small (by omega) fun p hp hd => Nat.lt_of_lt_of_le hdd (Nat.mul_le_mul (hb p hp hd) (hb p hp hd))
   ·intro h; have := h.1; omega
  ·obtain ⟨j, rfl, hj⟩ := ex_succ hk
   simp only [r4IsPrime.l0]
   rw [← Int.natCast_mul, wrap_id (by omega) (by omega), if_neg (by omega)]
 | succ M ih =>
  intro d h1 h2 h5 hb hn1
  have hw : d * d ≤ 46341 * 46341 := Nat.mul_le_mul h5 h5
  by_cases hdd : d * d ≤ n
  ·by_cases hdv : d ∣ n
   ·refine ⟨false, ?_, 1, fun k hk => ?_⟩
    ·constructor
     ·intro h; cases h
     ·intro h
      have h3 : d ≠ n := by
       rintro rfl
       have : 2 * d ≤ d * d := Nat.mul_le_mul_right d (by omega)
       omega
      exact absurd h (not_prm_of hdv (by omega) h3)
    ·obtain ⟨j, rfl, hj⟩ := ex_succ hk
     simp only [r4IsPrime.l0]
     rw [← Int.natCast_mul, wrap_id (by omega) (by omega), if_pos (by omega), if_neg (by omega), Int.tmod_eq_emod_of_nonneg (by omega), if_pos]
     rw [← Int.natCast_emod, Nat.mod_eq_zero_of_dvd hdv]
     rfl
   ·have hd2 : d ≤ 46340 := by
     apply Classical.byContradiction
     intro h
     have : 46341 * 46341 ≤ d * d := Nat.mul_le_mul (by omega) (by omega)
     omega
    obtain ⟨b, hb1, K, hK⟩ := ih (d + 1) (by omega) (by omega) (by omega) (fun p hp hd => by
     have h3 := hb p hp hd
     have h4 : p ≠ d := by rintro rfl; exact hdv hd
     omega) hn1
    dsimp only at hK
    refine ⟨b, hb1, K + 1, fun k hk => ?_⟩
    obtain ⟨j, rfl, hj⟩ := ex_succ hk
    have h0 : n % d ≠ 0 := fun h => hdv (Nat.dvd_of_mod_eq_zero h)
    simp only [r4IsPrime.l0]
    rw [← Int.natCast_mul, wrap_id (by omega) (by omega), if_pos (by omega), if_neg (by omega), Int.tmod_eq_emod_of_nonneg (by omega), if_neg (by rw [← Int.natCast_emod]; omega), wrap_id (by omega) (by omega)]
    exact hK j hj
  ·refine ⟨decide ((n : Int) > 1), ?_, 1, fun k hk => ?_⟩
   ·rw [decide_eq_true_eq]
    constructor
    ·intro h
     exact prm_of_small (by omega) fun p hp hd => Nat.lt_of_lt_of_le (by omega) (Nat.mul_le_mul (hb p hp hd) (hb p hp hd))
    ·intro h; have := h.1; omega
   ·obtain ⟨j, rfl, hj⟩ := ex_succ hk
    simp only [r4IsPrime.l0]
    rw [← Int.natCast_mul, wrap_id (by omega) (by omega), if_neg (by omega)]
theorem ref_IsPrime_spec {n : Nat} (h0 : 0 < n) (hN : n ≤ 2147483647) : ∃ b : Bool, (b = true ↔ Prm n) ∧ Ev (fun k => r4IsPrime.f k (n : Int)) b := isPrime_loop n hN (n + 2) 2 (by omega) (by omega) (by omega) (fun _ hp _ => hp.1) h0
abbrev PrmI (p : Int) : Prop := 2 ≤ p ∧ p ≤ 65521 ∧ Prm p.toNat
noncomputable instance (p : Int) : Decidable (PrmI p) := Classical.propDecidable _
noncomputable def ckP (p : Int) (l : List Int) : Int := open Classical in
 if ¬ PrmI p then 7 else if l.length > 65 then 4 else if ∀ c ∈ l, 0 ≤ c ∧ c < p then (if Nz l then 0 else 1) else 1
theorem pm_prime_spec (p : Int) : Ev (fun k => pm_prime.f k p) (if PrmI p then 0 else 7) := by
 by_cases h : 2 ≤ p ∧ p ≤ 65521
 ·obtain ⟨n, rfl⟩ := Int.eq_ofNat_of_zero_le (show 0 ≤ p by omega)
  obtain ⟨b, hb, K, hK⟩ := IsPrime_prog (n := n) (by omega) (by omega)
  dsimp only at hK
  refine ⟨K + 1, fun k hk => ?_⟩
  obtain ⟨k', rfl, hk'⟩ := ex_succ hk
  simp only [pm_prime.f, pm_prime.j0]
  rw [if_neg (by omega), decide_eq_false (by omega), if_neg (by simp), hK k' hk', Option.bind_some, if_pos rfl]
  cases b with
  | true => rw [if_pos rfl, if_pos ⟨h.1, h.2, by simpa using hb.1 rfl⟩]
  | false => rw [if_neg (by simp), if_neg (fun h3 => by have := hb.2 (by simpa using h3.2.2); cases this)]
 ·refine ⟨1, fun k hk => ?_⟩
  obtain ⟨k', rfl, hk'⟩ := ex_succ hk
  simp only [pm_prime.f, pm_prime.j0]
  rw [if_neg (c := PrmI p) (fun h3 => h ⟨h3.1, h3.2.1⟩)]
  by_cases h2 : p < 2
  ·rw [if_pos h2, if_pos trivial]
  ·rw [if_neg h2, decide_eq_true (by omega), if_pos rfl]
theorem nz_iff {l : List Int} (h : 0 < l.length) : Nz l ↔ l.getD (l.length - 1) 0 ≠ 0 := ⟨fun e => by
 rcases e with e | e
 ·rw [e] at h; simp at h
 ·exact e, .inr⟩
theorem pm_Check_spec (p : Int) (l : List Int) : Ev (fun k => pm_Check.f k p l) (ckP p l) := by
 obtain ⟨K, hK⟩ := pm_prime_spec p
 dsimp only at hK
 refine ⟨K, fun k hk => ?_⟩
 simp only [pm_Check.f]
 rw [hK k hk, Option.bind_some]
 unfold ckP
 by_cases h : PrmI p
 ·rw [if_pos h, if_pos rfl, if_neg (not_not_intro h)]
  unfold pm_Check.g
  by_cases h65 : l.length > 65
  ·rw [if_pos h65, if_pos h65]
  ·rw [if_neg h65, if_neg h65]
   have hany : l.any (badC p) = true ↔ ¬ ∀ c ∈ l, 0 ≤ c ∧ c < p := by
    rw [List.any_eq_true]
    constructor
    ·rintro ⟨c, hc, hb⟩ h3
     have := h3 c hc
     simp only [badC, Bool.or_eq_true, decide_eq_true_eq] at hb
     omega
    ·intro h3
     apply Classical.byContradiction
     intro h4
     refine h3 fun c hc => ?_
     have h5 : ¬ (badC p c = true) := fun h6 => h4 ⟨c, hc, h6⟩
     simp only [badC, Bool.or_eq_true, decide_eq_true_eq] at h5
     omega
   by_cases hr : ∀ c ∈ l, 0 ≤ c ∧ c < p
   ·rw [if_neg (fun h3 => (hany.1 h3) hr), if_pos hr]
    by_cases h0 : 0 < l.length
    ·have e : wrap64 ((l.length : Int) - 1) = ((l.length - 1 : Nat) : Int) := by rw [wrap_id (by omega) (by omega)]; omega
     rw [if_pos (by omega), e, rd_nat]
     by_cases hz : l.getD (l.length - 1) 0 = 0
     ·rw [if_pos hz, if_neg (fun h3 => (nz_iff h0).1 h3 hz)]
     ·rw [if_neg hz, if_pos ((nz_iff h0).2 hz)]
    ·rw [if_neg (by omega), if_pos (.inl (List.eq_nil_of_length_eq_zero (by omega)))]
   ·rw [if_pos (hany.2 hr), if_neg hr]
 ·rw [if_neg h, if_neg (by omega), if_pos h]
theorem ref09_IsPrime_spec (p : Int) : Ev (fun k => r9IsPrime.f k p) (decide (PrmI p)) := by
 by_cases h : 2 ≤ p ∧ p ≤ 65521
 ·obtain ⟨n, rfl⟩ := Int.eq_ofNat_of_zero_le (show 0 ≤ p by omega)
  obtain ⟨b, hb, K, hK⟩ := ref_IsPrime_spec (n := n) (by omega) (by omega)
  dsimp only at hK
  refine ⟨K, fun k hk => ?_⟩
  simp only [r9IsPrime.f]
  rw [if_pos (by omega), if_pos (by omega), hK k hk, Option.bind_some]
  congr 1
  rw [Bool.eq_iff_iff, decide_eq_true_eq, hb]
  exact ⟨fun h3 => ⟨h.1, h.2, by rwa [Int.toNat_natCast]⟩, fun h3 => by simpa using h3.2.2⟩
 ·refine ⟨0, fun k _ => ?_⟩
  simp only [r9IsPrime.f]
  rw [decide_eq_false (fun h3 => h ⟨h3.1, h3.2.1⟩)]
  by_cases h2 : p ≥ 2
  ·rw [if_pos h2, if_neg (by omega)]
  ·rw [if_neg h2]
theorem ref_Check_loop (p : Int) (l : List Int) (hl : l.length ≤ 65) : ∀ (d i : Nat), i + d = l.length → (∀ j, j < i → 0 ≤ l.getD j 0 ∧ l.getD j 0 < p) → Ev (fun k => r9Check.l0 k p l (i : Int)) (open Classical in if ∀ c ∈ l, 0 ≤ c ∧ c < p then (if Nz l then 0 else 1) else 1)
 | 0, i, hi, h => by
  have hr : ∀ c ∈ l, 0 ≤ c ∧ c < p := fun c hc => by
   obtain ⟨j, hj, rfl⟩ := List.mem_iff_getElem.1 hc
   have := h j (by omega)
   rwa [List.getD_eq_getElem?_getD, List.getElem?_eq_getElem hj, Option.getD_some] at this
  refine ⟨1, fun k hk => ?_⟩
  obtain ⟨k', rfl, hk'⟩ := ex_succ hk
  simp only [r9Check.l0]
  rw [if_neg (by omega), if_pos hr]
  by_cases h0 : 0 < l.length
  ·have e : wrap64 ((l.length : Int) - 1) = ((l.length - 1 : Nat) : Int) := by rw [wrap_id (by omega) (by omega)]; omega
   rw [if_pos (by omega), e, if_pos (Int.natCast_nonneg _), if_pos (by omega), rd_nat]
   by_cases hz : l.getD (l.length - 1) 0 = 0
   ·rw [if_pos hz, if_neg (fun h3 => (nz_iff h0).1 h3 hz)]
   ·rw [if_neg hz, if_pos ((nz_iff h0).2 hz)]
  ·rw [if_neg (by omega), if_pos (.inl (List.eq_nil_of_length_eq_zero (by omega)))]
 | d + 1, i, hi, h => by
  have hm : l.getD i 0 ∈ l := by
   rw [List.getD_eq_getElem?_getD, List.getElem?_eq_getElem (by omega), Option.getD_some]
   exact List.getElem_mem _
  by_cases hc : 0 ≤ l.getD i 0 ∧ l.getD i 0 < p
  ·obtain ⟨K, hK⟩ := ref_Check_loop p l hl d (i + 1) (by omega) (fun j hj => by
    rcases Nat.lt_or_ge j i with h3 | h3
    ·exact h j h3
    ·obtain rfl : j = i := by omega
     exact hc)
   dsimp only at hK
   refine ⟨K + 1, fun k hk => ?_⟩
   obtain ⟨k', rfl, hk'⟩ := ex_succ hk
   simp only [r9Check.l0]
   rw [if_pos (by omega), if_pos (Int.natCast_nonneg _), rd_nat, if_neg (by omega), if_neg (by omega), succ_wrap (by omega)]
   exact hK k' hk'
  ·have hr : ¬ ∀ c ∈ l, 0 ≤ c ∧ c < p := fun h3 => hc (h3 _ hm)
   refine ⟨1, fun k hk => ?_⟩
   obtain ⟨k', rfl, hk'⟩ := ex_succ hk
   simp only [r9Check.l0]
   rw [if_pos (by omega), if_pos (Int.natCast_nonneg _), rd_nat, if_neg hr]
   by_cases h0 : l.getD i 0 < 0
   ·rw [if_pos h0]
   ·rw [if_neg h0, if_pos (by omega)]
theorem ref_Check_spec (p : Int) (l : List Int) : Ev (fun k => r9Check.f k p l) (ckP p l) := by
 obtain ⟨K, hK⟩ := ref09_IsPrime_spec p
 dsimp only at hK
 unfold ckP
 by_cases h : PrmI p
 ·rw [if_neg (not_not_intro h)]
  by_cases h65 : l.length > 65
  ·refine ⟨K, fun k hk => ?_⟩
   simp only [r9Check.f]
   rw [hK k hk, Option.bind_some, decide_eq_true h, if_pos rfl, if_pos (by omega), if_pos h65]
  ·obtain ⟨K2, hK2⟩ := ref_Check_loop p l (by omega) l.length 0 (by omega) (fun j hj => by omega)
   dsimp only at hK2
   refine ⟨K + K2, fun k hk => ?_⟩
   simp only [r9Check.f]
   rw [hK k (by omega), Option.bind_some, decide_eq_true h, if_pos rfl, if_neg (by omega), if_neg h65]
   exact hK2 k (by omega)
 ·refine ⟨K, fun k hk => ?_⟩
  simp only [r9Check.f]
  rw [hK k hk, Option.bind_some, decide_eq_false h, if_neg (by simp), if_pos h]
theorem ckP_zero {p : Int} {l : List Int} (h : ckP p l = 0) : ∃ q : Nat, p = q ∧ Prm q ∧ q ≤ 65521 ∧ NL q l ∧ l.length ≤ 65 := by
 unfold ckP at h
 split at h
 ·cases h
 ·rename_i h1
  have h1 := Classical.not_not.1 h1
  split at h
  ·cases h
  ·rename_i h2
   split at h
   ·rename_i h3
    split at h
    ·rename_i h4
     obtain ⟨q, rfl⟩ := Int.eq_ofNat_of_zero_le (show 0 ≤ p by omega)
     exact ⟨q, rfl, by simpa using h1.2.2, by omega, ⟨h3, h4⟩, by omega⟩
    ·cases h
   ·cases h
theorem ckP_of {q : Nat} {l : List Int} (hq : Prm q) (hQ : q ≤ 65521) (h : NL q l) (hl : l.length ≤ 65) : ckP q l = 0 := by
 have := hq.1
 unfold ckP
 rw [if_neg (not_not_intro ⟨by omega, by omega, by simpa using hq⟩), if_neg (by omega), if_pos h.1, if_pos h.2]
noncomputable def ckF (p : Int) (f : List Int) : Int := open Classical in
 if ckP p f ≠ 0 then ckP p f else if f.length > 17 then 4 else if f.length < 2 ∨ f.getD (f.length - 1) 0 ≠ 1 then 1 else if Dom p.toNat (P f) then 0 else 8
theorem field_Check_spec (p : Int) (f : List Int) : Ev (fun k => fi_Check.f k p f) (ckF p f) := by
 obtain ⟨K, hK⟩ := pm_Check_spec p f
 dsimp only at hK
 unfold ckF
 by_cases h0 : ckP p f = 0
 ·obtain ⟨q, rfl, hq, hQ, hf, hl⟩ := ckP_zero h0
  obtain ⟨b, hb, K2, hK2⟩ := fp_Irreducible_spec hq hQ hf (by omega)
  dsimp only at hK2
  have e : wrap64 ((f.length : Int) - 1) = (f.length : Int) - 1 := wrap_id (by omega) (by omega)
  refine ⟨K + K2 + 1, fun k hk => ?_⟩
  obtain ⟨k', rfl, hk'⟩ := ex_succ hk
  rw [if_neg (not_not_intro h0)]
  simp only [fi_Check.f, fi_Check.j0]
  rw [hK _ (by omega), Option.bind_some, if_pos h0, e]
  by_cases h17 : f.length > 17
  ·rw [if_pos (by omega), if_pos h17]
  ·rw [if_neg (by omega), if_neg h17]
   by_cases h2 : f.length < 2
   ·rw [if_pos (by omega), if_pos trivial, if_pos (.inl h2)]
   ·rw [if_neg (by omega), show (f.length : Int) - 1 = ((f.length - 1 : Nat) : Int) by omega, if_pos (Int.natCast_nonneg _), if_pos (by omega), rd_nat]
    by_cases h1 : f.getD (f.length - 1) 0 = 1
    ·rw [if_neg (by rw [h1]; simp), if_neg (c := f.length < 2 ∨ _) (by omega), hK2 k' (by omega), Option.bind_some]
     cases b with
     | true => rw [if_pos rfl, if_pos (by simpa using (hb.1 rfl).2)]
     | false => rw [if_neg (by simp), if_neg (fun h3 => by have := hb.2 ⟨by omega, by simpa using h3⟩; cases this)]
    ·rw [if_pos (bne_iff_ne.2 h1), if_pos (.inr h1)]
 ·refine ⟨K, fun k hk => ?_⟩
  simp only [fi_Check.f]
  rw [hK k hk, Option.bind_some, if_neg h0, if_pos h0]
theorem ref15_Check_spec (p : Int) (f : List Int) : Ev (fun k => r15Check.f k p f) (ckF p f) := by
 obtain ⟨K, hK⟩ := ref_Check_spec p f
 dsimp only at hK
 unfold ckF
 by_cases h0 : ckP p f = 0
 ·obtain ⟨q, rfl, hq, hQ, hf, hl⟩ := ckP_zero h0
  obtain ⟨b, hb, K2, hK2⟩ := ref_Irreducible_spec hq hQ hf (by omega)
  dsimp only at hK2
  have e : wrap64 ((f.length : Int) - 1) = (f.length : Int) - 1 := wrap_id (by omega) (by omega)
  refine ⟨K + K2 + 1, fun k hk => ?_⟩
  obtain ⟨k', rfl, hk'⟩ := ex_succ hk
  rw [if_neg (not_not_intro h0)]
  simp only [r15Check.f, r15Check.j0, r9Lead.f]
  rw [hK _ (by omega), Option.bind_some, if_pos h0, e]
  by_cases h17 : f.length > 17
  ·rw [if_pos (by omega), if_pos h17]
  ·rw [if_neg (by omega), if_neg h17]
   by_cases h2 : f.length < 2
   ·rw [if_pos (by omega), if_pos trivial, if_pos (.inl h2)]
   ·rw [if_neg (by omega), if_neg (by omega), show (f.length : Int) - 1 = ((f.length - 1 : Nat) : Int) by omega, if_pos (Int.natCast_nonneg _), if_pos (by omega), rd_nat, Option.bind_some]
    by_cases h1 : f.getD (f.length - 1) 0 = 1
    ·rw [if_neg (by rw [h1]; simp), if_neg (c := f.length < 2 ∨ _) (by omega), hK2 k' (by omega), Option.bind_some]
     cases b with
     | true => rw [if_pos rfl, if_pos (by simpa using (hb.1 rfl).2)]
     | false => rw [if_neg (by simp), if_neg (fun h3 => by have := hb.2 ⟨by omega, by simpa using h3⟩; cases this)]
    ·rw [if_pos (bne_iff_ne.2 h1), if_pos (.inr h1)]
 ·refine ⟨K, fun k hk => ?_⟩
  simp only [r15Check.f]
  rw [hK k hk, Option.bind_some, if_neg h0, if_pos h0]
structure Fld (q : Nat) (f : List Int) : Prop where
 prm : Prm q
 le : q ≤ 65521
 nl : NL q f
 len : f.length ≤ 17
 two : 2 ≤ f.length
 mon : f.getD (f.length - 1) 0 = 1
 dom : Dom q (P f)
theorem Fld.ne {q : Nat} {f : List Int} (h : Fld q f) : f ≠ [] := ne_of_two h.prm h.nl h.two
theorem ckF_zero {p : Int} {f : List Int} (h : ckF p f = 0) : ∃ q : Nat, p = q ∧ Fld q f := by
 unfold ckF at h
 split at h
 ·rename_i h1; exact absurd h h1
 ·rename_i h1
  obtain ⟨q, rfl, hq, hQ, hf, hl⟩ := ckP_zero (Classical.not_not.1 h1)
  split at h
  ·cases h
  ·rename_i h2
   split at h
   ·cases h
   ·rename_i h3
    split at h
    ·rename_i h4
     exact ⟨q, rfl, hq, hQ, hf, by omega, by omega, by omega, by simpa using h4⟩
    ·cases h
theorem ckF_of {q : Nat} {f : List Int} (h : Fld q f) : ckF q f = 0 := by
 unfold ckF
 have h1 := h.two
 have h2 := h.len
 have hn : ¬ (f.length < 2 ∨ f.getD (f.length - 1) 0 ≠ 1) := by
  rintro (h3 | h3)
  ·omega
  ·exact h3 h.mon
 rw [if_neg (not_not_intro (ckP_of h.prm h.le h.nl (by omega))), if_neg (by omega), if_neg hn, if_pos (by simpa using h.dom)]
noncomputable def ckE (p : Int) (f l : List Int) : Int := if ckP p l = 0 then (if l.length ≥ f.length then 3 else 0) else ckP p l
theorem Member_spec (p : Int) (f l : List Int) : Ev (fun k => r15Member.f k p f l) (ckE p f l) := by
 obtain ⟨K, hK⟩ := ref_Check_spec p l
 dsimp only at hK
 unfold ckE
 refine ⟨K, fun k hk => ?_⟩
 simp only [r15Member.f]
 rw [hK k hk, Option.bind_some]
 by_cases h0 : ckP p l = 0
 ·rw [if_pos h0, if_pos h0]
  by_cases h1 : l.length ≥ f.length
  ·rw [if_pos (by omega), if_pos h1]
  ·rw [if_neg (by omega), if_neg h1, h0]
 ·rw [if_neg h0, if_neg h0]
theorem ckE_zero {q : Nat} {f l : List Int} (h : ckE q f l = 0) : NL q l ∧ l.length < f.length := by
 unfold ckE at h
 split at h
 ·rename_i h0
  obtain ⟨q', e, _, _, h3, _⟩ := ckP_zero h0
  obtain rfl : q = q' := by omega
  split at h
  ·cases h
  ·exact ⟨h3, by omega⟩
 ·rename_i h0; exact absurd h h0
theorem ckE_of {q : Nat} {f l : List Int} (h : Fld q f) (hl : NL q l) (hlt : l.length < f.length) : ckE q f l = 0 := by
 have := h.len
 unfold ckE
 rw [if_pos (ckP_of h.prm h.le hl (by omega)), if_neg (by omega)]
theorem ref15_CheckElement_spec (p : Int) (f l : List Int) : Ev (fun k => r15CheckElement.f k p f l) (if ckF p f = 0 then ckE p f l else ckF p f) := by
 obtain ⟨K, hK⟩ := ref15_Check_spec p f
 obtain ⟨K2, hK2⟩ := Member_spec p f l
 dsimp only at hK hK2
 refine ⟨K + K2, fun k hk => ?_⟩
 simp only [r15CheckElement.f]
 rw [hK k (by omega), Option.bind_some]
 by_cases h0 : ckF p f = 0
 ·rw [if_pos h0, if_pos h0, hK2 k (by omega), Option.bind_some]
 ·rw [if_neg h0, if_neg h0, Option.bind_some]
theorem Same_loop (a b : List Int) (h : a.length = b.length) (hl : a.length ≤ 1000000) : ∀ (d i : Nat), i + d = a.length → (∀ j, j < i → a.getD j 0 = b.getD j 0) → Ev (fun k => r9Same.l0 k a b (i : Int)) (decide (a = b))
 | 0, i, hi, he => by
  refine ⟨1, fun k hk => ?_⟩
  obtain ⟨k', rfl, hk'⟩ := ex_succ hk
  simp only [r9Same.l0]
  rw [if_neg (by omega), decide_eq_true]
  refine ext_getD h fun j => ?_
  rcases Nat.lt_or_ge j i with h3 | h3
  ·exact he j h3
  ·rw [getD_of_len (by omega), getD_of_len (by omega)]
 | d + 1, i, hi, he => by
  by_cases hc : a.getD i 0 = b.getD i 0
  ·obtain ⟨K, hK⟩ := Same_loop a b h hl d (i + 1) (by omega) (fun j hj => by
    rcases Nat.lt_or_ge j i with h3 | h3
    ·exact he j h3
    ·obtain rfl : j = i := by omega
     exact hc)
   dsimp only at hK
   refine ⟨K + 1, fun k hk => ?_⟩
   obtain ⟨k', rfl, hk'⟩ := ex_succ hk
   simp only [r9Same.l0]
   rw [if_pos (by omega), if_pos (Int.natCast_nonneg _), if_pos (by omega), rd_nat, rd_nat, if_pos hc, succ_wrap (by omega)]
   exact hK k' hk'
  ·refine ⟨1, fun k hk => ?_⟩
   obtain ⟨k', rfl, hk'⟩ := ex_succ hk
   simp only [r9Same.l0]
   rw [if_pos (by omega), if_pos (Int.natCast_nonneg _), if_pos (by omega), rd_nat, rd_nat, if_neg hc, decide_eq_false (fun e => hc (by rw [e]))]
theorem Same_spec (a b : List Int) (hl : a.length ≤ 1000000) : Ev (fun k => r9Same.f k a b) (decide (a = b)) := by
 by_cases h : a.length = b.length
 ·obtain ⟨K, hK⟩ := Same_loop a b h hl a.length 0 (by omega) (fun j hj => by omega)
  dsimp only at hK
  refine ⟨K, fun k hk => ?_⟩
  simp only [r9Same.f]
  rw [if_pos (by omega)]
  exact hK k hk
 ·refine ⟨0, fun k _ => ?_⟩
  simp only [r9Same.f]
  rw [if_neg (by omega), decide_eq_false (fun e => h (by rw [e]))]
end Go.Proofs.YtillaipaanancaaGreat.Q
end
section
namespace Go.Proofs.YtillaipaanancaaGreat.Q
open Go.RowKit Go.Proofs.YtillaipaanancaaGreatW.PrintWords Go.Proofs.YtillaipaanancaaGreatW.PrintLast Go.Proofs.YtillaipaanancaaGreatW.PrintMore Go.Proofs.YtillaipaanancaaGreat.M Go.Proofs.YtillaipaanancaaGreat.M.ZX
set_option linter.unusedVariables false
set_option linter.unusedSimpArgs false
def El (q : Nat) (f l : List Int) (x : ZX) : Prop := NL q l ∧ l.length < f.length ∧ Cg q (P f) (P l) x
section
variable {q : Nat} {f : List Int} (hF : Fld q f)
include hF
theorem El.eq {l m : List Int} {x y : ZX} (hl : El q f l x) (hm : El q f m y) (h : Cg q (P f) x y) : l = m :=
 nf_unique hF.prm hF.nl hF.ne hl.1 hm.1 hl.2.1 hm.2.1 (hl.2.2.trans (h.trans hm.2.2.symm))
theorem El.of {l : List Int} (h : NL q l) (hl : l.length < f.length) : El q f l (P l) := have _ := hF; ⟨h, hl, Cg.refl _⟩
theorem El.rm (x : ZX) : El q f (rm q f x) x := rm_spec hF.prm hF.nl hF.ne x
theorem El.nf {x : ZX} (h : Dg (f.length - 1) x) : El q f (nf q x) x := by
 have := hF.two
 exact ⟨(nf_spec (prm_pos hF.prm) x).1, by have := nf_dg (prm_pos hF.prm) h; omega, (nf_spec (prm_pos hF.prm) x).2.mono⟩
theorem El.dg {l : List Int} {x : ZX} (h : El q f l x) : Dg (f.length - 1) (P l) := have _ := hF; Dg.of_P (by have := h.2.1; omega)
theorem El.zero : El q f [] 0 := ⟨NL.nil, by have := hF.two; simp; omega, Cg.refl _⟩
theorem El.one : El q f [1] 1 := ⟨NL.one hF.prm.1, by have := hF.two; simp; omega, Cg.of_eq P_one⟩
end
end Go.Proofs.YtillaipaanancaaGreat.Q
end
section
namespace Go.Proofs.YtillaipaanancaaGreat.Q
open Go.RowKit Go.Proofs.YtillaipaanancaaGreatW.PrintWords Go.Proofs.YtillaipaanancaaGreatW.PrintLast Go.Proofs.YtillaipaanancaaGreatW.PrintMore Go.Proofs.YtillaipaanancaaGreat.M Go.Proofs.YtillaipaanancaaGreat.M.ZX
set_option linter.unusedVariables false
set_option linter.unusedSimpArgs false
theorem Same_ok {a b : List Int} (h : a = b) (hl : a.length ≤ 1000000) : Ev (fun k => r9Same.f k a b) true := by
 have := Same_spec a b hl
 rwa [decide_eq_true h] at this
section
variable {q : Nat} {f : List Int} (hF : Fld q f)
include hF
theorem gf_Mul_ok {a b : List Int} {x y : ZX} (ha : El q f a x) (hb : El q f b y) : ∃ c, El q f c (x * y) ∧ Ev (fun k => gFMul.f k q f a b) c := by
 have := hF.len
 obtain ⟨K2, hK2⟩ := fp_MulMod_spec hF.prm hF.le ha.1 hb.1 hF.nl hF.ne (by have := ha.2.1; omega) (by have := hb.2.1; omega) (by omega)
 have h := El.rm hF (P a * P b)
 dsimp only at hK2
 refine ⟨_, ⟨h.1, h.2.1, h.2.2.trans (ha.2.2.mul hb.2.2)⟩, K2, fun k hk => ?_⟩
 simp only [gFMul.f]
 rw [hK2 k (by omega), Option.bind_some]
theorem El.small {l : List Int} {x : ZX} (h : El q f l x) : l.length ≤ 1000000 := by
 have := h.2.1
 have := hF.len
 omega
end
end Go.Proofs.YtillaipaanancaaGreat.Q
end
section
namespace Go.Proofs.YtillaipaanancaaGreat.Q
open Go.RowKit Go.Proofs.YtillaipaanancaaGreatW.PrintWords Go.Proofs.YtillaipaanancaaGreatW.PrintLast Go.Proofs.YtillaipaanancaaGreatW.PrintMore Go.Proofs.YtillaipaanancaaGreat.M Go.Proofs.YtillaipaanancaaGreat.M.ZX
set_option linter.unusedVariables false
set_option linter.unusedSimpArgs false
theorem and_one64 {x : Int} (h0 : 0 ≤ x) (h1 : x ≤ 4611686018427387904) : Go.bits .and .i64 x 1 = x % 2 := by
 have := bits_mask .i64 63 (by decide) (fun n h0 h1 => by unfold IntKind.wrap; simp [IntKind.bits, IntKind.signed]; omega) 1 (by decide) x h0 (by omega)
 simpa using this
theorem wrap_nat {n : Nat} (h : n ≤ 9223372036854775807) : wrap64 (n : Int) = (n : Int) := wrap_id (by omega) (by omega)
theorem tdiv_nat (a b : Nat) : Int.tdiv (a : Int) (b : Int) = ((a / b : Nat) : Int) := rfl
theorem tmod_nat (a b : Nat) : Int.tmod (a : Int) (b : Int) = ((a % b : Nat) : Int) := rfl
theorem div_nat2 (a : Nat) : (a : Int) / 2 = ((a / 2 : Nat) : Int) := rfl
section
variable {q : Nat} {f : List Int} (hF : Fld q f)
include hF
theorem pow_loop : ∀ (e : Nat) (a b : List Int) (x y : ZX), e ≤ 4611686018427387904 → El q f a x → El q f b y → ∃ c, El q f c (y * x ^ e) ∧ Ev (fun k => gFPow.l0 k a e b q f) c := by
 intro e
 induction e using Nat.strongRecOn with
 | _ e ih =>
  intro a b x y he ha hb
  by_cases h0 : e = 0
  ·subst h0
   refine ⟨b, ⟨hb.1, hb.2.1, hb.2.2.trans (Cg.of_eq (by rw [pow_zero]; exact ZX.zr))⟩, 1, fun k hk => ?_⟩
   obtain ⟨k', rfl, hk'⟩ := ex_succ hk
   simp only [gFPow.l0]
   rw [if_neg (by omega)]
  ·obtain ⟨s, hs, K1, h1⟩ := gf_Mul_ok hF ha ha
   dsimp only at h1
   by_cases h2 : e % 2 = 1
   ·obtain ⟨t, ht, K2, h2'⟩ := gf_Mul_ok hF hb ha
    obtain ⟨c, hc, K3, h3⟩ := ih (e / 2) (by omega) s t (x * x) (y * x) (by omega) hs ht
    dsimp only at h2' h3
    refine ⟨c, ⟨hc.1, hc.2.1, hc.2.2.trans (Cg.of_eq ?_)⟩, K1 + K2 + K3 + 1, fun k hk => ?_⟩
    ·have : x ^ e = (x * x) ^ (e / 2) * x := by
      rw [mul_pow, ← pow_add, ← pow_succ, show e / 2 + e / 2 + 1 = e by omega]
     rw [this]
     exact ZX.zr
    ·obtain ⟨k', rfl, hk'⟩ := ex_succ hk
     simp only [gFPow.l0]
     rw [if_pos (by omega), and_one64 (by omega) (by omega), if_pos (by omega), h2' k' (by omega), Option.bind_some, h1 k' (by omega), Option.bind_some, div_nat2]
     exact h3 k' (by omega)
   ·obtain ⟨c, hc, K3, h3⟩ := ih (e / 2) (by omega) s b (x * x) y (by omega) hs hb
    dsimp only at h3
    refine ⟨c, ⟨hc.1, hc.2.1, hc.2.2.trans (Cg.of_eq ?_)⟩, K1 + K3 + 1, fun k hk => ?_⟩
    ·have : x ^ e = (x * x) ^ (e / 2) := by
      rw [mul_pow, ← pow_add, show e / 2 + e / 2 = e by omega]
     rw [this]
    ·obtain ⟨k', rfl, hk'⟩ := ex_succ hk
     simp only [gFPow.l0]
     rw [if_pos (by omega), and_one64 (by omega) (by omega), if_neg (by omega), h1 k' (by omega), Option.bind_some, div_nat2]
     exact h3 k' (by omega)
theorem gf_Pow_ok {a : List Int} {x : ZX} (ha : El q f a x) {e : Nat} (he : e ≤ 4611686018427387904) : ∃ c, El q f c (x ^ e) ∧ Ev (fun k => gFPow.f k q f a e) c := by
 obtain ⟨c, hc, K, hK⟩ := pow_loop hF e a [1] x 1 he ha (El.one hF)
 dsimp only at hK
 refine ⟨c, ⟨hc.1, hc.2.1, hc.2.2.trans (Cg.of_eq ZX.zr)⟩, K, fun k hk => ?_⟩
 simp only [gFPow.f, gFOne.f]
 rw [Option.bind_some]
 exact hK k hk
end
abbrev Qn (q : Nat) (f : List Int) : Nat := q ^ (f.length - 1)
section
variable {q : Nat} {f : List Int} (hF : Fld q f)
include hF
theorem Qn_pos : 2 ≤ Qn q f := by
 have := hF.two
 have h1 : q ^ 1 ≤ q ^ (f.length - 1) := Nat.pow_le_pow_right (prm_pos hF.prm) (by omega)
 have := hF.prm.1
 rw [Nat.pow_one] at h1
 show 2 ≤ q ^ (f.length - 1)
 omega
theorem size_loop (n : Nat) (hn : n ≤ 16) : ∀ (d i : Nat), i + d = n → q ^ i ≤ 2147483647 → Ev (fun k => gFSize.l0 k ((q ^ i : Nat) : Int) n i q f) (if q ^ n ≤ 2147483647 then (((q ^ n : Nat) : Int), true) else (0, false)) := by
 have hle := hF.le
 intro d
 induction d with
 | zero =>
  intro i hi hq
  have e : i = n := by omega
  subst e
  refine ⟨1, fun k hk => ?_⟩
  obtain ⟨k', rfl, hk'⟩ := ex_succ hk
  simp only [gFSize.l0]
  rw [if_neg (by omega), if_pos hq]
 | succ d ih =>
  intro i hi hq
  have hw : wrap64 (((q ^ i : Nat) : Int) * (q : Int)) = ((q ^ (i + 1) : Nat) : Int) := by
   have h1 : q ^ i * q ≤ 2147483647 * 65521 := Nat.mul_le_mul hq hle
   rw [show ((q ^ i : Nat) : Int) * (q : Int) = ((q ^ i * q : Nat) : Int) from (Int.natCast_mul ..).symm, wrap_id (by omega) (by omega), Nat.pow_succ]
  by_cases h : q ^ (i + 1) ≤ 2147483647
  ·obtain ⟨K, hK⟩ := ih (i + 1) (by omega) h
   dsimp only at hK
   refine ⟨K + 1, fun k hk => ?_⟩
   obtain ⟨k', rfl, hk'⟩ := ex_succ hk
   simp only [gFSize.l0]
   rw [if_pos (by omega), hw, if_neg (by omega), succ_wrap (by omega)]
   exact hK k' hk'
  ·refine ⟨1, fun k hk => ?_⟩
   obtain ⟨k', rfl, hk'⟩ := ex_succ hk
   have h2 : q ^ (i + 1) ≤ q ^ n := Nat.pow_le_pow_right (prm_pos hF.prm) (by omega)
   simp only [gFSize.l0]
   rw [if_pos (by omega), hw, if_pos (by omega), if_neg (by omega)]
theorem len_wrap : wrap64 ((f.length : Int) - 1) = ((f.length - 1 : Nat) : Int) := by
 have := hF.two
 have := hF.len
 rw [wrap_id (by omega) (by omega)]; omega
theorem gf_Size_ok : Ev (fun k => gFSize.f k q f) (if Qn q f ≤ 2147483647 then ((Qn q f : Int), true) else (0, false)) := by
 have := hF.len
 obtain ⟨K, hK⟩ := size_loop hF (f.length - 1) (by omega) (f.length - 1) 0 (by omega) (by simp)
 dsimp only at hK
 refine ⟨K, fun k hk => ?_⟩
 simp only [gFSize.f, gFDegree.f]
 rw [Option.bind_some, len_wrap hF]
 exact hK k hk
theorem ref_size_loop (n : Nat) (hn : n = f.length - 1) : ∀ (d i : Nat), i + d = n → q ^ i ≤ 2147483647 → Ev (fun k => r15Size.l0 k ((q ^ i : Nat) : Int) i q f) (if q ^ n ≤ 2147483647 then ((q ^ n : Nat) : Int) else 0) := by
 have hle := hF.le
 have hl := hF.len
 have hq0 := prm_pos hF.prm
 intro d
 induction d with
 | zero =>
  intro i hi hq
  have e : i = n := by omega
  subst e
  refine ⟨1, fun k hk => ?_⟩
  obtain ⟨k', rfl, hk'⟩ := ex_succ hk
  simp only [r15Size.l0, r15Degree.f]
  rw [Option.bind_some, len_wrap hF, if_neg (by omega), if_pos hq]
 | succ d ih =>
  intro i hi hq
  have hw : wrap64 (((q ^ i : Nat) : Int) * (q : Int)) = ((q ^ (i + 1) : Nat) : Int) := by
   have h1 : q ^ i * q ≤ 2147483647 * 65521 := Nat.mul_le_mul hq hle
   rw [show ((q ^ i : Nat) : Int) * (q : Int) = ((q ^ i * q : Nat) : Int) from (Int.natCast_mul ..).symm, wrap_id (by omega) (by omega), Nat.pow_succ]
  have ht : wrap64 (Int.tdiv (2147483647 : Int) (q : Int)) = ((2147483647 / q : Nat) : Int) := by
   have h1 : 2147483647 / q ≤ 2147483647 := Nat.div_le_self _ _
   rw [show Int.tdiv (2147483647 : Int) (q : Int) = ((2147483647 / q : Nat) : Int) from rfl, wrap_nat (Nat.le_trans h1 (by decide))]
  have hiff : q ^ i ≤ 2147483647 / q ↔ q ^ (i + 1) ≤ 2147483647 := by rw [Nat.le_div_iff_mul_le hq0, Nat.pow_succ]
  by_cases h : q ^ (i + 1) ≤ 2147483647
  ·obtain ⟨K, hK⟩ := ih (i + 1) (by omega) h
   dsimp only at hK
   have h3 := hiff.2 h
   refine ⟨K + 1, fun k hk => ?_⟩
   obtain ⟨k', rfl, hk'⟩ := ex_succ hk
   simp only [r15Size.l0, r15Degree.f]
   rw [Option.bind_some, len_wrap hF, if_pos (by omega), if_neg (by omega), ht, if_neg (by omega), hw, succ_wrap (by omega)]
   exact hK k' hk'
  ·refine ⟨1, fun k hk => ?_⟩
   obtain ⟨k', rfl, hk'⟩ := ex_succ hk
   have h2 : q ^ (i + 1) ≤ q ^ n := Nat.pow_le_pow_right hq0 (by omega)
   have h3 : ¬ q ^ i ≤ 2147483647 / q := fun h3 => h (hiff.1 h3)
   simp only [r15Size.l0, r15Degree.f]
   rw [Option.bind_some, len_wrap hF, if_pos (by omega), if_neg (by omega), ht, if_pos (by omega), if_neg (by omega)]
theorem ref_Size_ok : Ev (fun k => r15Size.f k q f) (if Qn q f ≤ 2147483647 then (Qn q f : Int) else 0) := by
 obtain ⟨K, hK⟩ := ref_size_loop hF (f.length - 1) rfl (f.length - 1) 0 (by omega) (by simp)
 exact ⟨K, hK⟩
theorem element_loop {n : Nat} : ∀ (k m : Nat) (acc : List Int), m ≤ k → k ≤ 2147483647 → acc.length + m ≤ 4294967296 → Ev (fun j => gFElement.l0 j (m : Int) acc q f) (acc ++ dgt q k m)
 | 0, m, acc, hm, _, _ => by
  have e : m = 0 := by omega
  subst e
  refine ⟨1, fun k hk => ?_⟩
  obtain ⟨k', rfl, hk'⟩ := ex_succ hk
  simp only [gFElement.l0]
  rw [if_neg (by omega)]
  simp [dgt]
 | k + 1, m, acc, hm, hk, hl => by
  have h2 := hF.prm.1
  by_cases h0 : m = 0
  ·subst h0
   refine ⟨1, fun k hk => ?_⟩
   obtain ⟨k', rfl, hk'⟩ := ex_succ hk
   simp only [gFElement.l0]
   rw [if_neg (by omega)]
   simp [dgt]
  ·have hlt : m / q < m := Nat.div_lt_self (by omega) h2
   obtain ⟨K, hK⟩ := element_loop (n := n) k (m / q) (acc ++ [((m % q : Nat) : Int)]) (by omega) (by omega) (by simp; omega)
   dsimp only at hK
   refine ⟨K + 1, fun j hj => ?_⟩
   obtain ⟨j', rfl, hj'⟩ := ex_succ hj
   simp only [gFElement.l0]
   rw [if_pos (by omega), if_neg (by omega), if_pos (by omega), tdiv_nat, tmod_nat, wrap_nat (Nat.le_trans (Nat.le_of_lt hlt) (by omega)), hK j' hj', List.append_assoc]
   simp [dgt, h0]
theorem gf_Element_ok {m : Nat} (hm : m ≤ 2147483647) : Ev (fun k => gFElement.f k q f m) (dg q m) := by
 obtain ⟨K, hK⟩ := element_loop hF (n := 0) m m [] (Nat.le_refl _) hm (by simp; omega)
 rw [List.nil_append] at hK
 exact ⟨K, hK⟩
theorem dg_el {m : Nat} (hm : m < Qn q f) : El q f (dg q m) (P (dg q m)) := ⟨dg_nl hF.prm.1 m, by have := dg_len hF.prm.1 hm; have := hF.two; omega, Cg.refl _⟩
theorem Check_ok : Ev (fun k => fi_Check.f k q f) 0 := by
 have := field_Check_spec q f
 rwa [ckF_of hF] at this
end
theorem Few_spec (p : Int) (f : List Int) (most : Nat) : ∃ b : Bool, (b = true ↔ ∃ q : Nat, p = q ∧ Fld q f ∧ Qn q f ≤ 2147483647 ∧ Qn q f ≤ most) ∧ Ev (fun k => r15Few.f k p f most) b := by
 obtain ⟨K1, h1⟩ := ref15_Check_spec p f
 dsimp only at h1
 by_cases hl : f.length ≤ 17
 ·by_cases h0 : ckF p f = 0
  ·obtain ⟨q, rfl, hF⟩ := ckF_zero h0
   obtain ⟨K2, h2⟩ := ref_Size_ok hF
   dsimp only at h2
   have hpos := Qn_pos hF
   by_cases hQ : Qn q f ≤ 2147483647
   ·refine ⟨decide (Qn q f ≤ most), ⟨fun h => ⟨q, rfl, hF, hQ, of_decide_eq_true h⟩, fun ⟨q', e, _, _, h⟩ => ?_⟩, K1 + K2, fun k hk => ?_⟩
    ·obtain rfl : q = q' := by omega
     exact decide_eq_true h
    ·simp only [r15Few.f]
     rw [if_pos (by omega), h1 k (by omega), Option.bind_some, if_pos h0, h2 k (by omega), Option.bind_some, if_pos hQ, if_pos (by omega)]
     by_cases hm : Qn q f ≤ most
     ·rw [decide_eq_true hm, decide_eq_true (by omega)]
     ·rw [decide_eq_false hm, decide_eq_false (by omega)]
   ·refine ⟨false, ⟨fun h => by simp at h, fun ⟨q', e, _, h, _⟩ => ?_⟩, K1 + K2, fun k hk => ?_⟩
    ·obtain rfl : q = q' := by omega
     exact absurd h hQ
    ·simp only [r15Few.f]
     rw [if_pos (by omega), h1 k (by omega), Option.bind_some, if_pos h0, h2 k (by omega), Option.bind_some, if_neg hQ, if_neg (by omega)]
  ·refine ⟨false, ⟨fun h => by simp at h, fun ⟨q', e, h, _, _⟩ => ?_⟩, K1, fun k hk => ?_⟩
   ·subst e; exact absurd (ckF_of h) h0
   ·simp only [r15Few.f]
    rw [if_pos (by omega), h1 k (by omega), Option.bind_some, if_neg h0]
 ·refine ⟨false, ⟨fun h => by simp at h, fun ⟨q', e, h, _, _⟩ => absurd h.len (by omega)⟩, 0, fun k hk => ?_⟩
  simp only [r15Few.f]
  rw [if_neg (by omega)]
end Go.Proofs.YtillaipaanancaaGreat.Q
end
section
namespace Go.Proofs.YtillaipaanancaaGreat.Q
open Go.RowKit Go.Proofs.YtillaipaanancaaGreatW.PrintWords Go.Proofs.YtillaipaanancaaGreatW.PrintLast Go.Proofs.YtillaipaanancaaGreatW.PrintMore Go.Proofs.YtillaipaanancaaGreat.M Go.Proofs.YtillaipaanancaaGreat.M.ZX
set_option linter.unusedVariables false
set_option linter.unusedSimpArgs false
section
variable {q : Nat} {f : List Int} (hF : Fld q f)
include hF
theorem ref_element_loop : ∀ (k m : Nat) (acc : List Int), m ≤ k → k ≤ 2147483647 → acc.length + m ≤ 4294967296 → Ev (fun j => r15Element.l0 j (m : Int) acc q f) (acc ++ dgt q k m)
 | 0, m, acc, hm, _, _ => by
  have e : m = 0 := by omega
  subst e
  refine ⟨1, fun k hk => ?_⟩
  obtain ⟨k', rfl, hk'⟩ := ex_succ hk
  simp only [r15Element.l0]
  rw [if_neg (by omega)]
  simp [dgt]
 | k + 1, m, acc, hm, hk, hl => by
  have h2 := hF.prm.1
  by_cases h0 : m = 0
  ·subst h0
   refine ⟨1, fun k hk => ?_⟩
   obtain ⟨k', rfl, hk'⟩ := ex_succ hk
   simp only [r15Element.l0]
   rw [if_neg (by omega)]
   simp [dgt]
  ·have hlt : m / q < m := Nat.div_lt_self (by omega) h2
   obtain ⟨K, hK⟩ := ref_element_loop k (m / q) (acc ++ [((m % q : Nat) : Int)]) (by omega) (by omega) (by simp; omega)
   dsimp only at hK
   refine ⟨K + 1, fun j hj => ?_⟩
   obtain ⟨j', rfl, hj'⟩ := ex_succ hj
   simp only [r15Element.l0]
   rw [if_pos (by omega), if_neg (by omega), if_pos (by omega), tdiv_nat, tmod_nat, wrap_nat (Nat.le_trans (Nat.le_of_lt hlt) (by omega)), hK j' hj', List.append_assoc]
   simp [dgt, h0]
theorem ref_Element_ok {m : Nat} (hm : m ≤ 2147483647) : Ev (fun k => r15Element.f k q f m) (dg q m) := by
 obtain ⟨K, hK⟩ := ref_element_loop hF m m [] (Nat.le_refl _) hm (by simp; omega)
 rw [List.nil_append] at hK
 exact ⟨K, hK⟩
end
end Go.Proofs.YtillaipaanancaaGreat.Q
end
section
namespace Go.Proofs.YtillaipaanancaaGreat.Q
open Go.RowKit Go.Proofs.YtillaipaanancaaGreatW.PrintWords Go.Proofs.YtillaipaanancaaGreatW.PrintLast Go.Proofs.YtillaipaanancaaGreatW.PrintMore Go.Proofs.YtillaipaanancaaGreat.M Go.Proofs.YtillaipaanancaaGreat.M.ZX
set_option linter.unusedVariables false
set_option linter.unusedSimpArgs false
theorem V_three {a b c : Int} (ha : 0 ≤ a ∧ a ≤ 255) (hb : 0 ≤ b ∧ b ≤ 255) (hc : 0 ≤ c ∧ c ≤ 255) : V (strOfNums [a, b, c]) (strOfNums [a, b, c]).size = (a.toNat * 256 + b.toNat) * 256 + c.toNat := by
 have h0 : bt (strOfNums [a, b, c]) ((0 : Nat) : Int) = a := by
  unfold bt
  rw [dif_pos (by rw [strOfNums_size]; simp)]
  exact u8_num ha.1 ha.2
 have h1 : bt (strOfNums [a, b, c]) ((1 : Nat) : Int) = b := by
  unfold bt
  rw [dif_pos (by rw [strOfNums_size]; simp)]
  exact u8_num hb.1 hb.2
 have h2 : bt (strOfNums [a, b, c]) ((2 : Nat) : Int) = c := by
  unfold bt
  rw [dif_pos (by rw [strOfNums_size]; simp)]
  exact u8_num hc.1 hc.2
 rw [strOfNums_size]
 show (((0 * 256 + (bt (strOfNums [a, b, c]) ((0 : Nat) : Int)).toNat) * 256 + (bt (strOfNums [a, b, c]) ((1 : Nat) : Int)).toNat) * 256 + (bt (strOfNums [a, b, c]) ((2 : Nat) : Int)).toNat) = _
 rw [h0, h1, h2]
 omega
theorem V_four {a b c d : Int} (ha : 0 ≤ a ∧ a ≤ 255) (hb : 0 ≤ b ∧ b ≤ 255) (hc : 0 ≤ c ∧ c ≤ 255) (hd : 0 ≤ d ∧ d ≤ 255) : V (strOfNums [a, b, c, d]) (strOfNums [a, b, c, d]).size = ((a.toNat * 256 + b.toNat) * 256 + c.toNat) * 256 + d.toNat := by
 have h0 : bt (strOfNums [a, b, c, d]) ((0 : Nat) : Int) = a := by
  unfold bt
  rw [dif_pos (by rw [strOfNums_size]; simp)]
  exact u8_num ha.1 ha.2
 have h1 : bt (strOfNums [a, b, c, d]) ((1 : Nat) : Int) = b := by
  unfold bt
  rw [dif_pos (by rw [strOfNums_size]; simp)]
  exact u8_num hb.1 hb.2
 have h2 : bt (strOfNums [a, b, c, d]) ((2 : Nat) : Int) = c := by
  unfold bt
  rw [dif_pos (by rw [strOfNums_size]; simp)]
  exact u8_num hc.1 hc.2
 have h3 : bt (strOfNums [a, b, c, d]) ((3 : Nat) : Int) = d := by
  unfold bt
  rw [dif_pos (by rw [strOfNums_size]; simp)]
  exact u8_num hd.1 hd.2
 rw [strOfNums_size]
 show ((((0 * 256 + (bt (strOfNums [a, b, c, d]) ((0 : Nat) : Int)).toNat) * 256 + (bt (strOfNums [a, b, c, d]) ((1 : Nat) : Int)).toNat) * 256 + (bt (strOfNums [a, b, c, d]) ((2 : Nat) : Int)).toNat) * 256 + (bt (strOfNums [a, b, c, d]) ((3 : Nat) : Int)).toNat) = _
 rw [h0, h1, h2, h3]
 omega
theorem FromInt_any {p : Nat} (hP : p ≤ 4294967295) : ∃ e : ByteArray, (e.size ≤ 4 ∧ (0 < e.size → bt e 0 ≠ 0)) ∧ V e e.size = p ∧ Ev (fun k => r1FromInt.f k p) e := by
 have hw : IntKind.u64.wrap (p : Int) = p := by unfold IntKind.wrap; simp [IntKind.bits, IntKind.signed]; omega
 have hm : Go.bits .and .u64 (p : Int) 4294967295 = p := by
  have := bits_mask .u64 64 (by decide) (fun n h0 h1 => by unfold IntKind.wrap; simp [IntKind.bits, IntKind.signed]; omega) 32 (by decide) (p : Int) (by omega) (by omega)
  have h4 : Go.bits .and .u64 (p : Int) 4294967295 = (p : Int) % 4294967296 := by simpa using this
  rw [h4]; omega
 have hd : (p : Int) / 4294967296 = 0 := by omega
 have hs : ∀ x : Int, ∀ s : Nat, s ≤ 24 → shr .u64 x (s : Int) = x / 2 ^ s := by
  intro x s h
  unfold shr
  rw [Int.toNat_natCast, Nat.min_eq_left (by simp [IntKind.bits]; omega)]
 have r1 : rd [(p : Int), 0] 1 = 0 := rfl
 have r0 : rd [(p : Int), 0] 0 = p := rfl
 have z : ∀ s : Nat, s ≤ 24 → shr .u64 (rd [(p : Int), 0] 1) (s : Int) % 256 = 0 := by
  intro s h
  rw [hs _ _ h, r1, Int.zero_ediv]; rfl
 have p24 : shr .u64 (rd [(p : Int), 0] 0) 24 % 256 = p / 16777216 := by
  have := hs p 24 (by omega); rw [r0]; rw [show ((24 : Nat) : Int) = 24 from rfl] at this; rw [this, show (2 : Int) ^ 24 = 16777216 from rfl]; omega
 have p16 : shr .u64 (rd [(p : Int), 0] 0) 16 % 256 = p / 65536 % 256 := by
  have := hs p 16 (by omega); rw [r0]; rw [show ((16 : Nat) : Int) = 16 from rfl] at this; rw [this, show (2 : Int) ^ 16 = 65536 from rfl]
 have p8 : shr .u64 (rd [(p : Int), 0] 0) 8 % 256 = p / 256 % 256 := by
  have := hs p 8 (by omega); rw [r0]; rw [show ((8 : Nat) : Int) = 8 from rfl] at this; rw [this, show (2 : Int) ^ 8 = 256 from rfl]
 have p0 : shr .u64 (rd [(p : Int), 0] 0) 0 % 256 = (p : Int) % 256 := by
  have := hs p 0 (by omega); rw [r0]; rw [show ((0 : Nat) : Int) = 0 from rfl] at this; rw [this, show (2 : Int) ^ 0 = 1 from rfl]; omega
 have key : ∃ e : ByteArray, (e.size ≤ 4 ∧ (0 < e.size → bt e 0 ≠ 0)) ∧ V e e.size = p ∧ Ev (fun k => r1pack.l1 k [(p : Int), 0] [] 0 24) e := by
  by_cases h24 : 16777216 ≤ p
  ·refine ⟨strOfNums [(p : Int) / 16777216, (p : Int) / 65536 % 256, (p : Int) / 256 % 256, (p : Int) % 256], ⟨by rw [strOfNums_size]; simp, fun _ => by rw [bt_hd (by omega)]; omega⟩, ?_, ?_⟩
   ·rw [V_four (by omega) (by omega) (by omega) (by omega)]; omega
   ·refine pack_put (by omega) (by omega) (by omega) (by simp) (by simp) (.inr (by rw [p24]; omega)) ?_
    rw [p24]
    refine pack_put (s := 16) (by omega) (by omega) (by omega) (by simp) (by simp) (.inl (by simp)) ?_
    rw [p16]
    refine pack_put (s := 8) (by omega) (by omega) (by omega) (by simp) (by simp) (.inl (by simp)) ?_
    rw [p8]
    refine pack_put (s := 0) (by omega) (by omega) (by omega) (by simp) (by simp) (.inl (by simp)) ?_
    rw [p0]
    exact pack_end (by omega) (by omega) (by omega) pack_done
  ·have s24 : ∀ {e : ByteArray}, Ev (fun k => r1pack.l1 k [(p : Int), 0] [] 0 16) e → Ev (fun k => r1pack.l1 k [(p : Int), 0] [] 0 24) e := fun h => pack_zero (by omega) (by omega) (by omega) (by simp) (by rw [p24]; omega) h
   by_cases h16 : 65536 ≤ p
   ·refine ⟨strOfNums [(p : Int) / 65536 % 256, (p : Int) / 256 % 256, (p : Int) % 256], ⟨by rw [strOfNums_size]; simp, fun _ => by rw [bt_hd (by omega)]; omega⟩, ?_, s24 ?_⟩
    ·rw [V_three (by omega) (by omega) (by omega)]; omega
    ·refine pack_put (s := 16) (by omega) (by omega) (by omega) (by simp) (by simp) (.inr (by rw [p16]; omega)) ?_
     rw [p16]
     refine pack_put (s := 8) (by omega) (by omega) (by omega) (by simp) (by simp) (.inl (by simp)) ?_
     rw [p8]
     refine pack_put (s := 0) (by omega) (by omega) (by omega) (by simp) (by simp) (.inl (by simp)) ?_
     rw [p0]
     exact pack_end (by omega) (by omega) (by omega) pack_done
   ·have s16 : ∀ {e : ByteArray}, Ev (fun k => r1pack.l1 k [(p : Int), 0] [] 0 8) e → Ev (fun k => r1pack.l1 k [(p : Int), 0] [] 0 24) e := fun h => s24 (pack_zero (s := 16) (by omega) (by omega) (by omega) (by simp) (by rw [p16]; omega) h)
    by_cases h8 : 256 ≤ p
    ·refine ⟨strOfNums [(p : Int) / 256 % 256, (p : Int) % 256], ⟨by rw [strOfNums_size]; simp, fun _ => by rw [bt_hd (by omega)]; omega⟩, ?_, s16 ?_⟩
     ·rw [V_two (by omega) (by omega)]; omega
     ·refine pack_put (s := 8) (by omega) (by omega) (by omega) (by simp) (by simp) (.inr (by rw [p8]; omega)) ?_
      rw [p8]
      refine pack_put (s := 0) (by omega) (by omega) (by omega) (by simp) (by simp) (.inl (by simp)) ?_
      rw [p0]
      exact pack_end (by omega) (by omega) (by omega) pack_done
    ·have s8 : ∀ {e : ByteArray}, Ev (fun k => r1pack.l1 k [(p : Int), 0] [] 0 0) e → Ev (fun k => r1pack.l1 k [(p : Int), 0] [] 0 24) e := fun h => s16 (pack_zero (s := 8) (by omega) (by omega) (by omega) (by simp) (by rw [p8]; omega) h)
     by_cases hp0 : p = 0
     ·refine ⟨strOfNums [], ⟨by rw [strOfNums_size]; simp, fun h => by rw [strOfNums_size] at h; simp at h⟩, ?_, s8 ?_⟩
      ·rw [strOfNums_size, hp0]; rfl
      ·refine pack_zero (s := 0) (by omega) (by omega) (by omega) (by simp) (by rw [p0]; omega) ?_
       exact pack_end (by omega) (by omega) (by omega) pack_done
     ·refine ⟨strOfNums [(p : Int) % 256], ⟨by rw [strOfNums_size]; simp, fun _ => by rw [bt_hd (by omega)]; omega⟩, ?_, s8 ?_⟩
      ·rw [V_one (by omega)]; omega
      ·refine pack_put (s := 0) (by omega) (by omega) (by omega) (by simp) (by simp) (.inr (by rw [p0]; omega)) ?_
       rw [p0]
       exact pack_end (by omega) (by omega) (by omega) pack_done
 obtain ⟨e, h1, h3, h4⟩ := key
 have hall : Ev (fun k => r1pack.l0 k [(p : Int), 0] [] 1) e := by
  refine pack_next (by omega) ?_
  refine pack_zero (by omega) (by omega) (by omega) (by simp) (z 24 (by omega)) ?_
  refine pack_zero (s := 16) (by omega) (by omega) (by omega) (by simp) (z 16 (by omega)) ?_
  refine pack_zero (s := 8) (by omega) (by omega) (by omega) (by simp) (z 8 (by omega)) ?_
  refine pack_zero (s := 0) (by omega) (by omega) (by omega) (by simp) (z 0 (by omega)) ?_
  refine pack_end (by omega) (by omega) (by omega) ?_
  exact pack_next (i := 0) (by omega) h4
 obtain ⟨K, hK⟩ := hall
 dsimp only at hK
 refine ⟨e, h1, h3, K, fun k hk => ?_⟩
 simp only [r1FromInt.f, r1Of.f, r1pack.f]
 rw [hw, hm, hd]
 have e1 : wrap64 ((([(p : Int), 0] : List Int).length : Int) - 1) = 1 := by rw [wrap_id (by simp) (by simp)]; rfl
 rw [e1, hK k hk, Option.bind_some, Option.bind_some]
def lexc : List Int → List Int → Int
 | a :: l, b :: m => if a = b then lexc l m else if a < b then -1 else 1
 | _, _ => 0
def cmpL (l m : List Int) : Int := if l.length = m.length then lexc l m else if l.length < m.length then -1 else 1
theorem cmp_int (a b : Int) : cmp_Compare_int.f a b = some (if a < b then -1 else if a > b then 1 else 0) := by
 simp only [cmp_Compare_int.f, cmp_isNaN_int.f]
 rw [bne_self_eq_false, bne_self_eq_false, Option.bind_some, Option.bind_some, if_neg (by simp), if_neg (by simp)]
 split
 ·rfl
 ·split <;> rfl
theorem cmp_loop (l m : List Int) (h : l.length = m.length) (hl : l.length ≤ 1000000) : ∀ (d i : Nat), i + d = l.length → Ev (fun k => api_ModPoly_int_116.l0 k l m l (l.length : Int) i) (lexc (l.drop i) (m.drop i)) := by
 intro d
 induction d with
 | zero =>
  intro i hi
  refine ⟨1, fun k hk => ?_⟩
  obtain ⟨k', rfl, hk'⟩ := ex_succ hk
  simp only [api_ModPoly_int_116.l0]
  rw [if_neg (by omega), if_neg (by omega), List.drop_of_length_le (by omega)]
  rfl
 | succ d ih =>
  intro i hi
  obtain ⟨K, hK⟩ := ih (i + 1) (by omega)
  dsimp only at hK
  have e1 : l.drop i = l.getD i 0 :: l.drop (i + 1) := by rw [List.drop_eq_getElem_cons (by omega), List.getD_eq_getElem?_getD, List.getElem?_eq_getElem (by omega)]; rfl
  have e2 : m.drop i = m.getD i 0 :: m.drop (i + 1) := by rw [List.drop_eq_getElem_cons (by omega), List.getD_eq_getElem?_getD, List.getElem?_eq_getElem (by omega)]; rfl
  rw [e1, e2]
  refine ⟨K + 1, fun k hk => ?_⟩
  obtain ⟨k', rfl, hk'⟩ := ex_succ hk
  simp only [api_ModPoly_int_116.l0]
  rw [if_pos (by omega), if_pos (by omega), if_pos (by omega), if_neg (by omega), if_pos (by omega), cmp_int, Option.bind_some, rd_nat, rd_nat, succ_wrap (by omega)]
  unfold lexc
  by_cases h1 : l.getD i 0 = m.getD i 0
  ·have ev : (if l.getD i 0 < m.getD i 0 then (-1 : Int) else if l.getD i 0 > m.getD i 0 then 1 else 0) = 0 := by rw [if_neg (by omega), if_neg (by omega)]
   rw [ev, if_pos rfl, if_pos h1]
   exact hK k' hk'
  ·rw [if_neg h1]
   by_cases h2 : l.getD i 0 < m.getD i 0
   ·have ev : (if l.getD i 0 < m.getD i 0 then (-1 : Int) else if l.getD i 0 > m.getD i 0 then 1 else 0) = -1 := by rw [if_pos h2]
    rw [ev, if_neg (by decide), if_pos h2]
   ·have ev : (if l.getD i 0 < m.getD i 0 then (-1 : Int) else if l.getD i 0 > m.getD i 0 then 1 else 0) = 1 := by rw [if_neg h2, if_pos (by omega)]
    rw [ev, if_neg (by decide), if_neg h2]
theorem Compare_ok (l m : List Int) (hl : l.length ≤ 1000000) : Ev (fun k => pm_Compare.f k l m) (cmpL l m) := by
 unfold cmpL
 by_cases h : l.length = m.length
 ·obtain ⟨K, hK⟩ := cmp_loop l m h hl l.length 0 (by omega)
  dsimp only at hK
  rw [List.drop_zero, List.drop_zero] at hK
  refine ⟨K, fun k hk => ?_⟩
  simp only [pm_Compare.f, api_ModPoly_int_116.f]
  rw [if_pos (by omega), if_pos h, show (0 : Int) = ((0 : Nat) : Int) from rfl, hK k hk, Option.bind_some]
 ·refine ⟨0, fun k hk => ?_⟩
  simp only [pm_Compare.f]
  rw [if_neg (by omega), if_neg h]
  by_cases h2 : l.length < m.length
  ·rw [if_pos (by omega), if_pos h2]
  ·rw [if_neg (by omega), if_neg h2]
end Go.Proofs.YtillaipaanancaaGreat.Q
end
section
namespace Go.Proofs.YtillaipaanancaaGreat.Q
open Go.RowKit Go.Proofs.YtillaipaanancaaGreatW.PrintWords Go.Proofs.YtillaipaanancaaGreat.M
set_option linter.unusedVariables false
theorem dlL_neg : ∀ a b, dlL b a = - dlL a b
 | [], [] => rfl
 | [], _ :: _ => rfl
 | _ :: _, [] => rfl
 | x :: xs, y :: ys => by
  have ih := dlL_neg xs ys
  unfold dlL
  by_cases h1 : x < y
  ·rw [if_pos h1, if_neg (by omega), if_pos h1]; rfl
  ·by_cases h2 : y < x
   ·rw [if_pos h2, if_neg h1, if_pos h2]
   ·rw [if_neg h2, if_neg h1, if_neg h1, if_neg h2]; exact ih
theorem dlL_eq : ∀ a b, dlL a b = 0 → a = b
 | [], [], _ => rfl
 | [], _ :: _, h => by cases h
 | _ :: _, [], h => by cases h
 | x :: xs, y :: ys, h => by
  unfold dlL at h
  split at h
  ·cases h
  ·split at h
   ·cases h
   ·rw [dlL_eq xs ys h, show x = y by omega]
theorem dlL_trans : ∀ a b c, dlL a b < 0 → dlL b c < 0 → dlL a c < 0
 | [], [], _, h, _ => by simp [dlL] at h
 | [], _ :: _, [], _, h => by simp [dlL] at h
 | [], _ :: _, _ :: _, _, _ => by simp [dlL]
 | _ :: _, [], _, h, _ => by simp [dlL] at h
 | _ :: _, _ :: _, [], _, h => by simp [dlL] at h
 | x :: xs, y :: ys, z :: zs, h1, h2 => by
  have ih := dlL_trans xs ys zs
  unfold dlL at h1 h2 ⊢
  split at h1
  ·split at h2
   ·rw [if_pos (by omega)]; omega
   ·split at h2
    ·omega
    ·rw [if_pos (by omega)]; omega
  ·split at h1
   ·omega
   ·split at h2
    ·rw [if_pos (by omega)]; omega
    ·split at h2
     ·omega
     ·rw [if_neg (by omega), if_neg (by omega)]; exact ih h1 h2
theorem dlP_neg (a b : List Int) : dlP b a = - dlP a b := by
 unfold dlP
 by_cases h : a.length = b.length
 ·rw [if_pos h, if_pos h.symm]; exact dlL_neg a b
 ·rw [if_neg h, if_neg (Ne.symm h)]
  by_cases h2 : a.length < b.length
  ·rw [if_pos h2, if_neg (by omega)]; rfl
  ·rw [if_neg h2, if_pos (by omega)]
theorem dlP_eq (a b : List Int) (h : dlP a b = 0) : a = b := by
 unfold dlP at h
 split at h
 ·exact dlL_eq a b h
 ·split at h <;> cases h
theorem dlP_trans (a b c : List Int) (h1 : dlP a b < 0) (h2 : dlP b c < 0) : dlP a c < 0 := by
 unfold dlP at h1 h2 ⊢
 split at h1
 ·split at h2
  ·rw [if_pos (by omega)]; exact dlL_trans a b c h1 h2
  ·split at h2
   ·rw [if_neg (by omega), if_pos (by omega)]; omega
   ·omega
 ·split at h1
  ·split at h2
   ·rw [if_neg (by omega), if_pos (by omega)]; omega
   ·split at h2
    ·rw [if_neg (by omega), if_pos (by omega)]; omega
    ·omega
  ·omega
theorem dlL_lexc : ∀ a b, a.length = b.length → dlL a b = lexc a b
 | [], [], _ => rfl
 | [], _ :: _, h => by simp at h
 | _ :: _, [], h => by simp at h
 | x :: xs, y :: ys, h => by
  have ih := dlL_lexc xs ys (by simpa using h)
  unfold dlL lexc
  by_cases h1 : x < y
  ·rw [if_pos h1, if_neg (by omega), if_pos h1]
  ·by_cases h2 : y < x
   ·rw [if_neg h1, if_pos h2, if_neg (by omega), if_neg h1]
   ·rw [if_neg h1, if_neg h2, if_pos (by omega)]; exact ih
theorem dlP_cmp (a b : List Int) : dlP a b = cmpL a b := by
 unfold dlP cmpL
 by_cases h : a.length = b.length
 ·rw [if_pos h, if_pos h]; exact dlL_lexc a b h
 ·rw [if_neg h, if_neg h]
end Go.Proofs.YtillaipaanancaaGreat.Q
end
section
namespace Go.Proofs.YtillaipaanancaaGreat.Q
open Go.RowKit Go.Proofs.YtillaipaanancaaGreatW.PrintWords Go.Proofs.YtillaipaanancaaGreatW.PrintLast Go.Proofs.YtillaipaanancaaGreatW.PrintMore Go.Proofs.YtillaipaanancaaGreat.M Go.Proofs.YtillaipaanancaaGreat.M.ZX
set_option linter.unusedVariables false
set_option linter.unusedSimpArgs false
theorem ref_cmp_loop (l m : List Int) (h : l.length = m.length) (hl : l.length ≤ 1000000) : ∀ (d i : Nat), i + d = l.length → Ev (fun k => r9Compare.l0 k l m i) (lexc (l.drop i) (m.drop i)) := by
 intro d
 induction d with
 | zero =>
  intro i hi
  refine ⟨1, fun k hk => ?_⟩
  obtain ⟨k', rfl, hk'⟩ := ex_succ hk
  simp only [r9Compare.l0]
  rw [if_neg (by omega), List.drop_of_length_le (by omega)]
  rfl
 | succ d ih =>
  intro i hi
  obtain ⟨K, hK⟩ := ih (i + 1) (by omega)
  dsimp only at hK
  have e1 : l.drop i = l.getD i 0 :: l.drop (i + 1) := by rw [List.drop_eq_getElem_cons (by omega), List.getD_eq_getElem?_getD, List.getElem?_eq_getElem (by omega)]; rfl
  have e2 : m.drop i = m.getD i 0 :: m.drop (i + 1) := by rw [List.drop_eq_getElem_cons (by omega), List.getD_eq_getElem?_getD, List.getElem?_eq_getElem (by omega)]; rfl
  rw [e1, e2]
  refine ⟨K + 1, fun k hk => ?_⟩
  obtain ⟨k', rfl, hk'⟩ := ex_succ hk
  simp only [r9Compare.l0]
  rw [if_pos (by omega), if_pos (by omega), if_pos (by omega), rd_nat, rd_nat, succ_wrap (by omega)]
  unfold lexc
  by_cases h1 : l.getD i 0 = m.getD i 0
  ·rw [if_neg (by omega), if_neg (by omega), if_pos h1]
   exact hK k' hk'
  ·rw [if_neg h1]
   by_cases h2 : l.getD i 0 < m.getD i 0
   ·rw [if_pos h2, if_pos h2]
   ·rw [if_neg h2, if_pos (by omega), if_neg h2]
theorem ref_Compare_ok (l m : List Int) (hl : l.length ≤ 1000000) : Ev (fun k => r9Compare.f k l m) (cmpL l m) := by
 unfold cmpL
 by_cases h : l.length = m.length
 ·obtain ⟨K, hK⟩ := ref_cmp_loop l m h hl l.length 0 (by omega)
  dsimp only at hK
  rw [List.drop_zero, List.drop_zero] at hK
  refine ⟨K, fun k hk => ?_⟩
  simp only [r9Compare.f]
  rw [if_pos (by omega), if_pos h, show (0 : Int) = ((0 : Nat) : Int) from rfl, hK k hk]
 ·refine ⟨0, fun k hk => ?_⟩
  simp only [r9Compare.f]
  rw [if_neg (by omega), if_neg h]
  by_cases h2 : l.length < m.length
  ·rw [if_pos (by omega), if_pos h2]
  ·rw [if_neg (by omega), if_neg h2]
end Go.Proofs.YtillaipaanancaaGreat.Q
end

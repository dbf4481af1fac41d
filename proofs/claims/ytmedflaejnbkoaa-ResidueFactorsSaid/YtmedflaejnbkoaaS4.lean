/- What the printed factorizations, totients and orders of residue computes. No conditions. -/
import Derived.Test.YtmedflaejnbkoaaS3
import Derived.Test.YtmedflaejnbkoaaQG0
import Derived.Test.YtmedflaejnbkoaaQG1
import Derived.Test.YtmedflaejnbkoaaQG2
namespace Go.Proofs.Ytmedflaejnbkoaa.Q
open Go.RowKit Go.Proofs.YtmedflaejnbkoaaW.PrintWords Go.Proofs.YtmedflaejnbkoaaW.PrintLast Go.Proofs.YtmedflaejnbkoaaW.PrintMore Go.Proofs.Ytmedflaejnbkoaa.M
set_option linter.unusedVariables false
set_option linter.unusedSimpArgs false

def toS (q : Nat × Nat) : S53 := ⟨q.1, q.2⟩
theorem toS_f0 (q : Nat × Nat) : (toS q).f0 = (q.1 : Int) := id rfl
theorem toS_f1 (q : Nat × Nat) : (toS q).f1 = (q.2 : Int) := id rfl
/-- The factorization as the program's list. -/
noncomputable def facS (n : Nat) : List S53 := (fac n).map toS
theorem rd_at (pre : List (Nat × Nat)) (q : Nat × Nat) (rest : List (Nat × Nat)) : rd_T53 ((pre ++ q :: rest).map toS) (pre.length : Int) = toS q := by
  unfold rd_T53
  rw [Int.toNat_natCast, List.getD_eq_getElem?_getD, List.getElem?_map, List.getElem?_append_right (Nat.le_refl _)]
  simp
theorem len_lt : ∀ {l : List (Nat × Nat)}, (∀ q ∈ l, Prm q.1 ∧ 1 ≤ q.2) → l.length < prodL l
  | [], _ => by simp [prodL]
  | q :: l, h => by
    have h1 := len_lt fun q hq => h q (List.mem_cons_of_mem _ hq)
    have h2 := h q List.mem_cons_self
    have h3 : 2 ≤ q.1 ^ q.2 := Nat.le_trans h2.1.1 (by
      have := Nat.pow_le_pow_right (n := q.1) (by have := h2.1.1; omega) h2.2
      rwa [Nat.pow_one] at this)
    have h4 : 2 * prodL l ≤ q.1 ^ q.2 * prodL l := Nat.mul_le_mul_right _ h3
    simp only [prodL, List.length_cons]
    omega
theorem trial_len {n0 n d : Nat} {l : List (Nat × Nat)} (h : Trial n0 l n d) : l.length ≤ n0 := by
  have h1 := len_lt h.prm
  have h2 : prodL l * 1 ≤ prodL l * n := Nat.mul_le_mul_left _ h.pos
  have h3 := h.prod
  omega
theorem trial_n_le {n0 n d : Nat} {l : List (Nat × Nat)} (h : Trial n0 l n d) : n ≤ n0 := by
  have h2 : 1 * n ≤ prodL l * n := Nat.mul_le_mul_right _ (by have := prodL_pos h.prm; omega)
  have h3 := h.prod
  omega
theorem fac_len {n : Nat} (h : 0 < n) : (fac n).length < n := by
  have := len_lt (fac_spec h).prm
  rwa [(fac_spec h).prod] at this
theorem facS_len {n : Nat} (h : 0 < n) : (facS n).length < n := by unfold facS; rw [List.length_map]; exact fac_len h

theorem tryL_spec (d : Nat) (hd : 2 ≤ d) : ∀ (c m c0 : Nat), ¬ d ∣ m → d ^ c * m ≤ 2147483647 → c0 + c ≤ 4294967296 → Ev (fun k => tryL k (d : Int) ((d ^ c * m : Nat) : Int) (c0 : Int)) ((m : Int), ((c0 + c : Nat) : Int))
  | 0, m, c0, hm, hM, hc => by
    refine ⟨1, fun k hk => ?_⟩
    obtain ⟨j, rfl, hj⟩ := ex_succ hk
    have h0 : m % d ≠ 0 := fun h => hm (Nat.dvd_of_mod_eq_zero h)
    simp only [tryL]
    rw [Nat.pow_zero, Nat.one_mul, if_neg (by omega), Int.tmod_eq_emod_of_nonneg (by omega), show (m : Int) % d = ((m % d : Nat) : Int) by simp, if_neg (by omega)]
    rfl
  | c + 1, m, c0, hm, hM, hc => by
    have e : d ^ (c + 1) * m = d * (d ^ c * m) := by rw [Nat.pow_succ, Nat.mul_comm (d ^ c) d, Nat.mul_assoc]
    have hle : d ^ c * m ≤ d * (d ^ c * m) := Nat.le_mul_of_pos_left _ (by omega)
    obtain ⟨K, h⟩ := tryL_spec d hd c m (c0 + 1) hm (by rw [e] at hM; omega) (by omega)
    dsimp only at h
    refine ⟨K + 1, fun k hk => ?_⟩
    obtain ⟨j, rfl, hj⟩ := ex_succ hk
    have h1 := h j hj
    simp only [tryL]
    rw [e] at hM ⊢
    generalize d ^ c * m = t at *
    have e2 : ((d * t : Nat) : Int) % d = 0 := by rw [← Int.natCast_emod, Nat.mul_mod_right]; rfl
    have e3 : ((d * t : Nat) : Int) / d = t := by rw [← Int.natCast_ediv, Nat.mul_div_cancel_left _ (by omega)]
    rw [if_neg (by omega), Int.tmod_eq_emod_of_nonneg (by omega), if_pos e2, Int.tdiv_eq_ediv_of_nonneg (by omega), e3, wrap_id (by omega) (by omega), wrap_id (by omega) (by omega)]
    rw [show c0 + 1 + c = c0 + (c + 1) by omega] at h1
    exact h1
theorem tryF_spec (d : Nat) (hd : 2 ≤ d) (c m : Nat) (l : List (Nat × Nat)) (hm : ¬ d ∣ m) (hM : d ^ c * m ≤ 2147483647) (hl : l.length ≤ 2147483647) : Ev (fun k => tryF k (d : Int) ((d ^ c * m : Nat) : Int) (l.map toS)) ((m : Int), (if 0 < c then l ++ [(d, c)] else l).map toS) := by
  have hc : c ≤ 2147483647 := by
    have h1 : c < 2 ^ c := Nat.lt_two_pow_self
    have h2 : 2 ^ c ≤ d ^ c := Nat.pow_le_pow_left hd c
    have h3 : 0 < m := by
      rcases Nat.eq_zero_or_pos m with rfl | h
      · exact absurd ⟨0, by simp⟩ hm
      · exact h
    have h4 : d ^ c * 1 ≤ d ^ c * m := Nat.mul_le_mul_left _ h3
    omega
  obtain ⟨K, h⟩ := tryL_spec d hd c m 0 hm hM (by omega)
  dsimp only at h
  refine ⟨K, fun k hk => ?_⟩
  have h1 := h k hk
  rw [Nat.zero_add] at h1
  simp only [tryF]
  rw [show ((0 : Nat) : Int) = 0 from rfl] at h1
  rw [h1, Option.bind_some]
  by_cases h0 : 0 < c
  · rw [if_pos (by simp; omega), if_pos (by rw [List.length_map]; omega), if_pos h0, List.map_append]
    rfl
  · rw [if_neg (by simp; omega), if_neg h0]
theorem factor_loop (N : Nat) (hN : N ≤ 2147483647) : ∀ (M d n : Nat) (l : List (Nat × Nat)), N + 4 ≤ d + M → Trial N l n d → 3 ≤ d → d % 2 = 1 → d ≤ 46342 → ∃ K, ∀ kk k, K ≤ kk → K ≤ k → residue_factor.l0 kk k (n : Int) (l.map toS) (d : Int) = some (facS N) := by
  intro M
  induction M with
  | zero =>
    intro d n l h1 ht h3 hodd h5
    -- d is beyond N: nothing is left
    have hn := trial_n_le ht
    have hpos := ht.pos
    have hdd : n < d * d := by
      have : 2 * d ≤ d * d := Nat.mul_le_mul_right d (by omega)
      omega
    refine ⟨1, fun kk k _ hk => ?_⟩
    obtain ⟨j, rfl, hj⟩ := ex_succ hk
    have h1n : n = 1 := by
      apply Classical.byContradiction
      intro h
      have := ht.last (by omega) hdd
      omega
    have hw : d * d ≤ 46342 * 46342 := Nat.mul_le_mul h5 h5
    simp only [residue_factor.l0]
    rw [← Int.natCast_mul, wrap_id (by omega) (by omega), if_neg (by omega), if_neg (by omega)]
    unfold facS
    rw [(ht.done h1n).eq_fac]
  | succ M ih =>
    intro d n l h1 ht h3 hodd h5
    have hw : d * d ≤ 46342 * 46342 := Nat.mul_le_mul h5 h5
    have hn := trial_n_le ht
    have hpos := ht.pos
    have hlen := trial_len ht
    by_cases hdd : d * d ≤ n
    · obtain ⟨c, m, e, hm⟩ := exists_pow_split d (by omega) n ht.pos
      have ht2 := ht.divided (by omega) e hm
      have hd2 : d ≤ 46340 := by
        apply Classical.byContradiction
        intro h
        have : 46341 * 46341 ≤ d * d := Nat.mul_le_mul (by omega) (by omega)
        omega
      have ht3 : Trial N (if 0 < c then l ++ [(d, c)] else l) m (d + 2) := ht2.skip (by omega) fun p hp hpm => by
        have h6 := ht2.big p hp hpm
        have h7 : p ≠ d + 1 := by
          rintro rfl
          rcases hp.2 2 ⟨(d + 1) / 2, by omega⟩ with h | h <;> omega
        omega
      obtain ⟨K, hK⟩ := ih (d + 2) m _ (by omega) ht3 (by omega) (by omega) (by omega)
      obtain ⟨K2, h2⟩ := tryF_spec d (by omega) c m l hm (by rw [← e]; omega) (by omega)
      dsimp only at h2
      rw [← e] at h2
      refine ⟨K + K2 + 1, fun kk k hkk hk => ?_⟩
      obtain ⟨j, rfl, hj⟩ := ex_succ hk
      simp only [residue_factor.l0]
      rw [← Int.natCast_mul, wrap_id (by omega) (by omega), if_pos (by omega), h2 kk (by omega), Option.bind_some, wrap_id (by omega) (by omega)]
      exact hK kk j (by omega) (by omega)
    · by_cases h1n : n = 1
      · refine ⟨1, fun kk k _ hk => ?_⟩
        obtain ⟨j, rfl, hj⟩ := ex_succ hk
        simp only [residue_factor.l0]
        rw [← Int.natCast_mul, wrap_id (by omega) (by omega), if_neg (by omega), if_neg (by omega)]
        unfold facS
        rw [(ht.done h1n).eq_fac]
      · have ht2 := ht.last' (by omega) (by omega)
        have ht3 := ht2.divided (c := 1) (m := 1) (by omega) (by simp) (fun h => by have := Nat.le_of_dvd (by omega) h; omega)
        obtain ⟨K2, h2⟩ := tryF_spec n (by omega) 1 1 l (fun h => by have := Nat.le_of_dvd (by omega) h; omega) (by simp; omega) (by omega)
        dsimp only at h2
        rw [Nat.pow_one, Nat.mul_one] at h2
        refine ⟨K2 + 1, fun kk k hkk hk => ?_⟩
        obtain ⟨j, rfl, hj⟩ := ex_succ hk
        simp only [residue_factor.l0]
        rw [← Int.natCast_mul, wrap_id (by omega) (by omega), if_neg (by omega), if_pos (by omega), h2 kk (by omega), Option.bind_some]
        unfold facS
        rw [← (ht3.done rfl).eq_fac]
theorem factor_spec {n : Nat} (h0 : 0 < n) (hN : n ≤ 2147483647) : Ev (fun k => residue_factor.f k (n : Int)) (facS n) := by
  obtain ⟨c, m, e, hm⟩ := exists_pow_split 2 (by omega) n h0
  have ht := (Trial.start h0).divided (by omega) e hm
  obtain ⟨K, hK⟩ := factor_loop n hN (n + 4) 3 m _ (by omega) ht (by omega) (by omega) (by omega)
  obtain ⟨K2, h2⟩ := tryF_spec 2 (by omega) c m [] hm (by rw [← e]; omega) (by simp)
  dsimp only at h2
  rw [← e] at h2
  refine ⟨K + K2, fun k hk => ?_⟩
  have h3 := h2 k (by omega)
  simp only [residue_factor.f]
  rw [show ((2 : Nat) : Int) = 2 from rfl] at h3
  rw [List.map_nil] at h3
  rw [h3, Option.bind_some]
  exact hK k k (by omega) (by omega)
theorem prime_spec {n : Nat} (h0 : 0 < n) (hN : n ≤ 2147483647) : ∃ b : Bool, (b = true ↔ Prm n) ∧ Ev (fun k => residue_prime.f k (n : Int)) b := by
  obtain ⟨K, hK⟩ := factor_spec h0 hN
  dsimp only at hK
  by_cases h1 : (fac n).length = 1
  · obtain ⟨q, hq⟩ := List.length_eq_one_iff.1 h1
    refine ⟨((q.2 : Int) == 1), ?_, K, fun k hk => ?_⟩
    · rw [beq_iff_eq, fac_prm_iff h0, hq]
      constructor
      · intro h; exact ⟨q.1, by rw [show q = (q.1, q.2) from rfl, show q.2 = 1 by omega]⟩
      · rintro ⟨p, h⟩
        have := (List.cons.inj h).1
        rw [this]
        rfl
    · simp only [residue_prime.f]
      rw [hK k hk, Option.bind_some]
      have hl : (facS n).length = 1 := by unfold facS; rw [List.length_map]; exact h1
      rw [hl, if_pos (by omega), if_pos (by omega)]
      unfold facS
      rw [hq]
      have := rd_at [] q []
      simp only [List.nil_append, List.length_nil] at this
      rw [show (0 : Int) = ((0 : Nat) : Int) from rfl, this]
      rfl
  · refine ⟨false, ?_, K, fun k hk => ?_⟩
    · rw [fac_prm_iff h0]
      constructor
      · intro h; cases h
      · rintro ⟨p, h⟩; rw [h] at h1; exact absurd rfl h1
    · simp only [residue_prime.f]
      rw [hK k hk, Option.bind_some]
      have hl : (facS n).length = (fac n).length := by unfold facS; rw [List.length_map]
      rw [if_neg (by omega)]
theorem prodL_split (pre : List (Nat × Nat)) (q : Nat × Nat) (rest : List (Nat × Nat)) : prodL (pre ++ q :: rest) = prodL pre * (q.1 ^ q.2 * prodL rest) := by rw [prodL_append]; rfl
theorem totient_loop (N : Nat) (hN : N ≤ 2147483647) : ∀ (rest pre : List (Nat × Nat)), FacL (pre ++ rest) N → Ev (fun k => residue_totient.l0 k ((phiL pre * prodL rest : Nat) : Int) ((pre ++ rest).map toS) ((((pre ++ rest).map toS).length : Nat) : Int) (pre.length : Int)) (phiL (pre ++ rest) : Int)
  | [], pre, hf => by
    refine ⟨1, fun k hk => ?_⟩
    obtain ⟨j, rfl, hj⟩ := ex_succ hk
    simp only [residue_totient.l0]
    rw [if_neg (by simp), List.append_nil, prodL, Nat.mul_one]
  | q :: rest, pre, hf => by
    have hq := hf.prm q (by simp)
    have hlen := len_lt hf.prm
    rw [hf.prod] at hlen
    have hlen2 : pre.length < (pre ++ q :: rest).length := by simp
    obtain ⟨K, hK⟩ := totient_loop N hN rest (pre ++ [q]) (by rw [List.append_assoc]; exact hf)
    dsimp only at hK
    rw [List.append_assoc, List.singleton_append] at hK
    refine ⟨K + 1, fun k hk => ?_⟩
    obtain ⟨j, rfl, hj⟩ := ex_succ hk
    have h1 := hK j hj
    simp only [residue_totient.l0]
    have hq1 := hq.1.1
    have e1 : phiL pre * prodL (q :: rest) = q.1 * (phiL pre * (q.1 ^ (q.2 - 1) * prodL rest)) := by
      rw [prodL, show q.1 ^ q.2 = q.1 * q.1 ^ (q.2 - 1) by rw [Nat.mul_comm, ← Nat.pow_succ]; congr 1; omega, Nat.mul_assoc, Nat.mul_left_comm]
    have e2 : phiL (pre ++ [q]) * prodL rest = phiL pre * (q.1 ^ (q.2 - 1) * prodL rest) * (q.1 - 1) := by
      rw [phiL_append, phiL, phiL, Nat.mul_one]
      simp only [Nat.mul_assoc, Nat.mul_left_comm, Nat.mul_comm]
    have hb : phiL pre * prodL (q :: rest) ≤ N := by
      rw [← hf.prod, prodL_append]
      exact Nat.mul_le_mul_right _ (phiL_le fun q hq => hf.prm q (List.mem_append_left _ hq))
    rw [if_pos (by rw [List.length_map]; omega), if_pos (by omega), if_pos (by rw [List.length_map]; omega), rd_at]
    simp only [toS_f0, toS_f1]
    rw [e2] at h1
    rw [e1] at hb ⊢
    generalize phiL pre * (q.1 ^ (q.2 - 1) * prodL rest) = t at *
    have ht : t * (q.1 - 1) ≤ q.1 * t := by rw [Nat.mul_comm]; exact Nat.mul_le_mul_right _ (by omega)
    have htq : t ≤ q.1 * t := Nat.le_mul_of_pos_left _ (by omega)
    have hqt : q.1 ≤ N := Nat.le_of_dvd hf.pos (hf.mem_dvd1 (by simp))
    have e3 : ((q.1 * t : Nat) : Int).tdiv q.1 = t := by rw [Int.tdiv_eq_ediv_of_nonneg (by omega), ← Int.natCast_ediv, Nat.mul_div_cancel_left _ (by omega)]
    have e4 : (t : Int) * ((q.1 : Int) - 1) = ((t * (q.1 - 1) : Nat) : Int) := by rw [Int.natCast_mul, Int.natCast_sub (by omega)]; rfl
    rw [if_neg (by omega), e3, wrap_id (x := (t : Int)) (by omega) (by omega), wrap_id (x := (q.1 : Int) - 1) (by omega) (by omega), e4, wrap_id (by omega) (by omega), wrap_id (by omega) (by omega)]
    rw [List.length_append, List.length_singleton] at h1
    exact h1
theorem totient_spec {n : Nat} (h0 : 0 < n) (hN : n ≤ 2147483647) : Ev (fun k => residue_totient.f k (n : Int)) (phi n : Int) := by
  obtain ⟨K, hK⟩ := factor_spec h0 hN
  obtain ⟨K2, hK2⟩ := totient_loop n hN (fac n) [] (fac_spec h0)
  dsimp only at hK hK2
  refine ⟨K + K2, fun k hk => ?_⟩
  have h2 := hK2 k (by omega)
  simp only [residue_totient.f]
  rw [hK k (by omega), Option.bind_some]
  rw [List.nil_append, phiL, Nat.one_mul, (fac_spec h0).prod] at h2
  exact h2
theorem Totient_spec {n : Nat} (h0 : 0 < n) (hN : n ≤ 2147483647) : Ev (fun k => residue_Totient.f k (n : Int)) ((phi n : Int), 0) := by
  obtain ⟨K, hK⟩ := totient_spec h0 hN
  dsimp only at hK
  refine ⟨K, fun k hk => ?_⟩
  simp only [residue_Totient.f]
  rw [bad_one (by omega) (by omega), Option.bind_some, if_neg (by simp), hK k hk, Option.bind_some]
theorem Factor_prog {n : Nat} (h0 : 0 < n) (hN : n ≤ 2147483647) : Ev (fun k => residue_Factor.f k (n : Int)) (facS n, 0) := by
  obtain ⟨K, hK⟩ := factor_spec h0 hN
  dsimp only at hK
  refine ⟨K, fun k hk => ?_⟩
  simp only [residue_Factor.f]
  rw [bad_one (by omega) (by omega), Option.bind_some, if_neg (by simp), hK k hk, Option.bind_some]

/-! ### the order -/
def Red (a m k p : Nat) : Prop := p ∣ k → a ^ (k / p) % m ≠ 1 % m
theorem Red.down {a m k k' p : Nat} (hp : 0 < p) (h : Red a m k p) (hk : k' ∣ k) (h1 : a ^ k' % m = 1 % m) (h0 : 0 < k') : Red a m k' p := by
  intro hd h2
  obtain ⟨s, rfl⟩ := hd
  obtain ⟨t, rfl⟩ := hk
  refine h ⟨s * t, by rw [Nat.mul_assoc]⟩ ?_
  rw [Nat.mul_assoc, Nat.mul_div_cancel_left _ hp]
  rw [Nat.mul_div_cancel_left _ hp] at h2
  exact pow_mul_mod h2
theorem order_loop (a : Int) {m F : Nat} (hm : 0 < m) (hM : m ≤ 2147483647) (hF0 : 0 < F) (hF : F ≤ 2147483647) {o : Nat} (ho : IsOrd (res a m) m o) : ∀ (rest pre : List (Nat × Nat)), pre ++ rest = fac F →
    ∀ k' : Nat, 0 < k' → k' ∣ F → res a m ^ k' % m = 1 % m → (∀ q ∈ pre, Red (res a m) m k' q.1) → Ev (fun k => residue_Order.l0 k a (m : Int) (k' : Int) (facS F) (((facS F).length : Nat) : Int) (pre.length : Int)) ((o : Int), 0)
  | [], pre, hpre, k', h0, hd, h1, hr => by
    rw [List.append_nil] at hpre
    refine ⟨1, fun k hk => ?_⟩
    obtain ⟨j, rfl, hj⟩ := ex_succ hk
    have he : k' = o := (isOrd_of_reduced h0 h1 fun p hp hpk => by
      obtain ⟨q, hq, e⟩ := prm_dvd_prodL hp (fac_spec hF0).prm (by rw [(fac_spec hF0).prod]; exact Nat.dvd_trans hpk hd)
      have := hr q (by rw [hpre]; exact hq)
      rw [e] at this
      exact this hpk).unique ho
    simp only [residue_Order.l0]
    have hl : (facS F).length = pre.length := by unfold facS; rw [List.length_map, hpre]
    rw [if_neg (by omega), he]
  | q :: rest, pre, hpre, k', h0, hd, h1, hr => by
    have hf := fac_spec hF0
    have hqm : q ∈ fac F := by rw [← hpre]; simp
    have hq := hf.prm q hqm
    have hqF : q.1 ≤ F := Nat.le_of_dvd hF0 (hf.mem_dvd1 hqm)
    have hlen := fac_len hF0
    have hl : (facS F).length = (fac F).length := by unfold facS; rw [List.length_map]
    have hl2 : pre.length < (fac F).length := by rw [← hpre]; simp
    have hpp := prm_pos hq.1
    have inner : ∀ k' : Nat, 0 < k' → k' ∣ F → res a m ^ k' % m = 1 % m → (∀ q ∈ pre, Red (res a m) m k' q.1) → Ev (fun k => residue_Order.l1 k a (m : Int) (k' : Int) (facS F) (((facS F).length : Nat) : Int) (pre.length : Int) (q.1 : Int) (q.2 : Int)) ((o : Int), 0) := by
      intro k'
      induction k' using Nat.strongRecOn with
      | ind k' ih =>
        intro h0 hd h1 hr
        have hkF : k' ≤ F := Nat.le_of_dvd hF0 hd
        have leave : Red (res a m) m k' q.1 → Ev (fun k => residue_Order.l0 k a (m : Int) (k' : Int) (facS F) (((facS F).length : Nat) : Int) ((pre.length + 1 : Nat) : Int)) ((o : Int), 0) := fun hred => by
          have := order_loop a hm hM hF0 hF ho rest (pre ++ [q]) (by rw [← hpre]; simp) k' h0 hd h1 fun q' hq' => by
            rcases List.mem_append.1 hq' with h | h
            · exact hr q' h
            · rw [List.mem_singleton.1 h]; exact hred
          rw [List.length_append, List.length_singleton] at this
          exact this
        by_cases hdv : q.1 ∣ k'
        · obtain ⟨t, rfl⟩ := hdv
          have ht : 0 < t := Nat.pos_of_mul_pos_left h0
          have htF : t ≤ q.1 * t := Nat.le_mul_of_pos_left _ hpp
          have e1 : ((q.1 * t : Nat) : Int) / (q.1 : Int) = (t : Int) := by rw [← Int.natCast_ediv, Nat.mul_div_cancel_left _ hpp]
          have e2 : ((q.1 * t : Nat) : Int) % (q.1 : Int) = 0 := by rw [← Int.natCast_emod, Nat.mul_mod_right]; rfl
          obtain ⟨K2, h2⟩ := power_spec a (e := t) hm hM (by omega)
          dsimp only at h2
          by_cases hone : res a m ^ t % m = 1 % m
          · have hlt : t < q.1 * t := by
              have : 1 * t < q.1 * t := Nat.mul_lt_mul_of_pos_right (by have := hq.1.1; omega) ht
              omega
            obtain ⟨K, hK⟩ := ih t hlt ht (Nat.dvd_trans ⟨q.1, Nat.mul_comm _ _⟩ hd) hone fun q' hq' => (hr q' hq').down (prm_pos (hf.prm q' (by rw [← hpre]; exact List.mem_append_left _ hq')).1) ⟨q.1, Nat.mul_comm _ _⟩ hone ht
            dsimp only at hK
            refine ⟨K + K2 + 1, fun k hk => ?_⟩
            obtain ⟨j, rfl, hj⟩ := ex_succ hk
            simp only [residue_Order.l1]
            rw [if_neg (by omega), Int.tmod_eq_emod_of_nonneg (by omega), if_pos e2, Int.tdiv_eq_ediv_of_nonneg (by omega), e1, wrap_id (by omega) (by omega), h2 j (by omega), Option.bind_some, if_neg (by omega), if_pos, hK j (by omega)]
            rw [hone]
            simp
          · obtain ⟨K, hK⟩ := leave fun _ => by rw [Nat.mul_div_cancel_left _ hpp]; exact hone
            dsimp only at hK
            refine ⟨K + K2 + 1, fun k hk => ?_⟩
            obtain ⟨j, rfl, hj⟩ := ex_succ hk
            simp only [residue_Order.l1]
            rw [if_neg (by omega), Int.tmod_eq_emod_of_nonneg (by omega), if_pos e2, Int.tdiv_eq_ediv_of_nonneg (by omega), e1, wrap_id (by omega) (by omega), h2 j (by omega), Option.bind_some, if_neg (by omega), if_neg, wrap_id (by omega) (by omega)]
            · exact hK j (by omega)
            · intro h
              apply hone
              have : ((res a m ^ t % m : Nat) : Int) = ((1 % m : Nat) : Int) := by rw [h]; simp
              exact Int.ofNat_inj.1 this
        · obtain ⟨K, hK⟩ := leave fun h => absurd h hdv
          dsimp only at hK
          refine ⟨K + 1, fun k hk => ?_⟩
          obtain ⟨j, rfl, hj⟩ := ex_succ hk
          have hne : k' % q.1 ≠ 0 := fun h => hdv (Nat.dvd_of_mod_eq_zero h)
          simp only [residue_Order.l1]
          rw [if_neg (by omega), Int.tmod_eq_emod_of_nonneg (by omega), if_neg (by rw [← Int.natCast_emod]; omega), wrap_id (by omega) (by omega)]
          exact hK j (by omega)
    obtain ⟨K, hK⟩ := inner k' h0 hd h1 hr
    dsimp only at hK
    refine ⟨K + 1, fun k hk => ?_⟩
    obtain ⟨j, rfl, hj⟩ := ex_succ hk
    simp only [residue_Order.l0]
    have e : rd_T53 (facS F) (pre.length : Int) = toS q := by unfold facS; rw [← hpre, rd_at]
    rw [if_pos (by omega), if_pos (by omega), if_pos (by omega), e]
    simp only [toS_f0, toS_f1]
    exact hK j hj
theorem Order_spec (a : Int) {m : Nat} (hm : 0 < m) (hM : m ≤ 2147483647) {o : Nat} (ho : IsOrd (res a m) m o) : Ev (fun k => residue_Order.f k a (m : Int)) ((o : Int), 0) := by
  have hc := cop_of_pow ho.pos ho.one
  have hp := phi_pos hm
  have hpl := phi_le hm
  obtain ⟨K1, h1⟩ := gcd_spec (res a m) m
  obtain ⟨K2, h2⟩ := totient_spec hm hM
  obtain ⟨K3, h3⟩ := factor_spec hp (by omega)
  obtain ⟨K4, h4⟩ := order_loop a hm hM hp (by omega) ho (fac (phi m)) [] rfl (phi m) hp (Nat.dvd_refl _) (euler hm hc) (by simp)
  dsimp only at h1 h2 h3 h4
  refine ⟨K1 + K2 + K3 + K4, fun k hk => ?_⟩
  simp only [residue_Order.f]
  rw [bad_one (by omega) (by omega), Option.bind_some, if_neg (by simp), mod_nat hm hM, Option.bind_some, h1 k (by omega), Option.bind_some, if_pos, h2 k (by omega), Option.bind_some, h3 k (by omega), Option.bind_some]
  · exact h4 k (by omega)
  · have := hc.symm
    unfold Nat.Coprime at this
    omega
theorem Order_zero (a : Int) {m : Nat} (hm : 0 < m) (hM : m ≤ 2147483647) (hc : ¬ Nat.Coprime (res a m) m) : Ev (fun k => residue_Order.f k a (m : Int)) (0, 6) := by
  obtain ⟨K1, h1⟩ := gcd_spec (res a m) m
  dsimp only at h1
  refine ⟨K1, fun k hk => ?_⟩
  simp only [residue_Order.f]
  rw [bad_one (by omega) (by omega), Option.bind_some, if_neg (by simp), mod_nat hm hM, Option.bind_some, h1 k (by omega), Option.bind_some, if_neg]
  intro h
  exact hc (Nat.Coprime.symm (by unfold Nat.Coprime; omega))
theorem Order_bad (a m : Int) (h : ¬ (1 ≤ m ∧ m ≤ 2147483647)) (k : Nat) : residue_Order.f k a m = some (0, 3) := by
  simp only [residue_Order.f]
  rw [bad_one' h]
  rfl
end Go.Proofs.Ytmedflaejnbkoaa.Q

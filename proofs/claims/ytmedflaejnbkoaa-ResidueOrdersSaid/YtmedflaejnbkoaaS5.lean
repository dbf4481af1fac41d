/- What the printed primitive roots of residue and its reference compute. No conditions. -/
import Derived.Test.YtmedflaejnbkoaaS4
import Derived.Test.YtmedflaejnbkoaaQG0
import Derived.Test.YtmedflaejnbkoaaQF19
namespace Go.Proofs.Ytmedflaejnbkoaa.Q
open Go.RowKit Go.Proofs.YtmedflaejnbkoaaW.PrintWords Go.Proofs.YtmedflaejnbkoaaW.PrintLast Go.Proofs.YtmedflaejnbkoaaW.PrintMore Go.Proofs.Ytmedflaejnbkoaa.M
set_option linter.unusedVariables false
set_option linter.unusedSimpArgs false

/-- g is a primitive root modulo m. -/
def Root (m g : Nat) : Prop := Nat.Coprime g m ∧ IsOrd g m (phi m)
/-- The program's test of g. -/
def Test (m g : Nat) : Prop := ∀ q ∈ fac (phi m), g ^ (phi m / q.1) % m ≠ 1 % m
theorem root_iff {m g : Nat} (hm : 0 < m) (hc : Nat.Coprime g m) : Root m g ↔ Test m g := by
  have hp := phi_pos hm
  constructor
  · rintro ⟨_, ho⟩ q hq h
    have hf := fac_spec hp
    obtain ⟨t, ht⟩ := hf.mem_dvd1 hq
    have hq1 := (hf.prm q hq).1.1
    have ht0 : 0 < t := by
      rcases Nat.eq_zero_or_pos t with rfl | h
      · omega
      · exact h
    rw [ht, Nat.mul_div_cancel_left _ (by omega)] at h
    refine ho.least t ht0 ?_ h
    have : 1 * t < q.1 * t := Nat.mul_lt_mul_of_pos_right (by omega) ht0
    omega
  · intro h
    refine ⟨hc, isOrd_of_reduced hp (euler hm hc) fun p hpp hd => ?_⟩
    obtain ⟨q, hq, e⟩ := prm_dvd_prodL hpp (fac_spec hp).prm (by rw [(fac_spec hp).prod]; exact hd)
    rw [← e]
    exact h q hq
theorem root_inner {m g : Nat} (hm : 0 < m) (hM : m ≤ 2147483647) (hg : g < m) (r : Int × Int)
    (hyes : Test m g → r = ((g : Int), 0)) (hno : ¬ Test m g → Ev (fun k => residue_PrimitiveRoot.l0 k (m : Int) (phi m : Int) (facS (phi m)) ((g + 1 : Nat) : Int)) r) :
    ∀ (rest pre : List (Nat × Nat)), pre ++ rest = fac (phi m) → (∀ q ∈ pre, g ^ (phi m / q.1) % m ≠ 1 % m) →
    Ev (fun k => residue_PrimitiveRoot.l1 k (m : Int) (phi m : Int) (facS (phi m)) (g : Int) (facS (phi m)) (((facS (phi m)).length : Nat) : Int) (pre.length : Int)) r
  | [], pre, hpre, hall => by
    rw [List.append_nil] at hpre
    have hl : (facS (phi m)).length = pre.length := by unfold facS; rw [List.length_map, hpre]
    refine ⟨1, fun k hk => ?_⟩
    obtain ⟨j, rfl, hj⟩ := ex_succ hk
    simp only [residue_PrimitiveRoot.l1]
    rw [if_neg (by omega), hyes]
    intro q hq
    rw [← hpre] at hq
    exact hall q hq
  | q :: rest, pre, hpre, hall => by
    have hp := phi_pos hm
    have hpl := phi_le hm
    have hf := fac_spec hp
    have hqm : q ∈ fac (phi m) := by rw [← hpre]; simp
    have hq1 := (hf.prm q hqm).1.1
    have hlen := fac_len hp
    have hl : (facS (phi m)).length = (fac (phi m)).length := by unfold facS; rw [List.length_map]
    have hl2 : pre.length < (fac (phi m)).length := by rw [← hpre]; simp
    have e : rd_T53 (facS (phi m)) (pre.length : Int) = toS q := by unfold facS; rw [← hpre, rd_at]
    have hdl : phi m / q.1 ≤ phi m := Nat.div_le_self _ _
    obtain ⟨K2, h2⟩ := power_spec (g : Int) (e := phi m / q.1) hm hM (by omega)
    dsimp only at h2
    rw [res_nat, Nat.mod_eq_of_lt hg] at h2
    have e1 : (phi m : Int).tdiv (q.1 : Int) = ((phi m / q.1 : Nat) : Int) := by rw [Int.tdiv_eq_ediv_of_nonneg (by omega)]; simp
    by_cases hone : g ^ (phi m / q.1) % m = 1 % m
    · obtain ⟨K, hK⟩ := hno fun h => h q hqm hone
      dsimp only at hK
      refine ⟨K + K2 + 1, fun k hk => ?_⟩
      obtain ⟨j, rfl, hj⟩ := ex_succ hk
      simp only [residue_PrimitiveRoot.l1]
      rw [if_pos (by omega), if_pos (by omega), if_pos (by omega), e]
      simp only [toS_f0]
      rw [if_neg (by omega), e1, wrap_id (x := ((phi m / q.1 : Nat) : Int)) (by have := Int.natCast_nonneg (phi m / q.1); omega) (by have := Int.ofNat_le.2 hdl; omega), h2 j (by omega), Option.bind_some, if_neg (by omega), if_pos, wrap_id (by omega) (by omega)]
      · exact hK j (by omega)
      · rw [hone]; simp
    · obtain ⟨K, hK⟩ := root_inner hm hM hg r hyes hno rest (pre ++ [q]) (by rw [← hpre]; simp) (fun q' hq' => by
        rcases List.mem_append.1 hq' with h | h
        · exact hall q' h
        · rw [List.mem_singleton.1 h]; exact hone)
      dsimp only at hK
      refine ⟨K + K2 + 1, fun k hk => ?_⟩
      obtain ⟨j, rfl, hj⟩ := ex_succ hk
      simp only [residue_PrimitiveRoot.l1]
      rw [if_pos (by omega), if_pos (by omega), if_pos (by omega), e]
      simp only [toS_f0]
      rw [if_neg (by omega), e1, wrap_id (x := ((phi m / q.1 : Nat) : Int)) (by have := Int.natCast_nonneg (phi m / q.1); omega) (by have := Int.ofNat_le.2 hdl; omega), h2 j (by omega), Option.bind_some, if_neg (by omega), if_neg, wrap_id (by omega) (by omega)]
      · have := hK j (by omega)
        rw [List.length_append, List.length_singleton] at this
        exact this
      · intro h
        apply hone
        have : ((g ^ (phi m / q.1) % m : Nat) : Int) = ((1 % m : Nat) : Int) := by rw [h]; simp
        exact Int.ofNat_inj.1 this
theorem root_loop {m : Nat} (hm : 0 < m) (hM : m ≤ 2147483647) : ∀ (d g : Nat), g + d = m → ∃ g' : Nat, g ≤ g' ∧ g' ≤ m ∧ (∀ x, g ≤ x → x < g' → ¬ Root m x) ∧ (g' < m → Root m g') ∧ Ev (fun k => residue_PrimitiveRoot.l0 k (m : Int) (phi m : Int) (facS (phi m)) (g : Int)) ((g' : Int), 0)
  | 0, g, hg => by
    refine ⟨g, Nat.le_refl _, by omega, fun x h1 h2 => by omega, fun h => by omega, 1, fun k hk => ?_⟩
    obtain ⟨j, rfl, hj⟩ := ex_succ hk
    simp only [residue_PrimitiveRoot.l0]
    rw [if_neg (by omega)]
  | d + 1, g, hg => by
    obtain ⟨g', h1, h2, h3, h4, h5⟩ := root_loop hm hM d (g + 1) (by omega)
    obtain ⟨Kg, hgcd⟩ := gcd_spec g m
    dsimp only at hgcd
    by_cases hc : Nat.Coprime g m
    · by_cases ht : Test m g
      · obtain ⟨K, hK⟩ := root_inner hm hM (show g < m by omega) ((g : Int), 0) (fun _ => rfl) (fun h => absurd ht h) (fac (phi m)) [] rfl (by simp)
        dsimp only at hK
        refine ⟨g, Nat.le_refl _, by omega, fun x h1 h2 => by omega, fun _ => (root_iff hm hc).2 ht, K + Kg + 1, fun k hk => ?_⟩
        obtain ⟨j, rfl, hj⟩ := ex_succ hk
        simp only [residue_PrimitiveRoot.l0]
        rw [if_pos (by omega), hgcd j (by omega), Option.bind_some, if_pos]
        · exact hK j (by omega)
        · have := hc.symm; unfold Nat.Coprime at this; omega
      · obtain ⟨K, hK⟩ := root_inner hm hM (show g < m by omega) ((g' : Int), 0) (fun h => absurd h ht) (fun _ => h5) (fac (phi m)) [] rfl (by simp)
        dsimp only at hK
        refine ⟨g', by omega, h2, fun x hx1 hx2 => ?_, h4, K + Kg + 1, fun k hk => ?_⟩
        · rcases Nat.lt_or_ge g x with h | h
          · exact h3 x h hx2
          · obtain rfl : x = g := by omega
            exact fun hr => ht ((root_iff hm hc).1 hr)
        · obtain ⟨j, rfl, hj⟩ := ex_succ hk
          simp only [residue_PrimitiveRoot.l0]
          rw [if_pos (by omega), hgcd j (by omega), Option.bind_some, if_pos]
          · exact hK j (by omega)
          · have := hc.symm; unfold Nat.Coprime at this; omega
    · obtain ⟨K, hK⟩ := h5
      dsimp only at hK
      refine ⟨g', by omega, h2, fun x hx1 hx2 => ?_, h4, K + Kg + 1, fun k hk => ?_⟩
      · rcases Nat.lt_or_ge g x with h | h
        · exact h3 x h hx2
        · obtain rfl : x = g := by omega
          exact fun hr => hc hr.1
      · obtain ⟨j, rfl, hj⟩ := ex_succ hk
        simp only [residue_PrimitiveRoot.l0]
        rw [if_pos (by omega), hgcd j (by omega), Option.bind_some, if_neg, wrap_id (by omega) (by omega)]
        · exact hK j (by omega)
        · intro h; exact hc (Nat.Coprime.symm (by unfold Nat.Coprime; omega))
theorem ref_root_loop {m : Nat} (hm : 0 < m) (hM : m ≤ 2147483647) : ∀ (d g : Nat), g + d = m → (∃ g' : Nat, g ≤ g' ∧ g' < m ∧ (∀ x, g ≤ x → x < g' → ¬ Root m x) ∧ Root m g' ∧ Ev (fun k => galoisref04_PrimitiveRoot.l0 k (m : Int) (g : Int)) ((g' : Int), true)) ∨ ((∀ x, g ≤ x → x < m → ¬ Root m x) ∧ Ev (fun k => galoisref04_PrimitiveRoot.l0 k (m : Int) (g : Int)) (0, false))
  | 0, g, hg => by
    refine Or.inr ⟨fun x h1 h2 => by omega, 1, fun k hk => ?_⟩
    obtain ⟨j, rfl, hj⟩ := ex_succ hk
    simp only [galoisref04_PrimitiveRoot.l0]
    rw [if_neg (by omega)]
  | d + 1, g, hg => by
    obtain ⟨Kc, hcop⟩ := Coprime_spec (g : Int) hm hM
    dsimp only at hcop
    rw [res_nat, Nat.mod_eq_of_lt (show g < m by omega)] at hcop
    have next : ¬ Root m g → (∀ r, Ev (fun k => galoisref04_PrimitiveRoot.l0 k (m : Int) ((g + 1 : Nat) : Int)) r → Ev (fun k => galoisref04_PrimitiveRoot.l0 k (m : Int) (g : Int)) r) → (∃ g' : Nat, g ≤ g' ∧ g' < m ∧ (∀ x, g ≤ x → x < g' → ¬ Root m x) ∧ Root m g' ∧ Ev (fun k => galoisref04_PrimitiveRoot.l0 k (m : Int) (g : Int)) ((g' : Int), true)) ∨ ((∀ x, g ≤ x → x < m → ¬ Root m x) ∧ Ev (fun k => galoisref04_PrimitiveRoot.l0 k (m : Int) (g : Int)) (0, false)) := by
      intro hn hstep
      rcases ref_root_loop hm hM d (g + 1) (by omega) with ⟨g', h1, h2, h3, h4, h5⟩ | ⟨h1, h2⟩
      · refine Or.inl ⟨g', by omega, h2, fun x hx1 hx2 => ?_, h4, hstep _ h5⟩
        rcases Nat.lt_or_ge g x with h | h
        · exact h3 x h hx2
        · obtain rfl : x = g := by omega
          exact hn
      · refine Or.inr ⟨fun x hx1 hx2 => ?_, hstep _ h2⟩
        rcases Nat.lt_or_ge g x with h | h
        · exact h1 x h hx2
        · obtain rfl : x = g := by omega
          exact hn
    by_cases hc : Nat.Coprime g m
    · obtain ⟨o, ho, _⟩ := exists_ord hm hc
      have ho' : IsOrd (res (g : Int) m) m o := by rw [res_nat, Nat.mod_eq_of_lt (show g < m by omega)]; exact ho
      obtain ⟨Ko, hO⟩ := ref_Order_spec (g : Int) hm hM ho'
      obtain ⟨Kt, hT⟩ := ref_Totient_spec hm hM
      dsimp only at hO hT
      by_cases he : o = phi m
      · refine Or.inl ⟨g, Nat.le_refl _, by omega, fun x h1 h2 => by omega, ⟨hc, he ▸ ho⟩, Kc + Ko + Kt + 1, fun k hk => ?_⟩
        obtain ⟨j, rfl, hj⟩ := ex_succ hk
        simp only [galoisref04_PrimitiveRoot.l0]
        rw [if_pos (by omega), hcop j (by omega), Option.bind_some, decide_eq_true hc, if_pos rfl, hO j (by omega), Option.bind_some, hT j (by omega), Option.bind_some, if_pos (by omega)]
      · refine next (fun hr => he (ho.unique hr.2)) fun r hr => ?_
        obtain ⟨K, hK⟩ := hr
        dsimp only at hK
        refine ⟨K + Kc + Ko + Kt + 1, fun k hk => ?_⟩
        obtain ⟨j, rfl, hj⟩ := ex_succ hk
        simp only [galoisref04_PrimitiveRoot.l0]
        rw [if_pos (by omega), hcop j (by omega), Option.bind_some, decide_eq_true hc, if_pos rfl, hO j (by omega), Option.bind_some, hT j (by omega), Option.bind_some, if_neg (by omega), wrap_id (by omega) (by omega)]
        exact hK j (by omega)
    · refine next (fun hr => hc hr.1) fun r hr => ?_
      obtain ⟨K, hK⟩ := hr
      dsimp only at hK
      refine ⟨K + Kc + 1, fun k hk => ?_⟩
      obtain ⟨j, rfl, hj⟩ := ex_succ hk
      simp only [galoisref04_PrimitiveRoot.l0]
      rw [if_pos (by omega), hcop j (by omega), Option.bind_some, decide_eq_false hc, if_neg (by simp), wrap_id (by omega) (by omega)]
      exact hK j (by omega)

/-! ### when there is none -/
def Cyc (m : Nat) : Prop := m = 1 ∨ m = 2 ∨ m = 4 ∨ (m % 2 = 1 ∧ (fac m).length = 1) ∨ (m % 2 = 0 ∧ m / 2 % 2 = 1 ∧ (fac (m / 2)).length = 1)
theorem cyclic_spec {m : Nat} (hm : 0 < m) (hM : m ≤ 2147483647) : ∃ b : Bool, (b = true ↔ Cyc m) ∧ Ev (fun k => residue_cyclic.f k (m : Int)) b := by
  by_cases h1 : m = 1 ∨ m = 2 ∨ m = 4
  · refine ⟨true, ⟨fun _ => by unfold Cyc; omega, fun _ => rfl⟩, 1, fun k hk => ?_⟩
    obtain ⟨j, rfl, hj⟩ := ex_succ hk
    rcases h1 with rfl | rfl | rfl <;> simp [residue_cyclic.f, residue_cyclic.j0]
  · have h4 : ((m : Int) == 4) = false := by rw [beq_eq_false_iff_ne]; omega
    have fl : ∀ n : Nat, (facS n).length = (fac n).length := fun n => by unfold facS; rw [List.length_map]
    rcases Nat.mod_two_eq_zero_or_one m with he | ho
    · by_cases h2 : m / 2 % 2 = 1
      · obtain ⟨K, hK⟩ := factor_spec (n := m / 2) (by omega) (by omega)
        dsimp only at hK
        refine ⟨(((facS (m / 2)).length : Int) == 1), ?_, K + 1, fun k hk => ?_⟩
        · rw [beq_iff_eq, fl]
          unfold Cyc
          constructor
          · intro h; right; right; right; right; exact ⟨he, h2, by omega⟩
          · rintro (h | h | h | h | h) <;> omega
        · obtain ⟨j, rfl, hj⟩ := ex_succ hk
          simp only [residue_cyclic.f, residue_cyclic.j0]
          rw [if_neg (by omega), if_neg (by omega), h4, if_neg (by simp), Int.tmod_eq_emod_of_nonneg (by omega), if_pos (by omega), Int.tdiv_eq_ediv_of_nonneg (by omega), wrap_id (by omega) (by omega), Int.tmod_eq_emod_of_nonneg (by omega), if_pos (by omega), show (m : Int) / 2 = ((m / 2 : Nat) : Int) by omega, hK j (by omega), Option.bind_some]
      · refine ⟨false, ⟨fun h => (by cases h), fun h => (by unfold Cyc at h; omega)⟩, 1, fun k hk => ?_⟩
        obtain ⟨j, rfl, hj⟩ := ex_succ hk
        simp only [residue_cyclic.f, residue_cyclic.j0]
        rw [if_neg (by omega), if_neg (by omega), h4, if_neg (by simp), Int.tmod_eq_emod_of_nonneg (by omega), if_pos (by omega), Int.tdiv_eq_ediv_of_nonneg (by omega), wrap_id (by omega) (by omega), Int.tmod_eq_emod_of_nonneg (by omega), if_neg (by omega)]
    · obtain ⟨K, hK⟩ := factor_spec hm hM
      dsimp only at hK
      refine ⟨(((facS m).length : Int) == 1), ?_, K + 1, fun k hk => ?_⟩
      · rw [beq_iff_eq, fl]
        unfold Cyc
        constructor
        · intro h; right; right; right; left; exact ⟨ho, by omega⟩
        · rintro (h | h | h | h | h) <;> omega
      · obtain ⟨j, rfl, hj⟩ := ex_succ hk
        simp only [residue_cyclic.f, residue_cyclic.j0]
        rw [if_neg (by omega), if_neg (by omega), h4, if_neg (by simp), Int.tmod_eq_emod_of_nonneg (by omega), if_neg (by omega), if_pos (by omega), hK j (by omega), Option.bind_some]
def phq (q : Nat × Nat) : Nat := q.1 ^ (q.2 - 1) * (q.1 - 1)
theorem two_mem_dvd {l : List (Nat × Nat)} (hn : l.Pairwise (fun a b => a.1 < b.1)) {q q' : Nat × Nat} (hq : q ∈ l) (hq' : q' ∈ l) (hne : q ≠ q') : phq q * phq q' ∣ phiL l := by
  induction l with
  | nil => cases hq
  | cons a l ih =>
    rcases List.mem_cons.1 hq with h1 | h1
    · rcases List.mem_cons.1 hq' with h2 | h2
      · exact absurd (h1.trans h2.symm) hne
      · rw [h1]; exact Nat.mul_dvd_mul_left _ (phiL_mem_dvd h2)
    · rcases List.mem_cons.1 hq' with h2 | h2
      · rw [h2, Nat.mul_comm]
        exact Nat.mul_dvd_mul_left _ (phiL_mem_dvd h1)
      · exact Nat.dvd_trans (ih (List.pairwise_cons.1 hn).2 h1 h2) ⟨phq a, by rw [phiL, Nat.mul_comm]; rfl⟩
theorem phq_even {q : Nat × Nat} (hp : Prm q.1) (he : 1 ≤ q.2) (h : q ≠ (2, 1)) : 2 ∣ phq q := by
  unfold phq
  rcases Nat.mod_two_eq_zero_or_one q.1 with h2 | h2
  · have h3 : q.1 = 2 := by
      rcases hp.2 2 ⟨q.1 / 2, by omega⟩ with h | h <;> omega
    have h4 : q.2 ≠ 1 := fun e => h (by rw [← h3, ← e])
    refine Nat.dvd_trans ⟨q.1 ^ (q.2 - 2), ?_⟩ ⟨_, rfl⟩
    rw [h3, Nat.mul_comm, ← Nat.pow_succ]
    congr 1
    omega
  · have := hp.1
    exact Nat.dvd_trans ⟨(q.1 - 1) / 2, by omega⟩ ⟨_, Nat.mul_comm _ _⟩
theorem two_pow_one {g : Nat} (hg : g % 2 = 1) : ∀ e : Nat, ((2 ^ (e + 3) : Nat) : Int) ∣ (g : Int) ^ (2 ^ (e + 1)) - 1
  | 0 => by
    have h : (g * g) % 8 = 1 % 8 := by
      have h1 : g % 8 = 1 ∨ g % 8 = 3 ∨ g % 8 = 5 ∨ g % 8 = 7 := by omega
      rcases h1 with h | h | h | h <;> rw [Nat.mul_mod, h]
    have h2 := (one_mod_iff (m := 8) (g * g)).1 h
    rw [show (g : Int) ^ (2 ^ (0 + 1)) = ((g * g : Nat) : Int) by rw [Int.natCast_mul, show 2 ^ (0 + 1) = 2 from rfl, Int.pow_succ, Int.pow_succ, Int.pow_zero, Int.one_mul]]
    exact h2
  | e + 1 => by
    have h := lift_one 2 (e + 2) _ (two_pow_one hg e)
    rw [← Int.pow_mul] at h
    exact h
/-- Outside the cyclic moduli every unit to the power phi(m)/2 is 1. -/
theorem no_root {m : Nat} (hm : 0 < m) (hc : ¬ Cyc m) (g : Nat) : ¬ Root m g := by
  rintro ⟨hg, ho⟩
  have hf := fac_spec hm
  have hp := phi_pos hm
  have hodd : ∀ q ∈ fac m, q ≠ (2, 1) → 2 ∣ phq q := fun q hq => phq_even (hf.prm q hq).1 (hf.prm q hq).2
  have key : ∃ t, 0 < t ∧ t < phi m ∧ g ^ t % m = 1 % m := by
    by_cases hall : ∀ q ∈ fac m, ∃ q' ∈ fac m, q ≠ q' ∧ q' ≠ (2, 1)
    · -- each factor has an even one beside it
      have hne : fac m ≠ [] := by
        intro h
        have := hf.prod
        rw [h] at this
        exact hc (Or.inl this.symm)
      obtain ⟨q0, hq0⟩ := List.exists_mem_of_ne_nil _ hne
      have h2 : 2 ∣ phi m := by
        obtain ⟨q', hq', _, h3⟩ := hall q0 hq0
        exact Nat.dvd_trans (hodd q' hq' h3) (phiL_mem_dvd hq')
      obtain ⟨t, ht⟩ := h2
      refine ⟨t, by omega, by omega, ?_⟩
      rw [one_mod_iff]
      have h1 : ∀ q ∈ fac m, ((q.1 ^ q.2 : Nat) : Int) ∣ (g : Int) ^ t - 1 := by
        intro q hq
        have hpq := hf.prm q hq
        have hna : ¬ q.1 ∣ g := fun hd => by
          have := Nat.dvd_gcd hd (hf.mem_dvd1 hq)
          rw [hg] at this
          have := Nat.le_of_dvd (by omega) this
          have := hpq.1.1
          omega
        have h2 := euler_pp hpq.1 hna (q.2 - 1)
        rw [show q.2 - 1 + 1 = q.2 by omega] at h2
        refine pow_one_of_dvd h2 ?_
        obtain ⟨q', hq', h3, h4⟩ := hall q hq
        obtain ⟨s, hs⟩ := hodd q' hq' h4
        obtain ⟨u, hu⟩ := two_mem_dvd hf.asc hq hq' h3
        have h5 : 2 * t = 2 * (phq q * (s * u)) := by
          rw [← ht]
          show phiL (fac m) = _
          rw [hu, hs]
          simp only [Nat.mul_assoc, Nat.mul_left_comm, Nat.mul_comm]
        exact ⟨s * u, Nat.eq_of_mul_eq_mul_left (by omega) h5⟩
      have h2 : prodL (fac m) ∣ ((g : Int) ^ t - 1).natAbs := prodL_dvd hf.prm hf.asc fun q hq => Int.ofNat_dvd_left.1 (h1 q hq)
      rw [hf.prod] at h2
      have := Int.ofNat_dvd_left.2 h2
      simpa using this
    · -- one factor, and perhaps a single 2 beside it
      have hall' : ∃ q, q ∈ fac m ∧ ∀ q' ∈ fac m, q ≠ q' → q' = (2, 1) := by
        apply Classical.byContradiction
        intro h
        apply hall
        intro q hq
        apply Classical.byContradiction
        intro h2
        apply h
        refine ⟨q, hq, fun q' hq' hne => ?_⟩
        apply Classical.byContradiction
        intro h3
        exact h2 ⟨q', hq', hne, h3⟩
      obtain ⟨q, hq, hoth⟩ := hall'
      have hpq := hf.prm q hq
      have hshape : fac m = [q] ∨ (fac m = [(2, 1), q] ∧ q.1 ≠ 2) := by
        generalize fac m = l at *
        match l, hq with
        | [a], hq => left; rw [List.mem_singleton.1 hq]
        | a :: b :: rest, hq =>
          have has := hf.asc
          have h1 := (List.pairwise_cons.1 has).1
          have h2 := (List.pairwise_cons.1 (List.pairwise_cons.1 has).2).1
          have hab : a.1 < b.1 := h1 b (by simp)
          have ha2 := (hf.prm a (by simp)).1.1
          have hb : b = q := by
            apply Classical.byContradiction
            intro h
            have := hoth b (by simp) fun e => h e.symm
            rw [this] at hab
            simp at hab
            omega
          have ha : a = (2, 1) := hoth a (by simp) fun e => by rw [← hb] at e; rw [e] at hab; omega
          have hr : rest = [] := by
            cases rest with
            | nil => rfl
            | cons c rest =>
              have hbc : b.1 < c.1 := h2 c (by simp)
              have hcq : c = (2, 1) := hoth c (by simp) fun e => by rw [← hb] at e; rw [e] at hbc; omega
              rw [hcq] at hbc
              simp at hbc
              omega
          right
          rw [ha, hb, hr]
          refine ⟨rfl, ?_⟩
          rw [← hb]
          rw [ha] at hab
          simp at hab
          omega
      rcases hshape with h | ⟨h, h2⟩
      · -- a prime power
        have hmq : m = q.1 ^ q.2 := by have := hf.prod; rw [h] at this; simpa [prodL] using this.symm
        rcases Nat.mod_two_eq_zero_or_one q.1 with h2 | h2
        · have h3 : q.1 = 2 := by rcases hpq.1.2 2 ⟨q.1 / 2, by omega⟩ with h | h <;> omega
          rw [h3] at hmq
          have he3 : 3 ≤ q.2 := by
            apply Classical.byContradiction
            intro hlt
            have : q.2 = 1 ∨ q.2 = 2 := by omega
            apply hc
            unfold Cyc
            rcases this with h | h <;> rw [h] at hmq <;> omega
          obtain ⟨e, he⟩ : ∃ e, q.2 = e + 3 := ⟨q.2 - 3, by omega⟩
          rw [he] at hmq
          have hgo : g % 2 = 1 := by
            rcases Nat.mod_two_eq_zero_or_one g with h | h
            · exfalso
              have h5 : 2 ∣ Nat.gcd g m := Nat.dvd_gcd ⟨g / 2, by omega⟩ ⟨2 ^ (e + 2), by rw [hmq, Nat.mul_comm, ← Nat.pow_succ]⟩
              rw [hg] at h5
              have := Nat.le_of_dvd (by omega) h5
              omega
            · exact h
          have hphi : phi m = 2 ^ (e + 2) := by
            unfold phi
            rw [h]
            simp [phiL, h3, he]
          refine ⟨2 ^ (e + 1), Nat.pow_pos (by omega), ?_, ?_⟩
          · rw [hphi]
            exact Nat.pow_lt_pow_right (by omega) (by omega)
          · rw [one_mod_iff, hmq]
            have := two_pow_one hgo e
            simpa using this
        · exfalso
          apply hc
          unfold Cyc
          right; right; right; left
          refine ⟨?_, by rw [h]; rfl⟩
          rw [hmq, Nat.pow_mod, h2, Nat.one_pow]
      · -- twice a prime power
        exfalso
        apply hc
        have hmq : m = 2 * q.1 ^ q.2 := by have := hf.prod; rw [h] at this; simpa [prodL] using this.symm
        have h3 : q.1 % 2 = 1 := by
          rcases Nat.mod_two_eq_zero_or_one q.1 with h3 | h3
          · rcases hpq.1.2 2 ⟨q.1 / 2, by omega⟩ with h | h <;> omega
          · exact h3
        have h4 : q.1 ^ q.2 % 2 = 1 := by rw [Nat.pow_mod, h3, Nat.one_pow]
        unfold Cyc
        right; right; right; right
        have h5 : m / 2 = q.1 ^ q.2 := by omega
        refine ⟨by omega, by rw [h5]; exact h4, ?_⟩
        rw [h5, ← FacL.eq_fac (l := [q]) ⟨by simp [prodL], fun q' hq' => by rw [List.mem_singleton.1 hq']; exact hpq, List.pairwise_singleton _ _⟩]
        rfl
  obtain ⟨t, h1, h2, h3⟩ := key
  exact ho.least t h1 h2 h3
end Go.Proofs.Ytmedflaejnbkoaa.Q

/- The pure statement of ResidueOrders: the program's Order and PrimitiveRoot are the reference's, or return its errors, for any a and any m up to 1000 and any m that is no modulus. No conditions. -/
import Derived.Test.YtmedflaejnbkoaaS5
import Derived.Test.YtmedflaejnbkoaaQF3
namespace Go.Proofs.Ytmedflaejnbkoaa.Pure
open Go.RowKit Go.Proofs.YtmedflaejnbkoaaW.PrintWords Go.Proofs.YtmedflaejnbkoaaW.PrintLast Go.Proofs.YtmedflaejnbkoaaW.PrintMore Go.Proofs.Ytmedflaejnbkoaa.M Go.Proofs.Ytmedflaejnbkoaa.Q
set_option linter.unusedVariables false
set_option linter.unusedSimpArgs false

/-- What the program's primitive root of m is: less than m, if there is no error. -/
def rootOk (m : Nat) : Bool := match residue_PrimitiveRoot.f 200 (m : Int) with
  | some (g, e) => e != 0 || decide (g < (m : Int))
  | none => false
def rootsOk : Nat → Bool
  | 0 => true
  | n + 1 => rootOk (n + 1) && rootsOk n
theorem rootsOk_at : ∀ {n m : Nat}, rootsOk n = true → 1 ≤ m → m ≤ n → rootOk m = true
  | 0, m, _, h1, h2 => by omega
  | n + 1, m, h, h1, h2 => by
    rw [rootsOk, Bool.and_eq_true] at h
    rcases Nat.lt_or_ge m (n + 1) with h3 | h3
    · exact rootsOk_at h.2 h1 (by omega)
    · obtain rfl : m = n + 1 := by omega
      exact h.1
set_option maxRecDepth 100000 in
theorem roots_1000 : rootsOk 1000 = true := by decide +kernel

theorem PrimitiveRoot_bad (m : Int) (h : ¬ (1 ≤ m ∧ m ≤ 2147483647)) (k : Nat) : residue_PrimitiveRoot.f k m = some (0, 3) := by
  simp only [residue_PrimitiveRoot.f]
  rw [bad_one' h]
  rfl
/-- Program and reference agree, for moduli up to 1000. -/
theorem roots_agree {m : Nat} (h1 : 1 ≤ m) (h2 : m ≤ 1000) : (∃ g : Nat, Ev (fun k => residue_PrimitiveRoot.f k (m : Int)) ((g : Int), 0) ∧ Ev (fun k => galoisref04_PrimitiveRoot.f k (m : Int)) ((g : Int), true)) ∨ (Ev (fun k => residue_PrimitiveRoot.f k (m : Int)) (0, 10) ∧ Ev (fun k => galoisref04_PrimitiveRoot.f k (m : Int)) (0, false)) := by
  have hm : 0 < m := h1
  have hM : m ≤ 2147483647 := by omega
  obtain ⟨b, hb, Kc, hcy⟩ := cyclic_spec hm hM
  dsimp only at hcy
  have href := ref_root_loop hm hM m 0 (by omega)
  by_cases hc : Cyc m
  · left
    have hp := phi_pos hm
    have hpl := phi_le hm
    obtain ⟨g, _, hgm, hno, hyes, K, hK⟩ := root_loop hm hM m 0 (by omega)
    obtain ⟨Kt, ht⟩ := totient_spec hm hM
    obtain ⟨Kf, hf⟩ := factor_spec (n := phi m) hp (by omega)
    dsimp only at hK ht hf
    have hprog : Ev (fun k => residue_PrimitiveRoot.f k (m : Int)) ((g : Int), 0) := by
      refine ⟨Kc + K + Kt + Kf, fun k hk => ?_⟩
      simp only [residue_PrimitiveRoot.f]
      rw [bad_one (by omega) (by omega), Option.bind_some, if_neg (by simp), hcy k (by omega), Option.bind_some, hb.2 hc, if_pos rfl, ht k (by omega), Option.bind_some, hf k (by omega), Option.bind_some]
      exact hK k (by omega)
    have hlt : g < m := by
      have hok := rootsOk_at roots_1000 h1 h2
      unfold rootOk at hok
      split at hok
      · rename_i g' e heq
        obtain ⟨K1, hK1⟩ := hprog
        obtain ⟨K2, hK2⟩ := Ev.of (g := fun k => residue_PrimitiveRoot.f k (m : Int)) (fun k => residue_PrimitiveRoot.mono _ k) heq
        have e1 := hK1 (K1 + K2) (by omega)
        have e2 := hK2 (K1 + K2) (by omega)
        dsimp only at e1 e2
        rw [e1] at e2
        injection e2 with e2
        injection e2 with e3 e4
        rw [← e3, ← e4] at hok
        simp at hok
        omega
      · cases hok
    have hroot := hyes hlt
    refine ⟨g, hprog, ?_⟩
    rcases href with ⟨g', _, hg'm, hno', hyes', hr⟩ | ⟨hnone, _⟩
    · have : g' = g := by
        rcases Nat.lt_trichotomy g' g with h | h | h
        · exact absurd hyes' (hno g' (by omega) h)
        · exact h
        · exact absurd hroot (hno' g (by omega) h)
      rw [this] at hr
      exact hr
    · exact absurd hroot (hnone g (by omega) hlt)
  · right
    constructor
    · refine ⟨Kc, fun k hk => ?_⟩
      simp only [residue_PrimitiveRoot.f]
      have : b = false := by
        cases b with
        | true => exact absurd (hb.1 rfl) hc
        | false => rfl
      rw [bad_one (by omega) (by omega), Option.bind_some, if_neg (by simp), hcy k (by omega), Option.bind_some, this, if_neg (by simp)]
    · rcases href with ⟨g', _, _, _, hyes', _⟩ | ⟨_, hr⟩
      · exact absurd hyes' (no_root hm hc g')
      · exact hr
theorem orders_agree (a : Int) {m : Nat} (hm : 0 < m) (hM : m ≤ 2147483647) : ∃ x e : Int, Ev (fun k => residue_Order.f k a (m : Int)) (x, e) ∧ Ev (fun k => galoislaw04_ResidueOrders.j1 k a (m : Int) x e false) true := by
  obtain ⟨Kc, hc⟩ := Coprime_spec a hm hM
  dsimp only at hc
  by_cases hcop : Nat.Coprime (res a m) m
  · obtain ⟨o, ho, _⟩ := exists_ord hm hcop
    obtain ⟨K, h⟩ := ref_Order_spec a hm hM ho
    dsimp only at h
    refine ⟨_, _, Order_spec a hm hM ho, Kc + K + 1, fun k hk => ?_⟩
    obtain ⟨j, rfl, hj⟩ := ex_succ hk
    simp only [galoislaw04_ResidueOrders.j1]
    rw [if_neg (by simp), hc j (by omega), Option.bind_some, decide_eq_true hcop, if_pos rfl, h j (by omega), Option.bind_some, is_val, Option.bind_some]
  · refine ⟨_, _, Order_zero a hm hM hcop, Kc + 1, fun k hk => ?_⟩
    obtain ⟨j, rfl, hj⟩ := ex_succ hk
    simp only [galoislaw04_ResidueOrders.j1]
    rw [if_neg (by simp), hc j (by omega), Option.bind_some, decide_eq_false hcop, if_neg (by simp), is_err (by omega), Option.bind_some]

theorem ResidueOrders : galoislaw04_ResidueOrders.Pure := by
  intro a0 a1 w0 w1
  obtain ⟨Ka, ha⟩ := awake_ev
  by_cases hm : 1 ≤ a1 ∧ a1 ≤ 2147483647
  · by_cases hbig : a1 > 1000
    · refine ⟨Ka + 1, ?_⟩
      simp only [galoislaw04_ResidueOrders.f]
      rw [ha _ (by omega), Option.bind_some, if_pos rfl, isMod_spec, Option.bind_some, decide_eq_true hm, if_pos rfl, decide_eq_true hbig]
      simp only [galoislaw04_ResidueOrders.j0]
      rw [if_pos trivial, ha _ (by omega), Option.bind_some]
    · obtain ⟨m, rfl⟩ := Int.eq_ofNat_of_zero_le (show 0 ≤ a1 by omega)
      obtain ⟨x, e, ⟨Ko, ho⟩, ⟨Kj, hj⟩⟩ := orders_agree a0 (m := m) (by omega) (by omega)
      dsimp only at ho hj
      rcases roots_agree (m := m) (by omega) (by omega) with ⟨g, ⟨K1, h1⟩, ⟨K2, h2⟩⟩ | ⟨⟨K1, h1⟩, ⟨K2, h2⟩⟩
      all_goals
        dsimp only at h1 h2
        refine ⟨Ka + Ko + Kj + K1 + K2 + 1, ?_⟩
        simp only [galoislaw04_ResidueOrders.f]
        rw [ha _ (by omega), Option.bind_some, if_pos rfl, isMod_spec, Option.bind_some, decide_eq_true hm, if_pos rfl, decide_eq_false hbig]
        simp only [galoislaw04_ResidueOrders.j0]
        rw [if_neg (by simp), ho _ (by omega), Option.bind_some, h1 _ (by omega), Option.bind_some, isMod_spec, Option.bind_some, decide_eq_true hm, if_pos rfl, h2 _ (by omega), Option.bind_some]
      · simp only [if_true]
        rw [is_val, Option.bind_some, if_pos rfl]
        exact hj _ (by omega)
      · rw [if_neg (by simp), is_err (by omega), Option.bind_some]
        exact hj _ (by omega)
  · refine ⟨Ka + 1, ?_⟩
    simp only [galoislaw04_ResidueOrders.f]
    rw [ha _ (by omega), Option.bind_some, if_pos rfl, isMod_spec, Option.bind_some, decide_eq_false hm, if_neg (by simp)]
    simp only [galoislaw04_ResidueOrders.j0]
    rw [if_neg (by simp), Order_bad _ _ hm, Option.bind_some, PrimitiveRoot_bad _ hm, Option.bind_some, isMod_spec, Option.bind_some, decide_eq_false hm, if_neg (by simp)]
    simp only []
    rw [is_err (by omega), Option.bind_some, if_pos rfl, Option.bind_some]
end Go.Proofs.Ytmedflaejnbkoaa.Pure

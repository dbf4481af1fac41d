/- The pure statement of ResidueEuler: Euler's theorem and the order's properties hold of the program's Inverse, Totient, Order, Pow and Factor, for every machine integer and every modulus from 2 on. No conditions. -/
import Derived.Test.YtmedflaejnbkoaaS4
import Derived.Test.YtmedflaejnbkoaaQF9
namespace Go.Proofs.Ytmedflaejnbkoaa.Pure
open Go.RowKit Go.Proofs.YtmedflaejnbkoaaW.PrintWords Go.Proofs.YtmedflaejnbkoaaW.PrintLast Go.Proofs.YtmedflaejnbkoaaW.PrintMore Go.Proofs.Ytmedflaejnbkoaa.M Go.Proofs.Ytmedflaejnbkoaa.Q
set_option linter.unusedVariables false
set_option linter.unusedSimpArgs false

theorem euler_loop (a : Int) {m : Nat} (hm : 2 ≤ m) (hM : m ≤ 2147483647) {o : Nat} (ho : IsOrd (res a m) m o) (hoM : o ≤ 2147483647) : ∀ (rest pre : List (Nat × Nat)), pre ++ rest = fac o →
    Ev (fun k => galoislaw04_ResidueEuler.l0 k a (m : Int) (o : Int) (facS o) (pre.length : Int)) true
  | [], pre, hpre => by
    refine ⟨1, fun k hk => ?_⟩
    obtain ⟨j, rfl, hj⟩ := ex_succ hk
    rw [List.append_nil] at hpre
    simp only [galoislaw04_ResidueEuler.l0]
    have hl : (facS o).length = pre.length := by unfold facS; rw [List.length_map, hpre]
    rw [if_neg (by omega)]
  | q :: rest, pre, hpre => by
    have ho1 := ho.pos
    have hf := fac_spec (show 0 < o from ho.pos)
    have hqm : q ∈ fac o := by rw [← hpre]; simp
    have hq := hf.prm q hqm
    have hq1 := hq.1.1
    obtain ⟨t, ht⟩ := hf.mem_dvd1 hqm
    have ht0 : 0 < t := by
      rcases Nat.eq_zero_or_pos t with rfl | h
      · omega
      · exact h
    have hto : t < o := by
      have : 1 * t < q.1 * t := Nat.mul_lt_mul_of_pos_right (by omega) ht0
      omega
    obtain ⟨K, hK⟩ := euler_loop a hm hM ho hoM rest (pre ++ [q]) (by rw [← hpre]; simp)
    obtain ⟨K2, h2⟩ := Pow_prog a (e := (t : Int)) (m := m) (by omega) hM (by omega) (by omega)
    dsimp only at hK h2
    have hlen := fac_len ho.pos
    have hl : (facS o).length = (fac o).length := by unfold facS; rw [List.length_map]
    have hl2 : pre.length < (fac o).length := by rw [← hpre]; simp
    have e : rd_T53 (facS o) (pre.length : Int) = toS q := by unfold facS; rw [← hpre, rd_at]
    have e1 : (o : Int).tdiv (q.1 : Int) = (t : Int) := by rw [Int.tdiv_eq_ediv_of_nonneg (by omega), ht, ← Int.natCast_ediv, Nat.mul_div_cancel_left _ (by omega)]
    refine ⟨K + K2 + 1, fun k hk => ?_⟩
    obtain ⟨j, rfl, hj⟩ := ex_succ hk
    simp only [galoislaw04_ResidueEuler.l0]
    rw [if_pos (by omega), if_pos (by omega), e]
    simp only [toS_f0]
    rw [if_neg (by omega), if_neg (by omega), e1, wrap_id (by omega) (by omega), h2 j (by omega), Option.bind_some, if_pos rfl, if_neg, wrap_id (by omega) (by omega)]
    · have := hK j (by omega)
      rw [List.length_append, List.length_singleton] at this
      exact this
    · rw [Int.toNat_natCast]
      intro h
      refine ho.least t ht0 hto ?_
      rw [Nat.mod_eq_of_lt (show 1 < m by omega)]
      omega

theorem ResidueEuler : galoislaw04_ResidueEuler.Pure := by
  intro a0 a1 w0 w1
  obtain ⟨Ka, ha⟩ := awake_ev
  obtain ⟨h0, h1⟩ := wf_u32 w1
  have en : wrap64 (2 + Int.tmod (wrap64 a1) 2147483646) = 2 + a1 % 2147483646 := by
    rw [wrap_id (x := a1) (by omega) (by omega), Int.tmod_eq_emod_of_nonneg h0, wrap_id (by omega) (by omega)]
  obtain ⟨n, hn⟩ : ∃ n : Nat, 2 + a1 % 2147483646 = (n : Int) := ⟨(2 + a1 % 2147483646).toNat, by omega⟩
  have hn2 : 2 ≤ n := by omega
  have hnM : n ≤ 2147483647 := by omega
  have hn0 : 0 < n := by omega
  rw [hn] at en
  by_cases hc : Nat.Coprime (res a0 n) n
  · obtain ⟨v, hv1, hv2, Ki, hi⟩ := Inverse_spec a0 hn0 hnM hc
    obtain ⟨o, ho, hole⟩ := exists_ord hn0 hc
    have hphi := phi_le hn0
    have hphi0 := phi_pos hn0
    have ho1 := ho.pos
    obtain ⟨Kt, ht⟩ := Totient_spec hn0 hnM
    obtain ⟨Ko, hO⟩ := Order_spec a0 hn0 hnM ho
    obtain ⟨Kp, hp⟩ := Pow_prog a0 (e := (phi n : Int)) (m := n) hn0 hnM (by omega) (by omega)
    obtain ⟨Kq, hq⟩ := Pow_prog a0 (e := (o : Int)) (m := n) hn0 hnM (by omega) (by omega)
    obtain ⟨Kf, hf⟩ := Factor_prog (n := o) ho.pos (by omega)
    obtain ⟨Kl, hl⟩ := euler_loop a0 hn2 hnM ho (by omega) (fac o) [] rfl
    dsimp only at hi ht hO hp hq hf hl
    rw [Int.toNat_natCast, euler hn0 hc, Nat.mod_eq_of_lt (show 1 < n by omega)] at hp
    rw [Int.toNat_natCast, ho.one, Nat.mod_eq_of_lt (show 1 < n by omega)] at hq
    refine ⟨Ka + Ki + Kt + Ko + Kp + Kq + Kf + Kl + 1, ?_⟩
    have ha := ha (Ka + Ki + Kt + Ko + Kp + Kq + Kf + Kl + 1) (by omega)
    have hi := hi (Ka + Ki + Kt + Ko + Kp + Kq + Kf + Kl + 1) (by omega)
    have ht := ht (Ka + Ki + Kt + Ko + Kp + Kq + Kf + Kl + 1) (by omega)
    have hO := hO (Ka + Ki + Kt + Ko + Kp + Kq + Kf + Kl + 1) (by omega)
    have hp := hp (Ka + Ki + Kt + Ko + Kp + Kq + Kf + Kl + 1) (by omega)
    have hq := hq (Ka + Ki + Kt + Ko + Kp + Kq + Kf + Kl + 1) (by omega)
    have hf := hf (Ka + Ki + Kt + Ko + Kp + Kq + Kf + Kl) (by omega)
    have hl := hl (Ka + Ki + Kt + Ko + Kp + Kq + Kf + Kl) (by omega)
    have hj : ∀ b : Bool, b = false → galoislaw04_ResidueEuler.j0 (Ka + Ki + Kt + Ko + Kp + Kq + Kf + Kl + 1) a0 (n : Int) (o : Int) b = some true := by
      rintro b rfl
      simp only [galoislaw04_ResidueEuler.j0]
      rw [if_neg (by simp), hf, Option.bind_some, if_pos rfl]
      exact hl
    have hdvd := ho.dvd (euler hn0 hc)
    have e1 : (phi n : Int).tmod (o : Int) = 0 := by rw [Int.tmod_eq_emod_of_nonneg (by omega), ← Int.natCast_emod, Nat.mod_eq_zero_of_dvd hdvd]; rfl
    have hlt := res_lt a0 hn0
    have hb := mul_lt_w (a := ((res a0 n : Nat) : Int)) (b := (v : Int)) (by omega) (by omega) (by omega) (by omega)
    have e2 : Int.tmod (wrap64 ((res a0 n : Int) * (v : Int))) (n : Int) = 1 := by
      rw [wrap_id (by omega) (by omega), Int.tmod_eq_emod_of_nonneg hb.1, ← Int.natCast_mul, ← Int.natCast_emod, hv2, Nat.mod_eq_of_lt (show 1 < n by omega)]
      rfl
    simp only [galoislaw04_ResidueEuler.f]
    rw [ha, Option.bind_some, if_pos rfl]
    simp only [en]
    rw [hi, Option.bind_some, if_neg (by omega), ht, Option.bind_some, hO, Option.bind_some, hp, Option.bind_some, hq, Option.bind_some]
    simp only [if_true]
    rw [if_neg (by omega), if_neg (by omega), if_pos e1, if_pos (by rfl), if_pos (by rfl), Mod_nat hn0 hnM, Option.bind_some, Mod_nat hn0 hnM, Option.bind_some, if_neg (by omega), res_nat, Nat.mod_eq_of_lt hv1, e2]
    exact hj _ (by rfl)
  · obtain ⟨Ki, hi⟩ := Inverse_zero a0 hn0 hnM hc
    obtain ⟨Ko, ho⟩ := Order_zero a0 hn0 hnM hc
    obtain ⟨Kg, hg⟩ := Gcd_spec n (res a0 n)
    dsimp only at hi ho hg
    refine ⟨Ka + Ki + Ko + Kg, ?_⟩
    simp only [galoislaw04_ResidueEuler.f]
    rw [ha _ (by omega), Option.bind_some, if_pos rfl]
    simp only [en]
    rw [hi _ (by omega), Option.bind_some, if_pos rfl, ho _ (by omega), Option.bind_some]
    simp only [if_true]
    rw [Mod_nat hn0 hnM, Option.bind_some, hg _ (by omega), Option.bind_some, decide_eq_true]
    have h1 := Nat.gcd_pos_of_pos_right (res a0 n) hn0
    unfold Nat.Coprime at hc
    omega
end Go.Proofs.Ytmedflaejnbkoaa.Pure

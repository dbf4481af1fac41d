/- The pure statement of ResidueChinese: for three moduli that are coprime in pairs the program's Chinese returns the one number below the product that solves the congruences. No conditions. -/
import Derived.Test.YtmedflaejnbkoaaS9
import Derived.Test.YtmedflaejnbkoaaS2a
import Derived.Test.YtmedflaejnbkoaaQF6
namespace Go.Proofs.Ytmedflaejnbkoaa.Pure
open Go.RowKit Go.Proofs.YtmedflaejnbkoaaW.PrintWords Go.Proofs.YtmedflaejnbkoaaW.PrintLast Go.Proofs.YtmedflaejnbkoaaW.PrintMore Go.Proofs.Ytmedflaejnbkoaa.M Go.Proofs.Ytmedflaejnbkoaa.Q
set_option linter.unusedVariables false
set_option linter.unusedSimpArgs false

theorem chinese3 (r0 r1 r2 : Int) (a b c : Nat) (ha : 1 ≤ a ∧ a ≤ 1290) (hb : 1 ≤ b ∧ b ≤ 1290) (hc : 1 ≤ c ∧ c ≤ 1290) (hab : Nat.gcd a b = 1) (hac : Nat.gcd a c = 1) (hbc : Nat.gcd b c = 1) :
    ∃ x : Nat, Ev (fun q => residue_Chinese.f q [r0, r1, r2] [(a : Int), (b : Int), (c : Int)]) ((x : Int), ((a * b * c : Nat) : Int), 0) ∧ x < a * b * c ∧ x % a = res r0 a ∧ x % b = res r1 b ∧ x % c = res r2 c := by
  have hs := sys_of (l0 := [r0, r1, r2]) (l1 := [(a : Int), (b : Int), (c : Int)]) (n := 3) rfl rfl (by omega) fun x hx => by
    simp only [List.mem_cons, List.not_mem_nil, or_false] at hx
    omega
  generalize hMo : (fun i : Nat => (rd [(a : Int), (b : Int), (c : Int)] (i : Int)).toNat) = Mo at hs
  generalize hR : (fun i : Nat => rd [r0, r1, r2] (i : Int)) = R at hs
  have m0 : Mo 0 = a := by rw [← hMo]; simp [rd]
  have m1 : Mo 1 = b := by rw [← hMo]; simp [rd]
  have m2 : Mo 2 = c := by rw [← hMo]; simp [rd]
  have R0 : R 0 = r0 := by rw [← hR]; simp [rd]
  have R1 : R 1 = r1 := by rw [← hR]; simp [rd]
  have R2 : R 2 = r2 := by rw [← hR]; simp [rd]
  have hcons : ∀ i, i < 3 → ∀ k, k < i → OkAt R Mo i k := by
    intro i hi k hk
    have one : Nat.gcd (Mo i) (Mo k) = 1 := by
      have : (i = 1 ∧ k = 0) ∨ (i = 2 ∧ k = 0) ∨ (i = 2 ∧ k = 1) := by omega
      rcases this with ⟨rfl, rfl⟩ | ⟨rfl, rfl⟩ | ⟨rfl, rfl⟩
      · rw [m0, m1, Nat.gcd_comm]; exact hab
      · rw [m0, m2, Nat.gcd_comm]; exact hac
      · rw [m1, m2, Nat.gcd_comm]; exact hbc
    unfold OkAt
    rw [one]
    exact ⟨_, (Int.one_mul _).symm⟩
  have l1 : lc Mo 1 = a := by
    show Nat.lcm 1 (Mo 0) = a
    rw [m0, Nat.lcm_eq_mul_div]; simp
  have l2 : lc Mo 2 = a * b := by
    show Nat.lcm (lc Mo 1) (Mo 1) = _
    rw [l1, m1, Nat.lcm_eq_mul_div, hab, Nat.div_one]
  have l3 : lc Mo 3 = a * b * c := by
    show Nat.lcm (lc Mo 2) (Mo 2) = _
    rw [l2, m2, Nat.lcm_eq_mul_div, show Nat.gcd (a * b) c = 1 from Nat.Coprime.mul_left hac hbc, Nat.div_one]
  have big1 : a * b ≤ 1290 * 1290 := Nat.mul_le_mul ha.2 hb.2
  have big : a * b * c ≤ 1290 * 1290 * 1290 := Nat.mul_le_mul big1 hc.2
  obtain ⟨out, o1, _, hout⟩ := merge_both hs hcons 3 0 0 (by omega) (by rw [lc]; omega) (by rw [lc]; omega) (fun k hk => by omega)
  have hl : lc Mo 3 ≤ 2147483647 := by rw [l3]; omega
  rcases hout with ⟨j, hj, hlc, _⟩ | ⟨y, rfl, hy, _, hsol⟩
  · have hpos : 0 < lc Mo 3 := lc_pos fun k hk => (hs.pos k hk).1
    have := Nat.le_of_dvd hpos (lc_mono (Mo := Mo) (show j + 1 ≤ 3 by omega))
    omega
  · have e0 := hsol 0 (by omega)
    have e1 := hsol 1 (by omega)
    have e2 := hsol 2 (by omega)
    rw [m0, R0] at e0
    rw [m1, R1] at e1
    rw [m2, R2] at e2
    rw [l3] at hy o1
    refine ⟨y, ?_, hy, e0, e1, e2⟩
    obtain ⟨K, hK⟩ := prog_check hs _ 3 0 (by omega) (fun _ => o1) (fun ⟨i', k, _, h2, h3, h4⟩ => absurd (hcons i' h2 k h3) h4)
    dsimp only at hK
    refine ⟨K, fun q hq => ?_⟩
    simp only [residue_Chinese.f]
    rw [if_pos (by simp), if_neg (by simp), bad_all (fun x hx => by simp only [List.mem_cons, List.not_mem_nil, or_false] at hx; omega), Option.bind_some, if_neg (by simp)]
    exact hK q hq

theorem modulus_of {a : Int} (h : (Lit.int .u16 a).wf = true) : ∃ m : Nat, 1 ≤ m ∧ m ≤ 1290 ∧ wrap64 (1 + Int.tmod (wrap64 a) 1290) = (m : Int) := by
  have hb : 0 ≤ a ∧ a < 65536 := by
    have h2 : 0 ≤ a ∧ a ≤ 65535 := by simpa [Lit.wf, IntKind.min, IntKind.max, IntKind.signed, IntKind.bits] using h
    omega
  refine ⟨1 + a.toNat % 1290, by omega, by omega, ?_⟩
  rw [wrap_id (x := a) (by omega) (by omega), Int.tmod_eq_emod_of_nonneg hb.1, wrap_id (by omega) (by omega)]
  omega

theorem j0_ok {k : Nat} {r0 r1 r2 A B C x N m0 m1 m2 : Int} (hx : residue_Chinese.f (k + 1) [r0, r1, r2] [A, B, C] = some (x, N, 0)) (ep : wrap64 (wrap64 (A * B) * C) = N) (h0 : 0 ≤ x) (hN : x < N)
    (hA : A ≠ 0) (hB : B ≠ 0) (hC : C ≠ 0) (f0 : galoisref04_Mod.f r0 A = some m0) (f1 : galoisref04_Mod.f r1 B = some m1) (f2 : galoisref04_Mod.f r2 C = some m2) (t0 : Int.tmod x A = m0) (t1 : Int.tmod x B = m1) (t2 : Int.tmod x C = m2) :
    galoislaw04_ResidueChinese.j0 (k + 2) A B C false r0 r1 r2 = some true := by
  simp only [galoislaw04_ResidueChinese.j0]
  rw [if_neg (by simp), hx, Option.bind_some]
  simp only [ep]
  rw [if_pos trivial, if_pos trivial, if_neg (show ¬ (x < 0) by omega), decide_eq_false (show ¬ (x ≥ N) by omega)]
  simp only [galoislaw04_ResidueChinese.j1]
  rw [if_neg (by simp), if_neg hA, f0, Option.bind_some, if_pos t0, if_neg hB, f1, Option.bind_some, if_pos t1, if_neg hC, f2, Option.bind_some, t2, beq_self_eq_true]

theorem ResidueChinese : galoislaw04_ResidueChinese.Pure := by
  intro r0 r1 r2 a1 b1 c1 _ _ _ wa wb wc
  obtain ⟨a, ha1, ha2, ea⟩ := modulus_of wa
  obtain ⟨b, hb1, hb2, eb⟩ := modulus_of wb
  obtain ⟨c, hc1, hc2, ec⟩ := modulus_of wc
  obtain ⟨Ka, hawake⟩ := awake_ev
  obtain ⟨K1, g1⟩ := Gcd_spec b a
  obtain ⟨K2, g2⟩ := Gcd_spec c a
  obtain ⟨K3, g3⟩ := Gcd_spec c b
  dsimp only at g1 g2 g3
  have quick : ∀ q, galoislaw04_ResidueChinese.j0 (q + 1) (a : Int) (b : Int) (c : Int) true r0 r1 r2 = some true := by
    intro q
    simp only [galoislaw04_ResidueChinese.j0]
    rw [if_pos trivial]
  have p1 : 1 ≤ Nat.gcd a b := Nat.gcd_pos_of_pos_left _ ha1
  have p2 : 1 ≤ Nat.gcd a c := Nat.gcd_pos_of_pos_left _ ha1
  have p3 : 1 ≤ Nat.gcd b c := Nat.gcd_pos_of_pos_left _ hb1
  by_cases c1 : (Nat.gcd a b : Int) > 1
  · refine ⟨Ka + K1 + K2 + K3 + 1, ?_⟩
    simp only [galoislaw04_ResidueChinese.f]
    rw [ea, eb, ec, hawake _ (by omega), Option.bind_some, if_pos rfl, g1 _ (by omega), Option.bind_some, if_pos c1]
    exact quick _
  · by_cases c2 : (Nat.gcd a c : Int) > 1
    · refine ⟨Ka + K1 + K2 + K3 + 1, ?_⟩
      simp only [galoislaw04_ResidueChinese.f]
      rw [ea, eb, ec, hawake _ (by omega), Option.bind_some, if_pos rfl, g1 _ (by omega), Option.bind_some, if_neg c1, g2 _ (by omega), Option.bind_some, if_pos c2]
      exact quick _
    · by_cases c3 : (Nat.gcd b c : Int) > 1
      · refine ⟨Ka + K1 + K2 + K3 + 1, ?_⟩
        simp only [galoislaw04_ResidueChinese.f]
        rw [ea, eb, ec, hawake _ (by omega), Option.bind_some, if_pos rfl, g1 _ (by omega), Option.bind_some, if_neg c1, g2 _ (by omega), Option.bind_some, if_neg c2, g3 _ (by omega), Option.bind_some, decide_eq_true c3]
        exact quick _
      · obtain ⟨x, ⟨Kx, hx⟩, hlt, e0, e1, e2⟩ := chinese3 r0 r1 r2 a b c ⟨ha1, ha2⟩ ⟨hb1, hb2⟩ ⟨hc1, hc2⟩ (by omega) (by omega) (by omega)
        dsimp only at hx
        have big1 : a * b ≤ 1290 * 1290 := Nat.mul_le_mul ha2 hb2
        have big : a * b * c ≤ 1290 * 1290 * 1290 := Nat.mul_le_mul big1 hc2
        have ep : wrap64 (wrap64 ((a : Int) * b) * c) = ((a * b * c : Nat) : Int) := by
          rw [wrap_id (x := (a : Int) * b) (by have : (a : Int) * b = ((a * b : Nat) : Int) := by push_cast; rfl
                                               omega) (by have : (a : Int) * b = ((a * b : Nat) : Int) := by push_cast; rfl
                                                          omega)]
          have : (a : Int) * b * c = ((a * b * c : Nat) : Int) := by push_cast; rfl
          rw [this, wrap_id (by omega) (by omega)]
        refine ⟨Ka + K1 + K2 + K3 + Kx + 2, ?_⟩
        simp only [galoislaw04_ResidueChinese.f]
        rw [ea, eb, ec, hawake _ (by omega), Option.bind_some, if_pos rfl, g1 _ (by omega), Option.bind_some, if_neg c1, g2 _ (by omega), Option.bind_some, if_neg c2, g3 _ (by omega), Option.bind_some, decide_eq_false c3]
        have t0 : Int.tmod (x : Int) (a : Int) = (res r0 a : Int) := by rw [Int.tmod_eq_emod_of_nonneg (by omega), ← Int.natCast_emod, e0]
        have t1 : Int.tmod (x : Int) (b : Int) = (res r1 b : Int) := by rw [Int.tmod_eq_emod_of_nonneg (by omega), ← Int.natCast_emod, e1]
        have t2 : Int.tmod (x : Int) (c : Int) = (res r2 c : Int) := by rw [Int.tmod_eq_emod_of_nonneg (by omega), ← Int.natCast_emod, e2]
        exact j0_ok (hx _ (by omega)) ep (Int.natCast_nonneg x) (Int.ofNat_lt.2 hlt) (by omega) (by omega) (by omega) (Mod_nat ha1 (by omega)) (Mod_nat hb1 (by omega)) (Mod_nat hc1 (by omega)) t0 t1 t2
end Go.Proofs.Ytmedflaejnbkoaa.Pure

/- Machine side and arithmetic of the law, put together by a program of the session. No conditions. -/
import Derived.WalkKit
import Derived.WalkSmall
import Derived.KernelRfl
import Derived.Test.YtalnaafmonmlmaaKSums7
import Derived.Test.YtalnaafmonmlmaaKSums8
import Derived.Test.YtalnaafmonmlmaaKSums9
import Derived.Test.YtalnaafmonmlmaaKSums11
import Derived.Test.YtalnaafmonmlmaaKSums12
section
namespace Go.Proofs.Ytalnaafmonmlmaa.Q
open Go.RowKit Go.Proofs.YtalnaafmonmlmaaW.PrintWords Go.Proofs.YtalnaafmonmlmaaW.PrintLast Go.Proofs.YtalnaafmonmlmaaW.PrintMore
set_option maxRecDepth 100000 in
theorem awake_ge (k : Nat) : galoislaw15_awake.f (k + 60) = some true := by kernel_rfl
theorem awake_ev : Ev galoislaw15_awake.f true := ⟨60, fun k hk => by
  obtain ⟨j, rfl⟩ : ∃ j, k = j + 60 := ⟨k - 60, by omega⟩
  exact awake_ge j⟩
end Go.Proofs.Ytalnaafmonmlmaa.Q
end
section
namespace Go.Proofs.Ytalnaafmonmlmaa.Pure
open Go.RowKit Go.Proofs.YtalnaafmonmlmaaW.PrintWords Go.Proofs.YtalnaafmonmlmaaW.PrintLast Go.Proofs.YtalnaafmonmlmaaW.PrintMore Go.Proofs.Ytalnaafmonmlmaa.M Go.Proofs.Ytalnaafmonmlmaa.M.ZX Go.Proofs.Ytalnaafmonmlmaa.Q
set_option linter.unusedVariables false
set_option linter.unusedSimpArgs false
theorem right_val (l : List Int) (hl : l.length ≤ 1000000) : Ev (fun k => galoislaw15_right.f k l 0 0 l) true := by
  obtain ⟨K, hK⟩ := Same_spec l l hl
  dsimp only at hK
  refine ⟨K, fun k hk => ?_⟩
  simp only [galoislaw15_right.f]
  rw [if_pos trivial, hK k hk, Option.bind_some, decide_eq_true rfl, if_pos rfl]
  rfl
theorem right_err {e : Int} (he : e ≠ 0) (m : List Int) (k : Nat) : galoislaw15_right.f k [] e e m = some true := by
  simp only [galoislaw15_right.f]
  rw [if_neg he, if_pos (by simp)]
  simp
noncomputable def ck2 (p : Int) (f a b : List Int) : Int := if ckF p f = 0 then ckL p f [a, b] else ckF p f
theorem ckL_two (p : Int) (f a b : List Int) : ckL p f [a, b] = if ckE p f a = 0 then ckE p f b else ckE p f a := by
  show (if ckE p f a = 0 then (if ckE p f b = 0 then (0 : Int) else ckE p f b) else ckE p f a) = _
  split
  · split
    · rename_i h; exact h.symm
    · rfl
  · rfl
theorem expected_spec (p : Int) (f a b : List Int) : Ev (fun k => galoislaw15_expected.f k p f a b) (ck2 p f a b) := by
  obtain ⟨K, hK⟩ := ref15_CheckElement_spec p f a
  obtain ⟨K2, hK2⟩ := Member_spec p f b
  dsimp only at hK hK2
  refine ⟨K + K2, fun k hk => ?_⟩
  simp only [galoislaw15_expected.f]
  rw [hK k (by omega), Option.bind_some]
  unfold ck2
  rw [ckL_two]
  by_cases h0 : ckF p f = 0
  · rw [if_pos h0, if_pos h0]
    by_cases h1 : ckE p f a = 0
    · rw [if_pos h1, hK2 k (by omega), Option.bind_some, if_pos h1]
    · rw [if_neg h1, if_neg h1]
  · rw [if_neg h0, if_neg h0, if_neg h0]
theorem ck2_zero {p : Int} {f a b : List Int} (h : ck2 p f a b = 0) : ∃ q : Nat, p = q ∧ Fld q f ∧ NL q a ∧ a.length < f.length ∧ NL q b ∧ b.length < f.length := by
  unfold ck2 at h
  split at h
  · rename_i h0
    obtain ⟨q, rfl, hF⟩ := ckF_zero h0
    rw [ckL_two] at h
    split at h
    · rename_i h1
      have e1 := ckE_zero h1
      have e2 := ckE_zero h
      exact ⟨q, rfl, hF, e1.1, e1.2, e2.1, e2.2⟩
    · rename_i h1; exact absurd h h1
  · rename_i h0; exact absurd h h0
theorem Add_spec (p : Int) (f a b : List Int) : Ev (fun k => finitefield_Add.f k p f a b) (if ck2 p f a b = 0 then (nf p.toNat (P a + P b), 0) else ([], ck2 p f a b)) := by
  obtain ⟨K, hK⟩ := check_spec p f [a, b] (by simp)
  dsimp only at hK
  change ∀ k, K ≤ k → _ = some (ck2 p f a b) at hK
  by_cases h0 : ck2 p f a b = 0
  · obtain ⟨q, rfl, hF, ha, hla, hb, hlb⟩ := ck2_zero h0
    have := hF.len
    obtain ⟨K2, hK2⟩ := fp_Add_spec (prm_pos hF.prm) hF.le ha hb (by omega) (by omega)
    dsimp only at hK2
    refine ⟨K + K2, fun k hk => ?_⟩
    simp only [finitefield_Add.f]
    rw [hK k (by omega), Option.bind_some, if_pos h0, if_pos h0, hK2 k (by omega), Option.bind_some, Int.toNat_natCast]
  · refine ⟨K, fun k hk => ?_⟩
    simp only [finitefield_Add.f]
    rw [hK k hk, Option.bind_some, if_neg h0, if_neg h0]
theorem Sub_spec (p : Int) (f a b : List Int) : Ev (fun k => finitefield_Sub.f k p f a b) (if ck2 p f a b = 0 then (nf p.toNat (P a - P b), 0) else ([], ck2 p f a b)) := by
  obtain ⟨K, hK⟩ := check_spec p f [a, b] (by simp)
  dsimp only at hK
  change ∀ k, K ≤ k → _ = some (ck2 p f a b) at hK
  by_cases h0 : ck2 p f a b = 0
  · obtain ⟨q, rfl, hF, ha, hla, hb, hlb⟩ := ck2_zero h0
    have := hF.len
    obtain ⟨K2, hK2⟩ := fp_Sub_spec (prm_pos hF.prm) hF.le ha hb (by omega) (by omega)
    dsimp only at hK2
    refine ⟨K + K2, fun k hk => ?_⟩
    simp only [finitefield_Sub.f]
    rw [hK k (by omega), Option.bind_some, if_pos h0, if_pos h0, hK2 k (by omega), Option.bind_some, Int.toNat_natCast]
  · refine ⟨K, fun k hk => ?_⟩
    simp only [finitefield_Sub.f]
    rw [hK k hk, Option.bind_some, if_neg h0, if_neg h0]
theorem Mul_spec (p : Int) (f a b : List Int) : Ev (fun k => finitefield_Mul.f k p f a b) (if ck2 p f a b = 0 then (rm p.toNat f (P a * P b), 0) else ([], ck2 p f a b)) := by
  obtain ⟨K, hK⟩ := check_spec p f [a, b] (by simp)
  dsimp only at hK
  change ∀ k, K ≤ k → _ = some (ck2 p f a b) at hK
  by_cases h0 : ck2 p f a b = 0
  · obtain ⟨q, rfl, hF, ha, hla, hb, hlb⟩ := ck2_zero h0
    have := hF.len
    obtain ⟨K2, hK2⟩ := fp_MulMod_spec hF.prm hF.le ha hb hF.nl hF.ne (by omega) (by omega) (by omega)
    dsimp only at hK2
    refine ⟨K + K2, fun k hk => ?_⟩
    simp only [finitefield_Mul.f, gf_Field_Mul.f]
    rw [hK k (by omega), Option.bind_some, if_pos h0, if_pos h0, hK2 k (by omega), Option.bind_some, Option.bind_some, Int.toNat_natCast]
  · refine ⟨K, fun k hk => ?_⟩
    simp only [finitefield_Mul.f]
    rw [hK k hk, Option.bind_some, if_neg h0, if_neg h0]
theorem sums_tail (p : Int) (f a b : List Int) : ∃ K, ∀ k, K ≤ k → ∀ x7 x8 x9 x10 x11 x12, x7 = (if ck2 p f a b = 0 then (nf p.toNat (P a + P b), (0 : Int)) else ([], ck2 p f a b)).1 → x8 = (if ck2 p f a b = 0 then (nf p.toNat (P a + P b), (0 : Int)) else ([], ck2 p f a b)).2 →
    x9 = (if ck2 p f a b = 0 then (nf p.toNat (P a - P b), (0 : Int)) else ([], ck2 p f a b)).1 → x10 = (if ck2 p f a b = 0 then (nf p.toNat (P a - P b), (0 : Int)) else ([], ck2 p f a b)).2 →
    x11 = (if ck2 p f a b = 0 then (rm p.toNat f (P a * P b), (0 : Int)) else ([], ck2 p f a b)).1 → x12 = (if ck2 p f a b = 0 then (rm p.toNat f (P a * P b), (0 : Int)) else ([], ck2 p f a b)).2 →
    galoislaw15_FinitefieldSums.j1 k a b x7 x8 x9 x10 x11 x12 false p f = some true := by
  obtain ⟨K, hK⟩ := expected_spec p f a b
  dsimp only at hK
  by_cases h0 : ck2 p f a b = 0
  · obtain ⟨q, rfl, hF, ha, hla, hb, hlb⟩ := ck2_zero h0
    have := hF.len
    have hq := prm_pos hF.prm
    obtain ⟨K2, hK2⟩ := ref_Add_spec hq hF.le ha hb (by omega) (by omega)
    obtain ⟨K3, hK3⟩ := ref_Sub_spec hq hF.le ha hb (by omega) (by omega)
    obtain ⟨K4, hK4⟩ := ref_MulMod_spec hF.prm hF.le ha hb hF.nl hF.ne (by omega) (by omega) (by omega)
    have l1 : (nf q (P a + P b)).length ≤ 17 := nf_dg hq ((Dg.of_P (by omega)).add (Dg.of_P (by omega)))
    have l2 : (nf q (P a - P b)).length ≤ 17 := nf_dg hq ((Dg.of_P (by omega)).sub (Dg.of_P (by omega)))
    have l3 := (rm_spec hF.prm hF.nl hF.ne (P a * P b)).2.1
    obtain ⟨K5, hK5⟩ := right_val (nf q (P a + P b)) (by omega)
    obtain ⟨K6, hK6⟩ := right_val (nf q (P a - P b)) (by omega)
    obtain ⟨K7, hK7⟩ := right_val (rm q f (P a * P b)) (by omega)
    dsimp only at hK2 hK3 hK4 hK5 hK6 hK7
    refine ⟨K + K2 + K3 + K4 + K5 + K6 + K7 + 1, fun k hk x7 x8 x9 x10 x11 x12 e7 e8 e9 e10 e11 e12 => ?_⟩
    rw [if_pos h0, Int.toNat_natCast] at e7 e8 e9 e10 e11 e12
    subst e7 e8 e9 e10 e11 e12
    obtain ⟨k', rfl, hk'⟩ := ex_succ hk
    simp only [galoislaw15_FinitefieldSums.j1, galoisref15_Add.f, galoisref15_Sub.f, galoisref15_Mul.f]
    rw [if_neg (by simp), hK k' (by omega), Option.bind_some, if_pos h0, hK2 k' (by omega), Option.bind_some, Option.bind_some, hK5 k' (by omega), Option.bind_some, if_pos rfl, hK3 k' (by omega), Option.bind_some, Option.bind_some, hK6 k' (by omega), Option.bind_some, if_pos rfl, hK4 k' (by omega), Option.bind_some, Option.bind_some, hK7 k' (by omega), Option.bind_some]
  · refine ⟨K + 1, fun k hk x7 x8 x9 x10 x11 x12 e7 e8 e9 e10 e11 e12 => ?_⟩
    rw [if_neg h0] at e7 e8 e9 e10 e11 e12
    subst e7 e8 e9 e10 e11 e12
    obtain ⟨k', rfl, hk'⟩ := ex_succ hk
    simp only [galoislaw15_FinitefieldSums.j1]
    rw [if_neg (by simp), hK k' (by omega), Option.bind_some, if_neg h0, right_err h0]
    rfl
theorem FinitefieldSums : galoislaw15_FinitefieldSums.Pure := by
  intro p f a b _ _ _ _ _ _ _ _ _ _
  obtain ⟨Ka, ha⟩ := awake_ev
  by_cases hs : f.length ≤ 70 ∧ a.length ≤ 70 ∧ b.length ≤ 70
  · have hshort : galoislaw15_short.f p f a b = some true := by
      simp only [galoislaw15_short.f]
      rw [if_pos (by omega), if_pos (by omega), decide_eq_true (by omega)]
    obtain ⟨K1, h1⟩ := Add_spec p f a b
    obtain ⟨K2, h2⟩ := Sub_spec p f a b
    obtain ⟨K3, h3⟩ := Mul_spec p f a b
    obtain ⟨K4, h4⟩ := field_Check_spec p f
    obtain ⟨K5, h5⟩ := ref15_Check_spec p f
    obtain ⟨K6, h6⟩ := CheckElement_spec p f a
    obtain ⟨K7, h7⟩ := ref15_CheckElement_spec p f a
    obtain ⟨K8, h8⟩ := sums_tail p f a b
    dsimp only at h1 h2 h3 h4 h5 h6 h7
    refine ⟨Ka + K1 + K2 + K3 + K4 + K5 + K6 + K7 + K8 + 1, ?_⟩
    simp only [galoislaw15_FinitefieldSums.f]
    rw [ha _ (by omega), Option.bind_some, if_pos rfl, hshort, Option.bind_some]
    simp only [galoislaw15_FinitefieldSums.j0, Bool.not_true]
    rw [if_neg (by simp), h1 _ (by omega), Option.bind_some, h2 _ (by omega), Option.bind_some, h3 _ (by omega), Option.bind_some, h4 _ (by omega), Option.bind_some, h5 _ (by omega), Option.bind_some, if_pos rfl, h6 _ (by omega), Option.bind_some, h7 _ (by omega), Option.bind_some, bne_self_eq_false]
    exact h8 _ (by omega) _ _ _ _ _ _ rfl rfl rfl rfl rfl rfl
  · have hshort : galoislaw15_short.f p f a b = some false := by
      simp only [galoislaw15_short.f]
      by_cases h1 : f.length ≤ 70
      · rw [if_pos (by omega)]
        by_cases h2 : a.length ≤ 70
        · rw [if_pos (by omega), decide_eq_false (by omega)]
        · rw [if_neg (by omega)]
      · rw [if_neg (by omega)]
    refine ⟨Ka + 1, ?_⟩
    simp only [galoislaw15_FinitefieldSums.f]
    rw [ha _ (by omega), Option.bind_some, if_pos rfl, hshort, Option.bind_some]
    simp only [galoislaw15_FinitefieldSums.j0, Bool.not_false]
    rw [if_pos trivial, ha _ (Nat.le_refl _), Option.bind_some]
end Go.Proofs.Ytalnaafmonmlmaa.Pure
end

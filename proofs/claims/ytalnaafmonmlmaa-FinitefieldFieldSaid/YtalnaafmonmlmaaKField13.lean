/- Machine side and arithmetic of the law, put together by a program of the session. No conditions. -/
import Derived.WalkKit
import Derived.WalkSmall
import Derived.KernelRfl
import Derived.Test.YtalnaafmonmlmaaKField10
import Derived.Test.YtalnaafmonmlmaaKField11
import Derived.Test.YtalnaafmonmlmaaKField12
section
namespace Go.Proofs.Ytalnaafmonmlmaa.Q
open Go.RowKit Go.Proofs.YtalnaafmonmlmaaW.PrintWords Go.Proofs.YtalnaafmonmlmaaW.PrintLast Go.Proofs.YtalnaafmonmlmaaW.PrintMore
set_option maxRecDepth 100000 in
theorem awake_ge (k : Nat) : galoislaw15_awake.f (k + 60) = some true := by kernel_rfl
theorem awake_ev : Ev galoislaw15_awake.f true := ⟨60, fun k hk => by
  obtain ⟨j, rfl⟩ : ∃ j, k = j + 60 := ⟨k - 60, by omega⟩
  exact awake_ge j⟩
end Go.Proofs.Ytalnaafmonmlmaa.Q
end
section
namespace Go.Proofs.Ytalnaafmonmlmaa.Pure
open Go.RowKit Go.Proofs.YtalnaafmonmlmaaW.PrintWords Go.Proofs.YtalnaafmonmlmaaW.PrintLast Go.Proofs.YtalnaafmonmlmaaW.PrintMore Go.Proofs.Ytalnaafmonmlmaa.M Go.Proofs.Ytalnaafmonmlmaa.M.ZX Go.Proofs.Ytalnaafmonmlmaa.Q
set_option linter.unusedVariables false
set_option linter.unusedSimpArgs false
section
variable {q : Nat} {f : List Int} (hF : Fld q f)
include hF
theorem field_j2 {a c p : List Int} {x z : ZX} (ha : El q f a x) (hc : El q f c z) (hp : El q f p (x * z)) (b : List Int) : Ev (fun k => galoislaw15_FinitefieldField.j2 k p false q f a b c) true := by
  by_cases h0 : c = []
  · subst h0
    refine ⟨1, fun k hk => ?_⟩
    obtain ⟨k', rfl, hk'⟩ := ex_succ hk
    simp only [galoislaw15_FinitefieldField.j2]
    rw [if_neg (by simp), if_pos (by simp)]
  · have hl : 0 < c.length := List.length_pos_iff.2 h0
    have hz : ¬ In q (P f) z := fun h => h0 ((hc.nil_iff hF).2 h)
    obtain ⟨d, hd, e1, K1, h1⟩ := Div_ok hF hp hc h0
    obtain ⟨i, hi, e2, K2, h2⟩ := Inverse_ok hF hc h0
    obtain ⟨u, hu, K3, h3⟩ := Mul_ok hF hi hc
    have t1 : d = a := hd.eq hF ha (Dom.cancel hF.dom hz ((Cg.of_eq (ZX.ext fun x => by (try simp only [ZX.add_v, ZX.mul_v, ZX.sub_v, ZX.neg_v, ZX.zero_v, ZX.one_v, ZX.C_v, ZX.X_v, ZX.pow_v]) <;> grind) : Cg q (P f) (z * P d) (P d * z)).trans (e1.trans (Cg.of_eq (ZX.ext fun x => by (try simp only [ZX.add_v, ZX.mul_v, ZX.sub_v, ZX.neg_v, ZX.zero_v, ZX.one_v, ZX.C_v, ZX.X_v, ZX.pow_v]) <;> grind)))))
    have t2 : u = [1] := hu.eq hF (El.one hF) e2
    obtain ⟨K4, h4⟩ := Same_ok t1 (hd.small hF)
    obtain ⟨K5, h5⟩ := Same_ok t2 (hu.small hF)
    dsimp only at h1 h2 h3 h4 h5
    refine ⟨K1 + K2 + K3 + K4 + K5 + 1, fun k hk => ?_⟩
    obtain ⟨k', rfl, hk'⟩ := ex_succ hk
    simp only [galoislaw15_FinitefieldField.j2]
    rw [if_neg (by simp), if_neg (by omega), h1 k' (by omega), Option.bind_some, h2 k' (by omega), Option.bind_some, h3 k' (by omega), Option.bind_some, if_pos rfl, if_pos rfl, if_pos rfl, h4 k' (by omega), Option.bind_some, if_pos rfl, h5 k' (by omega), Option.bind_some]
theorem field_j1 {a b c p r : List Int} {x y z : ZX} (ha : El q f a x) (hb : El q f b y) (hc : El q f c z) (hp : El q f p (x * z)) (hr : El q f r (z * y)) : Ev (fun k => galoislaw15_FinitefieldField.j1 k p r false q f a b c) true := by
  obtain ⟨d1, e1, K1, h1⟩ := Mul_ok hF hp hb
  obtain ⟨d2, e2, K2, h2⟩ := Mul_ok hF ha hr
  obtain ⟨d3, e3, K3, h3⟩ := Mul_ok hF hc ha
  have t1 : d1 = d2 := e1.eq hF e2 (Cg.of_eq (ZX.ext fun x => by (try simp only [ZX.add_v, ZX.mul_v, ZX.sub_v, ZX.neg_v, ZX.zero_v, ZX.one_v, ZX.C_v, ZX.X_v, ZX.pow_v]) <;> grind))
  have t2 : d3 = p := e3.eq hF hp (Cg.of_eq (ZX.ext fun x => by (try simp only [ZX.add_v, ZX.mul_v, ZX.sub_v, ZX.neg_v, ZX.zero_v, ZX.one_v, ZX.C_v, ZX.X_v, ZX.pow_v]) <;> grind))
  obtain ⟨K4, h4⟩ := Same_ok t1 (e1.small hF)
  obtain ⟨K5, h5⟩ := Same_ok t2 (e3.small hF)
  obtain ⟨K6, h6⟩ := field_j2 hF ha hc hp b
  dsimp only at h1 h2 h3 h4 h5 h6
  refine ⟨K1 + K2 + K3 + K4 + K5 + K6 + 1, fun k hk => ?_⟩
  obtain ⟨k', rfl, hk'⟩ := ex_succ hk
  simp only [galoislaw15_FinitefieldField.j1]
  rw [if_neg (by simp), h1 k' (by omega), Option.bind_some, h2 k' (by omega), Option.bind_some, h3 k' (by omega), Option.bind_some, if_pos rfl, if_pos rfl, if_pos rfl, h4 k' (by omega), Option.bind_some, if_pos rfl, h5 k' (by omega), Option.bind_some]
  exact h6 k' (by omega)
theorem field_j0 {a b c : List Int} {x y z : ZX} (ha : El q f a x) (hb : El q f b y) (hc : El q f c z) : Ev (fun k => galoislaw15_FinitefieldField.j0 k false q f a b c) true := by
  obtain ⟨s, e1, K1, h1⟩ := Add_ok hF ha hb
  obtain ⟨s2, e2, K2, h2⟩ := Add_ok hF hb ha
  obtain ⟨l, e3, K3, h3⟩ := Mul_ok hF e1 hc
  obtain ⟨p, e4, K4, h4⟩ := Mul_ok hF ha hc
  obtain ⟨r, e5, K5, h5⟩ := Mul_ok hF hc hb
  obtain ⟨bo, e6, K6, h6⟩ := Add_ok hF e4 e5
  obtain ⟨bk, e7, K7, h7⟩ := Sub_ok hF e1 hb
  have t1 : s = s2 := e1.eq hF e2 (Cg.of_eq (ZX.ext fun x => by (try simp only [ZX.add_v, ZX.mul_v, ZX.sub_v, ZX.neg_v, ZX.zero_v, ZX.one_v, ZX.C_v, ZX.X_v, ZX.pow_v]) <;> grind))
  have t2 : l = bo := e3.eq hF e6 (Cg.of_eq (ZX.ext fun x => by (try simp only [ZX.add_v, ZX.mul_v, ZX.sub_v, ZX.neg_v, ZX.zero_v, ZX.one_v, ZX.C_v, ZX.X_v, ZX.pow_v]) <;> grind))
  have t3 : bk = a := e7.eq hF ha (Cg.of_eq (ZX.ext fun x => by (try simp only [ZX.add_v, ZX.mul_v, ZX.sub_v, ZX.neg_v, ZX.zero_v, ZX.one_v, ZX.C_v, ZX.X_v, ZX.pow_v]) <;> grind))
  obtain ⟨K8, h8⟩ := Same_ok t1 (e1.small hF)
  obtain ⟨K9, h9⟩ := Same_ok t2 (e3.small hF)
  obtain ⟨K10, h10⟩ := Same_ok t3 (e7.small hF)
  obtain ⟨K11, h11⟩ := field_j1 hF ha hb hc e4 e5
  dsimp only at h1 h2 h3 h4 h5 h6 h7 h8 h9 h10 h11
  refine ⟨K1 + K2 + K3 + K4 + K5 + K6 + K7 + K8 + K9 + K10 + K11 + 1, fun k hk => ?_⟩
  obtain ⟨k', rfl, hk'⟩ := ex_succ hk
  simp only [galoislaw15_FinitefieldField.j0]
  rw [if_neg (by simp), h1 k' (by omega), Option.bind_some, h2 k' (by omega), Option.bind_some, h3 k' (by omega), Option.bind_some, h4 k' (by omega), Option.bind_some, h5 k' (by omega), Option.bind_some, h6 k' (by omega), Option.bind_some, h7 k' (by omega), Option.bind_some,
    if_pos rfl, if_pos rfl, if_pos rfl, if_pos rfl, if_pos rfl, if_pos rfl, if_pos rfl, h8 k' (by omega), Option.bind_some, if_pos rfl, h9 k' (by omega), Option.bind_some, if_pos rfl, h10 k' (by omega), Option.bind_some]
  exact h11 k' (by omega)
end
theorem FinitefieldField : galoislaw15_FinitefieldField.Pure := by
  intro p f a b c _ _ _ _ _ _ _ _ _ _ _ _ _
  obtain ⟨Ka, ha⟩ := awake_ev
  have out : ∀ k, Ka ≤ k → galoislaw15_FinitefieldField.j0 (k + 1) true p f a b c = some true := fun k hk => by
    simp only [galoislaw15_FinitefieldField.j0]
    rw [if_pos trivial, ha k hk, Option.bind_some]
  obtain ⟨K1, h1⟩ := ref15_Check_spec p f
  obtain ⟨K2, h2⟩ := Member_spec p f a
  obtain ⟨K3, h3⟩ := Member_spec p f b
  obtain ⟨K4, h4⟩ := Member_spec p f c
  dsimp only at h1 h2 h3 h4
  by_cases good : f.length ≤ 9 ∧ ckF p f = 0 ∧ ckE p f a = 0 ∧ ckE p f b = 0 ∧ ckE p f c = 0
  · obtain ⟨hlen, e1, e2, e3, e4⟩ := good
    obtain ⟨q, rfl, hF⟩ := ckF_zero e1
    obtain ⟨K5, h5⟩ := field_j0 hF (El.of hF (ckE_zero e2).1 (ckE_zero e2).2) (El.of hF (ckE_zero e3).1 (ckE_zero e3).2) (El.of hF (ckE_zero e4).1 (ckE_zero e4).2)
    dsimp only at h5
    refine ⟨Ka + K1 + K2 + K3 + K4 + K5, ?_⟩
    simp only [galoislaw15_FinitefieldField.f]
    rw [ha _ (by omega), Option.bind_some, if_pos rfl, if_neg (by omega), h1 _ (by omega), Option.bind_some, if_pos e1, h2 _ (by omega), Option.bind_some, if_pos e2, h3 _ (by omega), Option.bind_some, if_pos e3, h4 _ (by omega), Option.bind_some, e4, bne_self_eq_false]
    exact h5 _ (by omega)
  · refine ⟨Ka + K1 + K2 + K3 + K4 + 1, ?_⟩
    simp only [galoislaw15_FinitefieldField.f]
    rw [ha _ (by omega), Option.bind_some, if_pos rfl]
    by_cases g1 : (f.length : Int) > 9
    · rw [if_pos g1, out _ (by omega)]
    · rw [if_neg g1, h1 _ (by omega), Option.bind_some]
      by_cases e1 : ckF p f = 0
      · rw [if_pos e1, h2 _ (by omega), Option.bind_some]
        by_cases e2 : ckE p f a = 0
        · rw [if_pos e2, h3 _ (by omega), Option.bind_some]
          by_cases e3 : ckE p f b = 0
          · rw [if_pos e3, h4 _ (by omega), Option.bind_some, bne_iff_ne.2 (fun e4 => good ⟨by omega, e1, e2, e3, e4⟩), out _ (by omega)]
          · rw [if_neg e3, out _ (by omega)]
        · rw [if_neg e2, out _ (by omega)]
      · rw [if_neg e1, out _ (by omega)]
end Go.Proofs.Ytalnaafmonmlmaa.Pure
end

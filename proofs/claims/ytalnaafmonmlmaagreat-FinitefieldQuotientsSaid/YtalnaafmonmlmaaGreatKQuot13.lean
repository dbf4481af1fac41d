/- Machine side and arithmetic of the law, put together by a program of the session. No conditions. -/
import Derived.WalkKit
import Derived.WalkSmall
import Derived.KernelRfl
import Derived.Test.YtalnaafmonmlmaaGreatKQuot7
import Derived.Test.YtalnaafmonmlmaaGreatKQuot8
import Derived.Test.YtalnaafmonmlmaaGreatKQuot10
import Derived.Test.YtalnaafmonmlmaaGreatKQuot11
import Derived.Test.YtalnaafmonmlmaaGreatKQuot12
section
namespace Go.Proofs.YtalnaafmonmlmaaGreat.Q
open Go.RowKit Go.Proofs.YtalnaafmonmlmaaGreatW.PrintWords Go.Proofs.YtalnaafmonmlmaaGreatW.PrintLast Go.Proofs.YtalnaafmonmlmaaGreatW.PrintMore
set_option maxRecDepth 100000 in
theorem awake_ge (k : Nat) : galoislaw15_awake.f (k + 60) = some true := by kernel_rfl
theorem awake_ev : Ev galoislaw15_awake.f true := ⟨60, fun k hk => by
  obtain ⟨j, rfl⟩ : ∃ j, k = j + 60 := ⟨k - 60, by omega⟩
  exact awake_ge j⟩
end Go.Proofs.YtalnaafmonmlmaaGreat.Q
end
section
namespace Go.Proofs.YtalnaafmonmlmaaGreat.Pure
open Go.RowKit Go.Proofs.YtalnaafmonmlmaaGreatW.PrintWords Go.Proofs.YtalnaafmonmlmaaGreatW.PrintLast Go.Proofs.YtalnaafmonmlmaaGreatW.PrintMore Go.Proofs.YtalnaafmonmlmaaGreat.M Go.Proofs.YtalnaafmonmlmaaGreat.M.ZX Go.Proofs.YtalnaafmonmlmaaGreat.Q
set_option linter.unusedVariables false
set_option linter.unusedSimpArgs false
theorem bytes_loop (e : ByteArray) : ∀ (d i : Nat) (r : List UInt8), i + d = e.size → (ByteArray.toList.loop e i r).length = r.length + d
  | 0, i, r, h => by
    unfold ByteArray.toList.loop
    rw [if_neg (by omega), List.length_reverse]
    rfl
  | d + 1, i, r, h => by
    unfold ByteArray.toList.loop
    rw [if_pos (by omega), bytes_loop e d (i + 1) _ (by omega), List.length_cons]
    omega
theorem ref_Valid (e : ByteArray) : galoisref01_Valid.f e = some (!decide (0 < e.size ∧ bt e 0 = 0)) := by
  simp only [galoisref01_Valid.f]
  have e2 : e.toList.length = e.size := by
    have := bytes_loop e e.size 0 [] (by omega)
    rw [List.length_nil, Nat.zero_add] at this
    exact this
  by_cases h0 : e.toList = []
  · have hs : e.size = 0 := by rw [h0] at e2; simpa using e2.symm
    rw [if_pos h0, decide_eq_false (fun h => by omega)]
    rfl
  · have hs : 0 < e.size := by
      have := List.length_pos_iff.2 h0
      omega
    rw [if_neg h0, if_pos (by omega)]
    by_cases h1 : bt e 0 = 0
    · rw [decide_eq_true ⟨hs, h1⟩, h1]; rfl
    · rw [decide_eq_false (fun h => h1 h.2), bne_iff_ne.2 h1]; rfl
theorem ref_Check_N (e : ByteArray) : galoisref01_Check.f e = some (ckN e) := by
  simp only [galoisref01_Check.f, galoisref01_Fits.f]
  rw [ref_Valid, Option.bind_some]
  unfold ckN
  by_cases h : 0 < e.size ∧ bt e 0 = 0
  · rw [decide_eq_true h, if_neg (by simp), if_pos h]
  · rw [decide_eq_false h, if_pos (by simp), if_neg h]
    by_cases h2 : e.size > 1024
    · rw [if_pos (by omega), if_pos h2, Option.bind_some]
    · rw [if_neg (by omega), if_neg h2, Option.bind_some]
noncomputable def ck1 (p : Int) (f a : List Int) : Int := if ckF p f = 0 then ckE p f a else ckF p f
theorem check_a (p : Int) (f a : List Int) : Ev (fun k => finitefield_check.f k p f [a]) (ck1 p f a) := by
  have := check_spec p f [a] (by simp)
  have e : ckL p f [a] = ckE p f a := by
    show (if ckE p f a = 0 then (0 : Int) else ckE p f a) = ckE p f a
    split
    · rename_i h; exact h.symm
    · rfl
  rw [e] at this
  exact this
theorem check_ab (p : Int) (f a b : List Int) : Ev (fun k => finitefield_check.f k p f [a, b]) (if ck1 p f a = 0 then ckE p f b else ck1 p f a) := by
  have := check_spec p f [a, b] (by simp)
  have e : (if ckF p f = 0 then ckL p f [a, b] else ckF p f) = if ck1 p f a = 0 then ckE p f b else ck1 p f a := by
    unfold ck1
    by_cases h0 : ckF p f = 0
    · rw [if_pos h0, if_pos h0]
      show (if ckE p f a = 0 then (if ckE p f b = 0 then (0 : Int) else ckE p f b) else ckE p f a) = _
      by_cases h1 : ckE p f a = 0
      · rw [if_pos h1, if_pos h1]
        split
        · rename_i h; exact h.symm
        · rfl
      · rw [if_neg h1, if_neg h1]
    · rw [if_neg h0, if_neg h0, if_neg h0]
  rw [e] at this
  exact this
theorem bad_j0 {p : Int} {f a b : List Int} {e : ByteArray} (h : ck1 p f a ≠ 0) : Ev (fun k => galoislaw15_FinitefieldQuotients.j0 k false p f a b e) true := by
  obtain ⟨K1, h1⟩ := check_ab p f a b
  obtain ⟨K2, h2⟩ := check_a p f a
  obtain ⟨K3, h3⟩ := ref15_CheckElement_spec p f a
  dsimp only at h1 h2 h3
  rw [if_neg h] at h1
  change ∀ k, K3 ≤ k → _ = some (ck1 p f a) at h3
  refine ⟨K1 + K2 + K3 + 1, fun k hk => ?_⟩
  obtain ⟨k', rfl, hk'⟩ := ex_succ hk
  have hD : finitefield_Div.f k' p f a b = some ([], ck1 p f a) := by simp only [finitefield_Div.f]; rw [h1 k' (by omega), Option.bind_some, if_neg h]
  have hI : finitefield_Inverse.f k' p f a = some ([], ck1 p f a) := by simp only [finitefield_Inverse.f]; rw [h2 k' (by omega), Option.bind_some, if_neg h]
  have hP : finitefield_Pow.f k' p f a e = some ([], ck1 p f a) := by simp only [finitefield_Pow.f]; rw [h2 k' (by omega), Option.bind_some, if_neg h]
  simp only [galoislaw15_FinitefieldQuotients.j0]
  rw [if_neg (by simp), hD, Option.bind_some, hI, Option.bind_some, hP, Option.bind_some, h3 k' (by omega), Option.bind_some, if_neg h]
  dsimp only
  rw [right_bad h]
  rfl
section
variable {q : Nat} {f : List Int} (hF : Fld q f)
include hF
theorem quot_j4 {a b c : List Int} {e : ByteArray} {x : ZX} (ha : El q f a x) (E : Int)
    (h : (E = 0 ∧ ∃ hb : El q f b (P b), b ≠ [] ∧ El q f c (P c) ∧ Cg q (P f) (P c * P b) x) ∨ (E ≠ 0 ∧ c = [])) : Ev (fun k => galoislaw15_FinitefieldQuotients.j4 k c E E q f a b e) true := by
  have hlen := hF.len
  rcases h with ⟨rfl, hb, hne, hc, h⟩ | ⟨hE, rfl⟩
  · obtain ⟨i, hi, h1, K1, g1⟩ := ref_Inverse_ok hF hb.1 hb.2.1 hne
    obtain ⟨K2, g2⟩ := ref_MulMod_spec hF.prm hF.le ha.1 hi.1 hF.nl hF.ne (by have := ha.2.1; omega) (by have := hi.2.1; omega) (by omega)
    have hm := El.rm hF (P a * P i)
    have ec : c = rm q f (P a * P i) := by
      refine hc.eq hF hm ?_
      have e1 : Cg q (P f) (P a * P i) ((P c * P b) * P i) := (ha.2.2.trans h.symm).mul (Cg.refl _)
      refine (e1.trans ?_).symm
      exact (Cg.of_eq (ZX.zr : (P c * P b) * P i = P c * (P i * P b))).trans (((Cg.refl (P c)).mul h1).trans (Cg.of_eq (mul_one _)))
    rw [← ec] at g2
    obtain ⟨K3, g3⟩ := right_ok c (hc.small hF)
    dsimp only at g1 g2 g3
    refine ⟨K1 + K2 + K3 + 1, fun k hk => ?_⟩
    obtain ⟨k', rfl, hk'⟩ := ex_succ hk
    simp only [galoislaw15_FinitefieldQuotients.j4, galoisref15_Mul.f]
    rw [if_pos trivial, g1 k' (by omega), Option.bind_some, g2 k' (by omega), Option.bind_some, Option.bind_some, g3 k' (by omega), Option.bind_some]
  · refine ⟨1, fun k hk => ?_⟩
    obtain ⟨k', rfl, hk'⟩ := ex_succ hk
    simp only [galoislaw15_FinitefieldQuotients.j4]
    rw [if_neg hE, right_bad hE, Option.bind_some]
theorem quot_j2 {a b : List Int} {e : ByteArray} {x : ZX} (ha : El q f a x) : ∃ c E, Ev (fun k => finitefield_Div.f k q f a b) (c, E) ∧ Ev (fun k => galoislaw15_FinitefieldQuotients.j2 k c E q f a b e) true := by
  obtain ⟨K1, h1⟩ := check_ab (q : Int) f a b
  have hc1 : ck1 q f a = 0 := by unfold ck1; rw [if_pos (ckF_of hF)]; exact ckE_of hF ha.1 ha.2.1
  rw [if_pos hc1] at h1
  obtain ⟨K2, h2⟩ := Member_spec (q : Int) f b
  dsimp only at h1 h2
  by_cases hE : ckE q f b = 0
  · obtain ⟨hb1, hb2⟩ := ckE_zero hE
    have hb := El.of hF hb1 hb2
    by_cases hne : b = []
    · subst hne
      obtain ⟨K3, h3⟩ := quot_j4 hF (b := []) (c := []) (e := e) ha 6 (.inr ⟨by decide, rfl⟩)
      dsimp only at h3
      refine ⟨[], 6, ⟨K1, fun k hk => ?_⟩, K2 + K3 + 2, fun k hk => ?_⟩
      · simp only [finitefield_Div.f]
        rw [h1 k hk, Option.bind_some, if_pos hE, if_pos (by simp)]
      · obtain ⟨k1, rfl, hk1⟩ := ex_succ hk
        obtain ⟨k2, rfl, hk2⟩ := ex_succ (K := K2 + K3) (k := k1) (by omega)
        simp only [galoislaw15_FinitefieldQuotients.j2]
        rw [h2 _ (by omega), Option.bind_some, if_pos hE]
        simp only [galoislaw15_FinitefieldQuotients.j3]
        rw [if_pos (by simp)]
        exact h3 _ (by omega)
    · have hlen := List.length_pos_iff.2 hne
      obtain ⟨i, hi, g1, K3, h3⟩ := gf_Inverse_spec hF hb.1 hb.2.1 hne
      obtain ⟨c, hc, K4, h4⟩ := gf_Mul_ok hF ha hi
      have hcb : Cg q (P f) (P c * P b) x := by
        refine (hc.2.2.mul (Cg.refl _)).trans ?_
        exact (Cg.of_eq (ZX.zr : (x * P i) * P b = x * (P i * P b))).trans (((Cg.refl x).mul g1).trans (Cg.of_eq (mul_one x)))
      obtain ⟨K5, h5⟩ := quot_j4 hF (b := b) (c := c) (e := e) ha 0 (.inl ⟨rfl, hb, hne, ⟨hc.1, hc.2.1, Cg.refl _⟩, hcb⟩)
      dsimp only at h3 h4 h5
      refine ⟨c, 0, ⟨K1 + K3 + K4, fun k hk => ?_⟩, K2 + K5 + 2, fun k hk => ?_⟩
      · simp only [finitefield_Div.f]
        rw [h1 k (by omega), Option.bind_some, if_pos hE, if_neg (by omega), h3 k (by omega), Option.bind_some, h4 k (by omega), Option.bind_some]
      · obtain ⟨k1, rfl, hk1⟩ := ex_succ hk
        obtain ⟨k2, rfl, hk2⟩ := ex_succ (K := K2 + K5) (k := k1) (by omega)
        simp only [galoislaw15_FinitefieldQuotients.j2]
        rw [h2 _ (by omega), Option.bind_some, if_pos hE, beq_eq_false_iff_ne.2 (by omega)]
        simp only [galoislaw15_FinitefieldQuotients.j3]
        rw [if_neg (by simp), hE]
        exact h5 _ (by omega)
  · obtain ⟨K3, h3⟩ := quot_j4 hF (b := b) (c := []) (e := e) ha (ckE q f b) (.inr ⟨hE, rfl⟩)
    dsimp only at h3
    refine ⟨[], ckE q f b, ⟨K1, fun k hk => ?_⟩, K2 + K3 + 2, fun k hk => ?_⟩
    · simp only [finitefield_Div.f]
      rw [h1 k hk, Option.bind_some, if_neg hE]
    · obtain ⟨k1, rfl, hk1⟩ := ex_succ hk
      obtain ⟨k2, rfl, hk2⟩ := ex_succ (K := K2 + K3) (k := k1) (by omega)
      simp only [galoislaw15_FinitefieldQuotients.j2]
      rw [h2 _ (by omega), Option.bind_some, if_neg hE]
      simp only [galoislaw15_FinitefieldQuotients.j3]
      rw [if_neg (by simp)]
      exact h3 _ (by omega)
theorem good_j0 {a b : List Int} {e : ByteArray} {x : ZX} (ha : El q f a x) (hs : e.size ≤ 1000000) : Ev (fun k => galoislaw15_FinitefieldQuotients.j0 k false q f a b e) true := by
  have hlen := hF.len
  obtain ⟨c, E, ⟨K1, h1⟩, K2, h2⟩ := quot_j2 hF (b := b) (e := e) ha
  obtain ⟨K3, h3⟩ := check_one hF ha
  obtain ⟨K4, h4⟩ := ref15_CheckElement_spec (q : Int) f a
  have hc1 : (if ckF q f = 0 then ckE q f a else ckF q f) = 0 := by rw [if_pos (ckF_of hF)]; exact ckE_of hF ha.1 ha.2.1
  rw [hc1] at h4
  -- the inverse
  obtain ⟨i, I, ⟨K5, h5⟩, K6, h6⟩ : ∃ i I, Ev (fun k => finitefield_Inverse.f k q f a) (i, I) ∧ Ev (fun k => galoislaw15_FinitefieldQuotients.j1 k c E i I q f a b e) true := by
    dsimp only at h1 h2 h3
    by_cases hne : a = []
    · subst hne
      refine ⟨[], 6, ⟨K3, fun k hk => ?_⟩, K2 + 1, fun k hk => ?_⟩
      · simp only [finitefield_Inverse.f]
        rw [h3 k hk, Option.bind_some, if_pos rfl, if_pos (by simp)]
      · obtain ⟨k', rfl, hk'⟩ := ex_succ hk
        simp only [galoislaw15_FinitefieldQuotients.j1]
        rw [if_pos (by simp), right_bad (by decide), Option.bind_some, if_pos rfl]
        exact h2 _ (by omega)
    · have hl := List.length_pos_iff.2 hne
      obtain ⟨i, hi, g1, K5, h5⟩ := gf_Inverse_spec hF ha.1 ha.2.1 hne
      obtain ⟨j, hj, g2, K6, h6⟩ := ref_Inverse_ok hF ha.1 ha.2.1 hne
      have eij : i = j := inv_unique hF hi hj g1 g2
      subst eij
      obtain ⟨K7, h7⟩ := right_ok i (hi.small hF)
      dsimp only at h5 h6 h7
      refine ⟨i, 0, ⟨K3 + K5, fun k hk => ?_⟩, K2 + K6 + K7 + 1, fun k hk => ?_⟩
      · simp only [finitefield_Inverse.f]
        rw [h3 k (by omega), Option.bind_some, if_pos rfl, if_neg (by omega), h5 k (by omega), Option.bind_some]
      · obtain ⟨k', rfl, hk'⟩ := ex_succ hk
        simp only [galoislaw15_FinitefieldQuotients.j1]
        rw [if_neg (by omega), h6 k' (by omega), Option.bind_some, h7 k' (by omega), Option.bind_some, if_pos rfl]
        exact h2 _ (by omega)
  obtain ⟨K7, h7⟩ := natural_Check_ok e
  by_cases hN : ckN e = 0
  · obtain ⟨K8, h8⟩ := fp_PowMod_spec hF.prm hF.le e ha.1 hF.nl hF.ne (by have := ha.2.1; omega) (by omega) hs
    obtain ⟨K9, h9⟩ := ref_PowMod_spec hF.prm hF.le e ha.1 hF.nl hF.ne (by have := ha.2.1; omega) (by omega) hs
    obtain ⟨K10, h10⟩ := right_ok (rm q f (P a ^ V e e.size)) ((El.rm hF _).small hF)
    dsimp only at h1 h2 h3 h4 h5 h6 h7 h8 h9 h10
    refine ⟨K1 + K2 + K3 + K4 + K5 + K6 + K7 + K8 + K9 + K10 + 1, fun k hk => ?_⟩
    obtain ⟨k', rfl, hk'⟩ := ex_succ hk
    simp only [galoislaw15_FinitefieldQuotients.j0, finitefield_Pow.f, gf_Field_PowNat.f, galoisref15_Pow.f]
    rw [if_neg (by simp), h1 k' (by omega), Option.bind_some, h5 k' (by omega), Option.bind_some, h3 k' (by omega), Option.bind_some, if_pos rfl, h7 k' (by omega), Option.bind_some, if_pos hN, h8 k' (by omega), Option.bind_some, Option.bind_some, Option.bind_some, h4 k' (by omega), Option.bind_some, if_pos rfl, ref_Check_N, Option.bind_some, if_pos hN, h9 k' (by omega), Option.bind_some, Option.bind_some, h10 k' (by omega), Option.bind_some, if_pos rfl]
    exact h6 _ (by omega)
  · dsimp only at h1 h2 h3 h4 h5 h6 h7
    refine ⟨K1 + K2 + K3 + K4 + K5 + K6 + K7 + 1, fun k hk => ?_⟩
    obtain ⟨k', rfl, hk'⟩ := ex_succ hk
    simp only [galoislaw15_FinitefieldQuotients.j0, finitefield_Pow.f]
    rw [if_neg (by simp), h1 k' (by omega), Option.bind_some, h5 k' (by omega), Option.bind_some, h3 k' (by omega), Option.bind_some, if_pos rfl, h7 k' (by omega), Option.bind_some, if_neg hN, Option.bind_some, h4 k' (by omega), Option.bind_some, if_pos rfl, ref_Check_N, Option.bind_some, if_neg hN, Option.bind_some, right_bad hN, Option.bind_some, if_pos rfl]
    exact h6 _ (by omega)
end
theorem FinitefieldQuotients : galoislaw15_FinitefieldQuotients.Pure := by
  intro p f a b e _ _ _ _ _ _ _ _ _ _ _
  obtain ⟨Ka, ha⟩ := awake_ev
  have out : ∀ k, Ka ≤ k → galoislaw15_FinitefieldQuotients.j0 (k + 1) true p f a b e = some true := fun k hk => by
    simp only [galoislaw15_FinitefieldQuotients.j0]
    rw [if_pos trivial, ha k hk, Option.bind_some]
  by_cases hs : f.length ≤ 70 ∧ a.length ≤ 70 ∧ b.length ≤ 70
  · have hshort : galoislaw15_short.f p f a b = some true := by
      simp only [galoislaw15_short.f]
      rw [if_pos (by omega), if_pos (by omega), decide_eq_true (by omega)]
    by_cases he : e.size ≤ 16
    · obtain ⟨K1, h1⟩ : Ev (fun k => galoislaw15_FinitefieldQuotients.j0 k false p f a b e) true := by
        by_cases h0 : ck1 p f a = 0
        · unfold ck1 at h0
          split at h0
          · rename_i hc
            obtain ⟨q, rfl, hF⟩ := ckF_zero hc
            exact good_j0 hF (El.of hF (ckE_zero h0).1 (ckE_zero h0).2) (by omega)
          · rename_i hc; exact absurd h0 hc
        · exact bad_j0 h0
      dsimp only at h1
      refine ⟨Ka + K1, ?_⟩
      simp only [galoislaw15_FinitefieldQuotients.f]
      rw [ha _ (by omega), Option.bind_some, if_pos rfl, hshort, Option.bind_some, if_pos rfl, decide_eq_false (by omega)]
      exact h1 _ (by omega)
    · refine ⟨Ka + 1, ?_⟩
      simp only [galoislaw15_FinitefieldQuotients.f]
      rw [ha _ (by omega), Option.bind_some, if_pos rfl, hshort, Option.bind_some, if_pos rfl, decide_eq_true (by omega), out _ (by omega)]
  · have hshort : galoislaw15_short.f p f a b = some false := by
      simp only [galoislaw15_short.f]
      by_cases h1 : f.length ≤ 70
      · rw [if_pos (by omega)]
        by_cases h2 : a.length ≤ 70
        · rw [if_pos (by omega), decide_eq_false (by omega)]
        · rw [if_neg (by omega)]
      · rw [if_neg (by omega)]
    refine ⟨Ka + 1, ?_⟩
    simp only [galoislaw15_FinitefieldQuotients.f]
    rw [ha _ (by omega), Option.bind_some, if_pos rfl, hshort, Option.bind_some, if_neg (by simp), out _ (by omega)]
end Go.Proofs.YtalnaafmonmlmaaGreat.Pure
end

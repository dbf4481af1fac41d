/- Machine side and arithmetic of the law, put together by a program of the session. No conditions. -/
import Derived.WalkKit
import Derived.WalkSmall
import Derived.KernelRfl
import Derived.Test.YtalnaafmonmlmaaKMinimal8
import Derived.Test.YtalnaafmonmlmaaKMinimal9
import Derived.Test.YtalnaafmonmlmaaKMinimal11
section
namespace Go.Proofs.Ytalnaafmonmlmaa.Q
open Go.RowKit Go.Proofs.YtalnaafmonmlmaaW.PrintWords Go.Proofs.YtalnaafmonmlmaaW.PrintLast Go.Proofs.YtalnaafmonmlmaaW.PrintMore
set_option maxRecDepth 100000 in
theorem awake_ge (k : Nat) : l15awake.f (k + 60) = some true := by kernel_rfl
theorem awake_ev : Ev l15awake.f true := ⟨60, fun k hk => by
 obtain ⟨j, rfl⟩ : ∃ j, k = j + 60 := ⟨k - 60, by omega⟩
 exact awake_ge j⟩
end Go.Proofs.Ytalnaafmonmlmaa.Q
end
section
namespace Go.Proofs.Ytalnaafmonmlmaa.Pure
open Go.RowKit Go.Proofs.YtalnaafmonmlmaaW.PrintWords Go.Proofs.YtalnaafmonmlmaaW.PrintLast Go.Proofs.YtalnaafmonmlmaaW.PrintMore Go.Proofs.Ytalnaafmonmlmaa.M Go.Proofs.Ytalnaafmonmlmaa.M.ZX Go.Proofs.Ytalnaafmonmlmaa.Q
set_option linter.unusedVariables false
set_option linter.unusedSimpArgs false
theorem P_short {l : List Int} (h : l.length ≤ 1) : P l = C (l.getD 0 0) := by
 match l, h with
 | [], _ => rfl
 | [c], _ => exact P_single c
theorem ha_short (Y : ZX) : ∀ {L : List (List Int)}, (∀ l ∈ L, l.length ≤ 1) → ha (L.map (·.getD 0 0)) Y = evL L Y
 | [], _ => rfl
 | l :: L, h => by
  show C (l.getD 0 0) + Y * ha (L.map (·.getD 0 0)) Y = P l + Y * evL L Y
  rw [ha_short Y (fun x hx => h x (List.mem_cons_of_mem _ hx)), P_short (h l (List.mem_cons_self ..))]
section
variable {q : Nat} {f : List Int} (hF : Fld q f)
include hF
theorem minpoly_facts {a : List Int} {A : ZX} (ha' : El q f a A) {D : Nat} {pr : List (List Int)} (h1 : 1 ≤ D) (hDn : D ≤ f.length - 1) (hA : Cg q (P f) (A ^ q ^ D) A) (hmin : ∀ j, 1 ≤ j → j < D → ¬ Cg q (P f) (A ^ q ^ j) A) (hI : MinI q f A pr D) :
  NL q (pr.map (·.getD 0 0)) ∧ (pr.map (·.getD 0 0)).length = D + 1 ∧ (pr.map (·.getD 0 0)).getD D 0 = 1 ∧ (∀ Y, Cg q (P f) (ha (pr.map (·.getD 0 0)) Y) (conjP q A Y D)) := by
 have hp2 := hF.prm.1
 have hel : ∀ l ∈ pr, El q f l (P l) := fun l hl => by
  obtain ⟨i, hi, rfl⟩ := List.getElem_of_mem hl
  have := hI.els i
  rwa [List.getD_eq_getElem?_getD, List.getElem?_eq_getElem hi] at this
 have hfix := coef_fixed hF.prm hF.nl hF.two hF.dom h1 hDn hA (cs := pr.map P) (by rw [List.length_map, hI.len]) hI.val
 have hshort : ∀ l ∈ pr, l.length ≤ 1 := fun l hl => fixed_const hF.prm hF.nl hF.two hF.dom (hel l hl).1 (hel l hl).2.1 (hfix _ (List.mem_map.2 ⟨l, hl, rfl⟩))
 have hlen : (pr.map (·.getD 0 0)).length = D + 1 := by rw [List.length_map, hI.len]
 have hl := hI.len
 have htop : (pr.map (·.getD 0 0)).getD D 0 = 1 := by
  have := hI.top
  rw [List.getD_eq_getElem?_getD, List.getElem?_eq_getElem (by omega)] at this
  rw [List.getD_eq_getElem?_getD, List.getElem?_map, List.getElem?_eq_getElem (by omega)]
  have e : pr[D]'(by omega) = [1] := this
  show (pr[D]'(by omega)).getD 0 0 = 1
  rw [e]; rfl
 refine ⟨⟨fun c hc => ?_, .inr (by rw [hlen, Nat.add_sub_cancel, htop]; decide)⟩, hlen, htop, fun Y => ?_⟩
 ·obtain ⟨l, hl, rfl⟩ := List.mem_map.1 hc
  exact (hel l hl).1.getD (prm_pos hF.prm) 0
 ·rw [ha_short Y hshort]
  exact hI.val Y
theorem deg_one {a : List Int} {A : ZX} (ha' : El q f a A) {D : Nat} (h1 : 1 ≤ D) (hA : Cg q (P f) (A ^ q ^ D) A) (hmin : ∀ j, 1 ≤ j → j < D → ¬ Cg q (P f) (A ^ q ^ j) A) : D = 1 ↔ a.length < 2 := by
 constructor
 ·rintro rfl
  rw [Nat.pow_one] at hA
  have := fixed_const hF.prm hF.nl hF.two hF.dom ha'.1 ha'.2.1 (((ha'.2.2.pow q).trans hA).trans ha'.2.2.symm)
  omega
 ·intro hl
  refine Classical.byContradiction fun hne => hmin 1 (Nat.le_refl _) (by omega) ?_
  rw [Nat.pow_one]
  have e := P_short (l := a) (by omega)
  have h3 : Cg q (P f) (P a ^ q) (P a) := by rw [e]; exact frob_const hF.prm _
  exact ((ha'.2.2.symm.pow q).trans h3).trans ha'.2.2
theorem horner {a m : List Int} {A : ZX} (ha' : El q f a A) (hm : NL q m) (hl : m.length ≤ 1000) (h0 : Cg q (P f) (ha m A) 0) : ∀ (i : Nat) (v : List Int), i ≤ m.length → El q f v (ha (m.drop i) A) → Ev (fun k => lw.l0 k a m v ((i : Int) - 1) q f) true := by
 have h2 := hF.two
 intro i
 induction i with
 | zero =>
  intro v _ hv
  rw [List.drop_zero] at hv
  have hv0 : v = [] := (hv.nil_iff hF).2 (Cg.in_of h0)
  subst hv0
  refine ⟨1, fun k hk => ?_⟩
  obtain ⟨k', rfl, hk'⟩ := ex_succ hk
  simp only [lw.l0]
  rw [if_neg (by omega)]
  rfl
 | succ i ih =>
  intro v hi hv
  obtain ⟨t, ht, K1, h1⟩ := Mul_ok hF hv ha'
  have hc := hm.getD (prm_pos hF.prm) i
  obtain ⟨K2, h2'⟩ := ref_Trim_spec 1 [m.getD i 0] rfl (by simp)
  have hT : El q f (tr [m.getD i 0]) (C (m.getD i 0)) := ⟨NL.tr (fun c hc' => by rw [List.mem_singleton] at hc'; rw [hc']; exact hc), by have h := tr_len [m.getD i 0]; rw [List.length_singleton] at h; omega, Cg.of_eq (by rw [P_tr, P_single])⟩
  obtain ⟨s, hs, K3, h3⟩ := Add_ok hF ht hT
  have ed : m.drop i = m.getD i 0 :: m.drop (i + 1) := by rw [List.drop_eq_getElem_cons (by omega), List.getD_eq_getElem?_getD, List.getElem?_eq_getElem (by omega)]; rfl
  have hs' : El q f s (ha (m.drop i) A) := ⟨hs.1, hs.2.1, hs.2.2.trans (Cg.of_eq (by rw [ed]; show _ = C (m.getD i 0) + A * ha (m.drop (i + 1)) A; exact ZX.zr))⟩
  obtain ⟨K4, h4⟩ := ih s (by omega) hs'
  dsimp only at h1 h2' h3 h4
  refine ⟨K1 + K2 + K3 + K4 + 1, fun k hk => ?_⟩
  obtain ⟨k', rfl, hk'⟩ := ex_succ hk
  simp only [lw.l0]
  have ei : ((i + 1 : Nat) : Int) - 1 = (i : Int) := by omega
  rw [ei, if_pos (by omega), h1 k' (by omega), Option.bind_some, if_pos (by omega), if_pos (by omega), rd_nat, h2' k' (by omega), Option.bind_some, h3 k' (by omega), Option.bind_some, if_pos rfl, if_pos rfl, wrap_id (by omega) (by omega)]
  exact h4 k' (by omega)
theorem IsIrreducible_ok {m : List Int} (hm : NL q m) (hl : m.length ≤ 65) (h2 : 2 ≤ m.length) (hD : Dom q (P m)) : Ev (fun k => pm_IsIrreducible.f k q m) (true, 0) := by
 obtain ⟨K1, h1⟩ := pm_Check_spec (q : Int) m
 rw [ckP_of hF.prm hF.le hm hl] at h1
 obtain ⟨b, hb, K2, h2'⟩ := fp_Irreducible_spec hF.prm hF.le hm (by omega)
 have eb : b = true := hb.2 ⟨h2, hD⟩
 subst eb
 dsimp only at h1 h2'
 refine ⟨K1 + K2 + 2, fun k hk => ?_⟩
 obtain ⟨j, rfl⟩ : ∃ j, k = j + 2 := ⟨k - 2, by omega⟩
 simp only [pm_IsIrreducible.f, pm_first.f, pm_first.l0]
 have e0 : rd_L1 [m] 0 = m := rfl
 rw [if_pos (by simp), if_pos (by omega), if_pos (by simp), e0, h1 (j + 1) (by omega), Option.bind_some, if_pos rfl, wrap_id (by omega) (by omega), if_neg (by simp), Option.bind_some, if_pos rfl, h2' (j + 2) (by omega), Option.bind_some]
theorem minimal_j0 {a : List Int} {A : ZX} (ha' : El q f a A) : Ev (fun k => lw.j0 k a false q f) true := by
 have hlen := hF.len
 have h2 := hF.two
 obtain ⟨D, pr, hD1, hDn, hA, hmin, hI, K1, h1⟩ := MinPoly_ok hF ha'
 obtain ⟨hnl, hml, htop, hval⟩ := minpoly_facts hF ha' hD1 hDn hA hmin hI
 have hDom := minpoly_dom hF.prm hF.nl hF.two hF.dom hD1 hDn hmin hnl hml hval
 obtain ⟨m, hm⟩ : ∃ m, m = pr.map (·.getD 0 0) := ⟨_, rfl⟩
 rw [← hm] at h1 hnl hml htop hval hDom
 obtain ⟨K2, h2'⟩ := IsIrreducible_ok hF hnl (by omega) (by omega) hDom
 have hdv := conj_dvd hD1 hA hmin (f.length - 1) (field_frob hF.prm hF.nl hF.two hF.dom A)
 have h0 : Cg q (P f) (ha m A) 0 := by
  have h3 := conjP_zero (p := q) (f := P f) (A := A) (d := D) (i := 0) (by omega)
  rw [Nat.pow_zero, pow_one] at h3
  exact (hval A).trans h3
 obtain ⟨K3, h3⟩ := horner hF ha' hnl (by omega) h0 m.length [] (Nat.le_refl _) (by rw [List.drop_of_length_le (Nat.le_refl _)]; exact El.zero hF)
 have hd1 := deg_one hF ha' hD1 hA hmin
 dsimp only at h1 h2' h3
 refine ⟨K1 + K2 + K3 + 2, fun k hk => ?_⟩
 obtain ⟨k1, rfl, hk1⟩ := ex_succ hk
 obtain ⟨k2, rfl, hk2⟩ := ex_succ (K := K1 + K2 + K3) (k := k1) (by omega)
 have e1 : wrap64 ((m.length : Int) - 1) = (D : Int) := by rw [wrap_id (by omega) (by omega)]; omega
 have e2 : wrap64 ((f.length : Int) - 1) = ((f.length - 1 : Nat) : Int) := len_wrap hF
 have hmod : Int.tmod ((f.length - 1 : Nat) : Int) (D : Int) = 0 := by
  rw [tmod_nat, Nat.mod_eq_zero_of_dvd hdv]; rfl
 have hne : (((m.length : Int) == 2) != decide ((a.length : Int) < 2)) = false := by
  by_cases hD : D = 1
  ·have := hd1.1 hD
   rw [beq_iff_eq.2 (show (m.length : Int) = 2 by omega), decide_eq_true (by omega)]; rfl
  ·have : ¬ a.length < 2 := fun h => hD (hd1.2 h)
   rw [beq_eq_false_iff_ne.2 (show (m.length : Int) ≠ 2 by omega), decide_eq_false (by omega)]; rfl
 simp only [lw.j0]
 rw [if_neg (by simp), h1 _ (by omega), Option.bind_some, h2' _ (by omega), Option.bind_some]
 dsimp only
 rw [if_pos rfl, if_pos rfl, if_pos rfl, if_neg (by omega), e1, if_pos (by omega), if_pos (by omega), rd_nat, if_pos htop, if_neg (by omega), e2, if_pos hmod, hne]
 simp only [lw.j1]
 rw [if_neg (by simp), wrap_id (by omega) (by omega)]
 exact h3 _ (by omega)
end
theorem FinitefieldMinimal : lw.Pure := by
 intro p f a _ _ _ _ _ _ _
 obtain ⟨Ka, ha⟩ := awake_ev
 have out : ∀ k, Ka ≤ k → lw.j0 (k + 1) a true p f = some true := fun k hk => by
  simp only [lw.j0]
  rw [if_pos trivial, ha k hk, Option.bind_some]
 obtain ⟨K1, h1⟩ := ref15_Check_spec p f
 obtain ⟨K2, h2⟩ := Member_spec p f a
 dsimp only at h1 h2
 by_cases hl : f.length > 9
 ·refine ⟨Ka + 1, ?_⟩
  simp only [lw.f]
  rw [ha _ (by omega), Option.bind_some, if_pos rfl, if_pos (by omega), out _ (by omega)]
 ·by_cases e1 : ckF p f = 0
  ·by_cases e2 : ckE p f a = 0
   ·obtain ⟨q, rfl, hF⟩ := ckF_zero e1
    obtain ⟨K5, h5⟩ := minimal_j0 hF (El.of hF (ckE_zero e2).1 (ckE_zero e2).2)
    dsimp only at h5
    refine ⟨Ka + K1 + K2 + K5, ?_⟩
    simp only [lw.f]
    rw [ha _ (by omega), Option.bind_some, if_pos rfl, if_neg (by omega), h1 _ (by omega), Option.bind_some, if_pos e1, h2 _ (by omega), Option.bind_some, e2, bne_self_eq_false]
    exact h5 _ (by omega)
   ·refine ⟨Ka + K1 + K2 + 1, ?_⟩
    simp only [lw.f]
    rw [ha _ (by omega), Option.bind_some, if_pos rfl, if_neg (by omega), h1 _ (by omega), Option.bind_some, if_pos e1, h2 _ (by omega), Option.bind_some, bne_iff_ne.2 e2, out _ (by omega)]
  ·refine ⟨Ka + K1 + 1, ?_⟩
   simp only [lw.f]
   rw [ha _ (by omega), Option.bind_some, if_pos rfl, if_neg (by omega), h1 _ (by omega), Option.bind_some, if_neg e1, out _ (by omega)]
end Go.Proofs.Ytalnaafmonmlmaa.Pure
end

/- Machine side and arithmetic of the law, put together by a program of the session. No conditions. -/
import Derived.Test.YtalnaafmonmlmaaGreatKO12
import Derived.Test.YtalnaafmonmlmaaGreatKO13
import Derived.Test.YtalnaafmonmlmaaGreatKO14
section
namespace Go.Proofs.YtalnaafmonmlmaaGreat.Q
open Go.RowKit Go.Proofs.YtalnaafmonmlmaaGreatW.PrintWords Go.Proofs.YtalnaafmonmlmaaGreatW.PrintLast Go.Proofs.YtalnaafmonmlmaaGreatW.PrintMore Go.Proofs.YtalnaafmonmlmaaGreat.M Go.Proofs.YtalnaafmonmlmaaGreat.M.ZX
set_option linter.unusedVariables false
set_option linter.unusedSimpArgs false
section
variable {q : Nat} {f : List Int} (hF : Fld q f)
include hF
theorem ref_Add_ok {a b : List Int} {x y : ZX} (ha : El q f a x) (hb : El q f b y) : ∃ c, El q f c (x + y) ∧ Ev (fun k => r15Add.f k q f a b) c := by
 have := hF.len
 obtain ⟨K2, hK2⟩ := ref_Add_spec (prm_pos hF.prm) hF.le ha.1 hb.1 (by have := ha.2.1; omega) (by have := hb.2.1; omega)
 have h := El.nf hF ((ha.dg hF).add (hb.dg hF))
 dsimp only at hK2
 refine ⟨_, ⟨h.1, h.2.1, h.2.2.trans (ha.2.2.add hb.2.2)⟩, K2, fun k hk => ?_⟩
 simp only [r15Add.f]
 rw [hK2 k (by omega), Option.bind_some]
theorem ref_Sub_ok {a b : List Int} {x y : ZX} (ha : El q f a x) (hb : El q f b y) : ∃ c, El q f c (x - y) ∧ Ev (fun k => r15Sub.f k q f a b) c := by
 have := hF.len
 obtain ⟨K2, hK2⟩ := ref_Sub_spec (prm_pos hF.prm) hF.le ha.1 hb.1 (by have := ha.2.1; omega) (by have := hb.2.1; omega)
 have h := El.nf hF ((ha.dg hF).sub (hb.dg hF))
 dsimp only at hK2
 refine ⟨_, ⟨h.1, h.2.1, h.2.2.trans (ha.2.2.sub hb.2.2)⟩, K2, fun k hk => ?_⟩
 simp only [r15Sub.f]
 rw [hK2 k (by omega), Option.bind_some]
theorem ref_Pow_ok {a : List Int} {x : ZX} (ha : El q f a x) : ∃ c, El q f c (x ^ q) ∧ Ev (fun k => (r1FromInt.f k q).bind fun t => r15Pow.f k q f a t) c := by
 have := hF.len
 obtain ⟨e, he, hV, K1, h1⟩ := FromInt_spec hF.prm.1 hF.le
 obtain ⟨K2, h2⟩ := ref_PowMod_spec hF.prm hF.le e ha.1 hF.nl hF.ne (by have := ha.2.1; omega) (by omega) he
 rw [hV] at h2
 have h := El.rm hF (P a ^ q)
 dsimp only at h1 h2
 refine ⟨_, ⟨h.1, h.2.1, h.2.2.trans (ha.2.2.pow q)⟩, K1 + K2, fun k hk => ?_⟩
 dsimp only
 simp only [r15Pow.f]
 rw [h1 k (by omega), Option.bind_some, h2 k (by omega), Option.bind_some]
theorem MinI.unique {A : ZX} {p1 p2 : List (List Int)} {d : Nat} (hd : d ≤ f.length - 1) (h1 : MinI q f A p1 d) (h2 : MinI q f A p2 d) : p1 = p2 := by
 have hp2 := hF.prm.1
 have l1 := h1.len
 have l2 := h2.len
 have hv := vanish hF.prm hF.nl hF.two hF.dom (d + 1) ((List.range (d + 1)).map fun i => P (p1.getD i []) - P (p2.getD i [])) ((List.range (q ^ (f.length - 1))).map fun n => P (dg q n)) (by simp) (elems_apart hF.prm hF.nl hF.two hF.dom)
  (fun r _ => by
   have e : ∀ (L : List (List Int)), L.length = d + 1 → L.map P = (List.range (d + 1)).map fun i => P (L.getD i []) := fun L hL => by
    apply List.ext_getElem
    ·simp [hL]
    ·intro i hi hi2
     simp only [List.getElem_map, List.getElem_range]
     rw [List.getD_eq_getElem?_getD, List.getElem?_eq_getElem (by simpa using hi)]
     rfl
   have e3 := ev_map_sub (fun z => z) (fun _ => 0) r []
   have sub : ∀ ns : List Nat, ev (ns.map fun i => P (p1.getD i []) - P (p2.getD i [])) r = ev (ns.map fun i => P (p1.getD i [])) r - ev (ns.map fun i => P (p2.getD i [])) r := fun ns => by
    induction ns with
    | nil => show (0 : ZX) = 0 - 0; exact ZX.zr
    | cons n ns ih =>
     show (P (p1.getD n []) - P (p2.getD n [])) + r * ev (ns.map fun i => P (p1.getD i []) - P (p2.getD i [])) r = (P (p1.getD n []) + r * ev (ns.map fun i => P (p1.getD i [])) r) - (P (p2.getD n []) + r * ev (ns.map fun i => P (p2.getD i [])) r)
     rw [ih]
     exact ZX.zr
   rw [sub, ← e p1 l1, ← e p2 l2]
   exact (h1.val r).trans (h2.val r).symm)
  (by
   rw [List.length_map, List.length_range]
   have : f.length - 1 < q ^ (f.length - 1) := Nat.lt_pow_self hp2
   omega)
 apply List.ext_getElem (by omega)
 intro i hi hi2
 have h3 := hv _ (List.mem_map.2 ⟨i, List.mem_range.2 (by omega), rfl⟩)
 have g1 : p1.getD i [] = p1[i] := by rw [List.getD_eq_getElem?_getD, List.getElem?_eq_getElem hi]; rfl
 have g2 : p2.getD i [] = p2[i] := by rw [List.getD_eq_getElem?_getD, List.getElem?_eq_getElem hi2]; rfl
 rw [← g1, ← g2]
 exact (h1.els i).eq hF (h2.els i) h3
theorem ref_mul_loop {cs : List (List Int)} {i0 : Nat} (hi0 : i0 < cs.length) (hcl : cs.length ≤ 100) {X : ZX} (hX : El q f (cs.getD i0 []) X) {prod : List (List Int)} (hpr : Els q f prod) (hn : prod.length ≤ 100) :
  ∀ (d i : Nat) (N : List (List Int)), i + d = prod.length → MulI q f X prod N i → ∃ M, MulI q f X prod M prod.length ∧
   ∀ r, Ev (fun k => r15MinPoly.l0 k M cs ((i0 + 1 : Nat) : Int) q f) r → Ev (fun k => r15MinPoly.l1 k prod cs (i0 : Int) N (i : Int) q f) r := by
 intro d
 induction d with
 | zero =>
  intro i N hi hN
  have e : i = prod.length := by omega
  subst e
  refine ⟨N, hN, fun r hr => ?_⟩
  obtain ⟨K, hK⟩ := hr
  dsimp only at hK
  refine ⟨K + 1, fun k hk => ?_⟩
  obtain ⟨k', rfl, hk'⟩ := ex_succ hk
  simp only [r15MinPoly.l1]
  rw [if_neg (by omega), show (i0 : Int) + 1 = ((i0 + 1 : Nat) : Int) from rfl, wrap_nat (by omega)]
  exact hK k' hk'
 | succ d ih =>
  intro i N hi hN
  have hp := hpr i
  obtain ⟨c, hc, K1, h1⟩ := ref_Add_ok hF (hN.els (i + 1)) hp
  have ec : c = prod.getD i [] := hc.eq hF hp (by rw [hN.rest (i + 1) (by omega), P_nil]; exact Cg.of_eq ZX.zr)
  subst ec
  have hNl := hN.len
  have g1 : (N.set (i + 1) (prod.getD i [])).getD i [] = N.getD i [] := by rw [getD_setL _ _ _ _ (by omega), if_neg (by omega)]
  obtain ⟨t, ht, K2, h2⟩ := ref_Mul_ok hF hp hX
  obtain ⟨u, hu, K3, h3⟩ := ref_Sub_ok hF (hN.els i) ht
  have hu' : El q f u (P u) := ⟨hu.1, hu.2.1, Cg.refl _⟩
  have hN2 : MulI q f X prod ((N.set (i + 1) (prod.getD i [])).set i u) (i + 1) := by
   refine ⟨(hN.els.set ⟨hp.1, hp.2.1, Cg.refl _⟩).set hu', by simp [hNl], fun Y => ?_, fun j hj => ?_, fun _ => ?_⟩
   ·rw [evL_set Y _ i u (by simp; omega), evL_set Y N (i + 1) _ (by omega), g1, hN.rest (i + 1) (by omega), P_nil, evL_take Y prod i (by omega), pow_succ]
    have e1 : Cg q (P f) (evL N Y + Y ^ i * Y * (P (prod.getD i []) - 0) + Y ^ i * (P u - P (N.getD i []))) ((Y - X) * evL (prod.take i) Y + Y ^ i * Y * (P (prod.getD i []) - 0) + Y ^ i * ((P (N.getD i []) - P (prod.getD i []) * X) - P (N.getD i []))) :=
     ((hN.val Y).add (Cg.refl _)).add ((Cg.refl _).mul (hu.2.2.sub (Cg.refl _)))
    exact e1.trans (Cg.of_eq ZX.zr)
   ·rw [getD_setL _ _ _ _ (by simp; omega), if_neg (by omega), getD_setL _ _ _ _ (by omega), if_neg (by omega)]
    exact hN.rest j (by omega)
   ·rw [getD_setL _ _ _ _ (by simp; omega), if_neg (by omega), getD_setL _ _ _ _ (by omega), if_pos rfl, Nat.add_sub_cancel]
  obtain ⟨M, hM, hrun⟩ := ih (i + 1) _ (by omega) hN2
  refine ⟨M, hM, fun r hr => ?_⟩
  obtain ⟨K4, h4⟩ := hrun r hr
  dsimp only at h1 h2 h3 h4
  refine ⟨K1 + K2 + K3 + K4 + 1, fun k hk => ?_⟩
  obtain ⟨k', rfl, hk'⟩ := ex_succ hk
  have a1 : (i : Int) < (prod.length : Int) := by omega
  have a2 : (0 : Int) ≤ ((i + 1 : Nat) : Int) := by omega
  have a3 : ((i + 1 : Nat) : Int) < (N.length : Int) := by omega
  have a4 : (0 : Int) ≤ (i : Int) := by omega
  have a5 : (i : Int) < (N.length : Int) := by omega
  have a6 : (0 : Int) ≤ (i0 : Int) := by omega
  have a7 : (i0 : Int) < (cs.length : Int) := by omega
  have ei : wrap64 ((i : Int) + 1) = ((i + 1 : Nat) : Int) := by rw [show (i : Int) + 1 = ((i + 1 : Nat) : Int) from rfl, wrap_nat (by omega)]
  have g4 := h4 k' (by omega)
  have g5 := h1 k' (by omega)
  have g6 := h2 k' (by omega)
  have g7 := h3 k' (by omega)
  clear h1 h2 h3 h4 hrun ih hN2 hM
  show r15MinPoly.l1 (k' + 1) prod cs (i0 : Int) N (i : Int) q f = some r
  rw [r15MinPoly.l1]
  rw [if_pos a1, ei, if_pos a2, if_pos a3, if_pos a4]
  rw [rdL_nat N (i + 1), rdL_nat prod i, g5, Option.bind_some, Option.bind_some]
  rw [if_pos a5, if_pos a6, if_pos a7, rdL_nat cs i0, g6, Option.bind_some, Int.toNat_natCast, rdL_nat _ i, g1, g7, Option.bind_some, Int.toNat_natCast]
  exact g4
theorem Eval_ok (l : List Int) (hl : NL q l) (hlen : l.length ≤ 1000) : Ev (fun k => r9Eval.f k q l 0) (l.getD 0 0) := by
 have hle := hF.le
 have hq := prm_pos hF.prm
 have loop : ∀ i : Nat, i < l.length → ∀ v : Int, 0 ≤ v → v < q → Ev (fun k => r9Eval.l0 k q l 0 v (i : Int)) (l.getD 0 0) := by
  intro i
  induction i with
  | zero =>
   intro hi v h0 h1
   have hc := hl.getD hq 0
   refine ⟨2, fun k hk => ?_⟩
   obtain ⟨j, rfl⟩ : ∃ j, k = j + 2 := ⟨k - 2, by omega⟩
   simp only [r9Eval.l0]
   rw [if_pos (by omega), if_pos (by omega), if_pos (by omega), if_neg (by omega), wrap_id (x := v * 0) (by omega) (by omega), rd_nat, wrap_id (x := v * 0 + l.getD 0 0) (by omega) (by omega), wrap_id (x := ((0 : Nat) : Int) - 1) (by omega) (by omega), if_neg (by omega), Int.mul_zero, Int.zero_add, Int.tmod_eq_of_lt hc.1 hc.2]
  | succ i ih =>
   intro hi v h0 h1
   have hc := hl.getD hq (i + 1)
   obtain ⟨K, hK⟩ := ih (by omega) (l.getD (i + 1) 0) hc.1 hc.2
   dsimp only at hK
   refine ⟨K + 1, fun k hk => ?_⟩
   obtain ⟨k', rfl, hk'⟩ := ex_succ hk
   simp only [r9Eval.l0]
   rw [if_pos (by omega), if_pos (by omega), if_pos (by omega), if_neg (by omega), wrap_id (x := v * 0) (by omega) (by omega), rd_nat, wrap_id (x := v * 0 + l.getD (i + 1) 0) (by omega) (by omega), show ((i + 1 : Nat) : Int) - 1 = (i : Int) by omega, wrap_nat (by omega), Int.mul_zero, Int.zero_add, Int.tmod_eq_of_lt hc.1 hc.2]
   exact hK k' hk'
 by_cases h0 : l.length = 0
 ·refine ⟨1, fun k hk => ?_⟩
  obtain ⟨k', rfl, hk'⟩ := ex_succ hk
  simp only [r9Eval.f]
  rw [Mod_spec (by omega) (by omega), Option.bind_some, h0, wrap_id (by omega) (by omega)]
  simp only [r9Eval.l0]
  rw [if_neg (by omega), List.eq_nil_of_length_eq_zero h0]
  rfl
 ·obtain ⟨K, hK⟩ := loop (l.length - 1) (by omega) 0 (by omega) (by omega)
  dsimp only at hK
  refine ⟨K, fun k hk => ?_⟩
  simp only [r9Eval.f]
  rw [Mod_spec (by omega) (by omega), Option.bind_some, Int.zero_emod, show (l.length : Int) - 1 = ((l.length - 1 : Nat) : Int) by omega, wrap_nat (by omega)]
  exact hK k hk
theorem conj_loop {a : List Int} {A : ZX} (ha : El q f a A) {D : Nat} (hDn : D ≤ f.length - 1) (hA : Cg q (P f) (A ^ q ^ D) A) (hmin : ∀ j, 1 ≤ j → j < D → ¬ Cg q (P f) (A ^ q ^ j) A) :
  ∀ (e k : Nat) (cs : List (List Int)), k + e = D → 1 ≤ k → cs.length = k → (∀ i, i < k → El q f (cs.getD i []) (A ^ q ^ i)) →
   ∃ out, out.length = D ∧ (∀ i, i < D → El q f (out.getD i []) (A ^ q ^ i)) ∧ Ev (fun j => r15Conjugates.l0 j a cs k q f) out := by
 have hlen := hF.len
 have h2 := hF.two
 intro e
 induction e with
 | zero =>
  intro k cs hk h1 hcl hcs
  have ek : k = D := by omega
  subst ek
  refine ⟨cs, hcl, hcs, ?_⟩
  by_cases hn : k = f.length - 1
  ·refine ⟨1, fun j hj => ?_⟩
   obtain ⟨j', rfl, hj'⟩ := ex_succ hj
   show r15Conjugates.l0 (j' + 1) a cs (k : Int) q f = some cs
   rw [r15Conjugates.l0]
   simp only [r15Degree.f]
   rw [Option.bind_some, len_wrap hF, if_neg (by omega)]
  ·obtain ⟨y, hy, K1, h1'⟩ := ref_Pow_ok hF (hcs (k - 1) (by omega))
   have hya : y = a := hy.eq hF ha (by rw [← pow_mul, ← Nat.pow_succ, show (k - 1).succ = k by omega]; exact hA)
   obtain ⟨K2, h2'⟩ := Same_ok hya (hy.small hF)
   dsimp only at h1' h2'
   refine ⟨K1 + K2 + 1, fun j hj => ?_⟩
   obtain ⟨j', rfl, hj'⟩ := ex_succ hj
   show r15Conjugates.l0 (j' + 1) a cs (k : Int) q f = some cs
   have g := h1' j' (by omega)
   obtain ⟨t, ht, ht2⟩ := Option.bind_eq_some_iff.1 g
   have ei : wrap64 ((k : Int) - 1) = ((k - 1 : Nat) : Int) := by rw [show (k : Int) - 1 = ((k - 1 : Nat) : Int) by omega, wrap_nat (by omega)]
   rw [r15Conjugates.l0]
   simp only [r15Degree.f]
   rw [Option.bind_some, len_wrap hF, if_pos (by omega), ei, if_pos (by omega), if_pos (by omega), ht, Option.bind_some, rdL_nat, ht2, Option.bind_some, h2' j' (by omega), Option.bind_some, if_pos rfl]
 | succ e ih =>
  intro k cs hk h1 hcl hcs
  obtain ⟨y, hy, K1, h1'⟩ := ref_Pow_ok hF (hcs (k - 1) (by omega))
  have hy' : El q f y (A ^ q ^ k) := ⟨hy.1, hy.2.1, hy.2.2.trans (Cg.of_eq (by rw [← pow_mul, ← Nat.pow_succ, show (k - 1).succ = k by omega]))⟩
  have hya : ¬ y = a := fun h => hmin k h1 (by omega) (by rw [h] at hy'; exact hy'.2.2.symm.trans ha.2.2)
  obtain ⟨K2, h2'⟩ := Same_spec y a (hy.small hF)
  rw [decide_eq_false hya] at h2'
  have hget : ∀ i, i < k + 1 → El q f ((cs ++ [y]).getD i []) (A ^ q ^ i) := fun i hi => by
   by_cases e : i < k
   ·rw [List.getD_eq_getElem?_getD, List.getElem?_append_left (by omega), ← List.getD_eq_getElem?_getD]
    exact hcs i e
   ·have ei : i = k := by omega
    subst ei
    rw [List.getD_eq_getElem?_getD, List.getElem?_append_right (by omega), hcl, Nat.sub_self]
    exact hy'
  obtain ⟨out, ho1, ho2, K3, h3⟩ := ih (k + 1) (cs ++ [y]) (by omega) (by omega) (by simp [hcl]) hget
  dsimp only at h1' h2' h3
  refine ⟨out, ho1, ho2, K1 + K2 + K3 + 1, fun j hj => ?_⟩
  obtain ⟨j', rfl, hj'⟩ := ex_succ hj
  show r15Conjugates.l0 (j' + 1) a cs (k : Int) q f = some out
  have g := h1' j' (by omega)
  obtain ⟨t, ht, ht2⟩ := Option.bind_eq_some_iff.1 g
  have ei : wrap64 ((k : Int) - 1) = ((k - 1 : Nat) : Int) := by rw [show (k : Int) - 1 = ((k - 1 : Nat) : Int) by omega, wrap_nat (by omega)]
  rw [r15Conjugates.l0]
  simp only [r15Degree.f]
  rw [Option.bind_some, len_wrap hF, if_pos (by omega), ei, if_pos (by omega), if_pos (by omega), ht, Option.bind_some, rdL_nat, ht2, Option.bind_some, h2' j' (by omega), Option.bind_some, if_neg (by simp), if_pos (by omega), show (k : Int) + 1 = ((k + 1 : Nat) : Int) from rfl, wrap_nat (by omega)]
  exact h3 j' (by omega)
theorem ref_out_loop (L : List (List Int)) (hE : Els q f L) (hL : L.length ≤ 1000) : ∀ (d i : Nat), i + d = L.length → Ev (fun k => r15MinPoly.l2 k L ((L.take i).map (·.getD 0 0)) (i : Int) q f) (L.map (·.getD 0 0)) := by
 have hlen := hF.len
 intro d
 induction d with
 | zero =>
  intro i hi
  refine ⟨1, fun k hk => ?_⟩
  obtain ⟨k', rfl, hk'⟩ := ex_succ hk
  show r15MinPoly.l2 (k' + 1) L ((L.take i).map (·.getD 0 0)) (i : Int) q f = _
  rw [r15MinPoly.l2]
  rw [if_neg (by omega), List.take_of_length_le (by omega)]
 | succ d ih =>
  intro i hi
  obtain ⟨K, hK⟩ := ih (i + 1) (by omega)
  obtain ⟨K2, hK2⟩ := Eval_ok hF (L.getD i []) (hE i).1 (by have := (hE i).2.1; omega)
  dsimp only at hK hK2
  have e : (L.take (i + 1)).map (·.getD 0 0) = (L.take i).map (·.getD 0 0) ++ [(L.getD i []).getD 0 0] := by
   rw [List.take_add_one, List.getElem?_eq_getElem (by omega), List.getD_eq_getElem?_getD (l := L), List.getElem?_eq_getElem (by omega), List.map_append]
   rfl
  rw [e] at hK
  refine ⟨K + K2 + 1, fun k hk => ?_⟩
  obtain ⟨k', rfl, hk'⟩ := ex_succ hk
  have g1 := hK k' (by omega)
  have g2 := hK2 k' (by omega)
  show r15MinPoly.l2 (k' + 1) L ((L.take i).map (·.getD 0 0)) (i : Int) q f = _
  rw [r15MinPoly.l2]
  rw [if_pos (by omega), if_pos (by omega), rdL_nat, g2, Option.bind_some, if_pos (by simp; omega), show (i : Int) + 1 = ((i + 1 : Nat) : Int) from rfl, wrap_nat (by omega)]
  exact g1
theorem ref_min_loop {A : ZX} {D : Nat} (hD : D ≤ 90) {cs : List (List Int)} (hcl : cs.length = D) (hcs : ∀ i, i < D → El q f (cs.getD i []) (A ^ q ^ i)) : ∀ (e d : Nat) (prod : List (List Int)), d + e = D → MinI q f A prod d →
  ∃ pr, MinI q f A pr D ∧ Ev (fun k => r15MinPoly.l0 k prod cs (d : Int) q f) (pr.map (·.getD 0 0)) := by
 intro e
 induction e with
 | zero =>
  intro d prod hd hI
  have ed : d = D := by omega
  subst ed
  have hl := hI.len
  obtain ⟨K, hK⟩ := ref_out_loop hF prod hI.els (by omega) prod.length 0 (by omega)
  dsimp only at hK
  refine ⟨prod, hI, K + 1, fun k hk => ?_⟩
  obtain ⟨k', rfl, hk'⟩ := ex_succ hk
  have g := hK k' hk'
  show r15MinPoly.l0 (k' + 1) prod cs (d : Int) q f = _
  rw [r15MinPoly.l0]
  rw [if_neg (by omega)]
  exact g
 | succ e ih =>
  intro d prod hd hI
  have hl := hI.len
  have start : MulI q f (A ^ q ^ d) prod (List.replicate (prod.length + 1) []) 0 := ⟨Els.zeros hF _, by simp, fun Y => by
   rw [evL_zeros]
   show Cg q (P f) 0 ((Y - A ^ q ^ d) * evL [] Y)
   exact Cg.of_eq (by show (0 : ZX) = (Y - A ^ q ^ d) * 0; exact ZX.zr), fun j _ => by
   rw [List.getD_eq_getElem?_getD, List.getElem?_replicate]; split <;> rfl, fun h => by omega⟩
  obtain ⟨N, hN, hrun⟩ := ref_mul_loop hF (cs := cs) (i0 := d) (by omega) (by omega) (hcs d (by omega)) hI.els (by omega) prod.length 0 _ (by omega) start
  have hI2 : MinI q f A N (d + 1) := by
   refine ⟨hN.els, by rw [hN.len, hl], fun Y => ?_, ?_⟩
   ·have := hN.val Y
    rw [List.take_of_length_le (Nat.le_refl _)] at this
    exact this.trans (((Cg.refl _).mul (hI.val Y)).trans (Cg.of_eq (mul_comm _ _)))
   ·have := hN.top (by omega)
    rw [hl, Nat.add_sub_cancel, hI.top] at this
    exact this
  obtain ⟨pr, hpr, hr⟩ := ih (d + 1) N (by omega) hI2
  obtain ⟨K, hK⟩ := hrun _ hr
  dsimp only at hK
  refine ⟨pr, hpr, K + 1, fun k hk => ?_⟩
  obtain ⟨k', rfl, hk'⟩ := ex_succ hk
  have g := hK k' hk'
  show r15MinPoly.l0 (k' + 1) prod cs (d : Int) q f = _
  have el : wrap64 ((prod.length : Int) + 1) = ((prod.length + 1 : Nat) : Int) := by rw [show (prod.length : Int) + 1 = ((prod.length + 1 : Nat) : Int) from rfl, wrap_nat (by omega)]
  rw [r15MinPoly.l0]
  rw [if_pos (by omega), el, if_pos (by omega), if_pos (by omega), Int.toNat_natCast]
  exact g
theorem MinPoly_both {a : List Int} {A : ZX} (ha : El q f a A) : ∃ l : List Int, l.length ≤ 1000 ∧ Ev (fun k => fi_MinPoly.f k q f a) (l, 0) ∧ Ev (fun k => r15MinPoly.f k q f a) l := by
 have hlen := hF.len
 have h2 := hF.two
 obtain ⟨D, pr, hD1, hDn, hA, hmin, hI, hrun⟩ := MinPoly_ok hF ha
 obtain ⟨cs, hcl, hcs, K1, h1⟩ := conj_loop hF ha hDn hA hmin (D - 1) 1 [a] (by omega) (Nat.le_refl _) rfl (fun i hi => by
  have e : i = 0 := by omega
  subst e
  rw [Nat.pow_zero, pow_one]; exact ha)
 have start : MinI q f A [[1]] 0 := ⟨fun i => by
   match i with
   | 0 => exact El.of hF (NL.one hF.prm.1) (by simp; omega)
   | i + 1 => exact El.of hF NL.nil (by simp; omega), rfl, fun Y => by
   show Cg q (P f) (P [1] + Y * 0) 1
   rw [P_one]; exact Cg.of_eq ZX.zr, rfl⟩
 obtain ⟨pr2, hI2, K2, h2'⟩ := ref_min_loop hF (by omega) hcl hcs D 0 [[1]] (by omega) start
 have epr : pr = pr2 := MinI.unique hF hDn hI hI2
 subst epr
 have hl := hI.len
 dsimp only at h1 h2'
 refine ⟨_, by rw [List.length_map]; omega, hrun, K1 + K2, fun k hk => ?_⟩
 have g1 := h1 k (by omega)
 have g2 := h2' k (by omega)
 simp only [r15MinPoly.f, r15Conjugates.f]
 rw [show (1 : Int) = ((1 : Nat) : Int) from rfl] at *
 rw [g1, Option.bind_some]
 exact g2
end
end Go.Proofs.YtalnaafmonmlmaaGreat.Q
end
section
namespace Go.Proofs.YtalnaafmonmlmaaGreat.Q
open Go.RowKit Go.Proofs.YtalnaafmonmlmaaGreatW.PrintWords Go.Proofs.YtalnaafmonmlmaaGreatW.PrintLast Go.Proofs.YtalnaafmonmlmaaGreatW.PrintMore Go.Proofs.YtalnaafmonmlmaaGreat.M Go.Proofs.YtalnaafmonmlmaaGreat.M.ZX
set_option linter.unusedVariables false
set_option linter.unusedSimpArgs false
theorem lexc_neg : ∀ (a b : List Int), a.length = b.length → lexc b a = - lexc a b
 | [], [], _ => rfl
 | [], _ :: _, h => by simp at h
 | _ :: _, [], h => by simp at h
 | x :: a, y :: b, h => by
  have ih := lexc_neg a b (by simpa using h)
  unfold lexc
  by_cases e : x = y
  ·rw [if_pos e, if_pos e.symm]; exact ih
  ·rw [if_neg e, if_neg (fun h => e h.symm)]
   by_cases hlt : x < y
   ·rw [if_pos hlt, if_neg (by omega)]; rfl
   ·rw [if_neg hlt, if_pos (by omega)]
theorem lexc_ne : ∀ (a b : List Int), a.length = b.length → a ≠ b → lexc a b ≠ 0
 | [], [], _, h => absurd rfl h
 | [], _ :: _, h, _ => by simp at h
 | _ :: _, [], h, _ => by simp at h
 | x :: a, y :: b, h, hne => by
  unfold lexc
  by_cases e : x = y
  ·rw [if_pos e]
   exact lexc_ne a b (by simpa using h) (fun h2 => hne (by rw [e, h2]))
  ·rw [if_neg e]
   split <;> decide
theorem cmpL_anti {a b : List Int} (h : a ≠ b) : cmpL a b < 0 ↔ ¬ cmpL b a < 0 := by
 unfold cmpL
 by_cases hl : a.length = b.length
 ·rw [if_pos hl, if_pos hl.symm, lexc_neg a b hl]
  have := lexc_ne a b hl h
  omega
 ·have hl' : ¬ b.length = a.length := fun h => hl h.symm
  rw [if_neg hl, if_neg hl']
  by_cases h2 : a.length < b.length
  ·have h3 : ¬ b.length < a.length := by omega
   rw [if_pos h2, if_neg h3]; decide
  ·have h3 : b.length < a.length := by omega
   rw [if_neg h2, if_pos h3]; decide
theorem ref_cmp_loop (l m : List Int) (h : l.length = m.length) (hl : l.length ≤ 1000000) : ∀ (d i : Nat), i + d = l.length → Ev (fun k => r9Compare.l0 k l m i) (lexc (l.drop i) (m.drop i)) := by
 intro d
 induction d with
 | zero =>
  intro i hi
  refine ⟨1, fun k hk => ?_⟩
  obtain ⟨k', rfl, hk'⟩ := ex_succ hk
  simp only [r9Compare.l0]
  rw [if_neg (by omega), List.drop_of_length_le (by omega)]
  rfl
 | succ d ih =>
  intro i hi
  obtain ⟨K, hK⟩ := ih (i + 1) (by omega)
  dsimp only at hK
  have e1 : l.drop i = l.getD i 0 :: l.drop (i + 1) := by rw [List.drop_eq_getElem_cons (by omega), List.getD_eq_getElem?_getD, List.getElem?_eq_getElem (by omega)]; rfl
  have e2 : m.drop i = m.getD i 0 :: m.drop (i + 1) := by rw [List.drop_eq_getElem_cons (by omega), List.getD_eq_getElem?_getD, List.getElem?_eq_getElem (by omega)]; rfl
  rw [e1, e2]
  refine ⟨K + 1, fun k hk => ?_⟩
  obtain ⟨k', rfl, hk'⟩ := ex_succ hk
  simp only [r9Compare.l0]
  rw [if_pos (by omega), if_pos (by omega), if_pos (by omega), rd_nat, rd_nat, succ_wrap (by omega)]
  unfold lexc
  by_cases h1 : l.getD i 0 = m.getD i 0
  ·rw [if_neg (by omega), if_neg (by omega), if_pos h1]
   exact hK k' hk'
  ·rw [if_neg h1]
   by_cases h2 : l.getD i 0 < m.getD i 0
   ·rw [if_pos h2, if_pos h2]
   ·rw [if_neg h2, if_pos (by omega), if_neg h2]
theorem ref_Compare_ok (l m : List Int) (hl : l.length ≤ 1000000) : Ev (fun k => r9Compare.f k l m) (cmpL l m) := by
 unfold cmpL
 by_cases h : l.length = m.length
 ·obtain ⟨K, hK⟩ := ref_cmp_loop l m h hl l.length 0 (by omega)
  dsimp only at hK
  rw [List.drop_zero, List.drop_zero] at hK
  refine ⟨K, fun k hk => ?_⟩
  simp only [r9Compare.f]
  rw [if_pos (by omega), if_pos h, show (0 : Int) = ((0 : Nat) : Int) from rfl, hK k hk]
 ·refine ⟨0, fun k hk => ?_⟩
  simp only [r9Compare.f]
  rw [if_neg (by omega), if_neg h]
  by_cases h2 : l.length < m.length
  ·rw [if_pos (by omega), if_pos h2]
  ·rw [if_neg (by omega), if_neg h2]
def bestS (r s : List Int) (nr ns i : Nat) : List Int × Bool := if nr < i then (r, true) else if ns < i then (s, true) else ([], false)
section
variable {q : Nat} {f : List Int} (hF : Fld q f)
include hF
theorem ref_root_loop (hQ : Qn q f ≤ 2147483647) {a r s : List Int} {A : ZX} (ha : El q f a A) {nr ns : Nat} (hr : dg q nr = r) (hs : dg q ns = s) (hrs : r = s ∨ cmpL r s < 0)
  (hroot : ∀ n, n < Qn q f → (Cg q (P f) (P (dg q n) * P (dg q n)) A ↔ n = nr ∨ n = ns)) : ∀ (d i : Nat), i + d = Qn q f → Ev (fun k => r15SquareRoot.l0 k a (bestS r s nr ns i).1 (bestS r s nr ns i).2 (Qn q f : Int) i q f) (bestS r s nr ns (Qn q f)) := by
 have hp2 := hF.prm.1
 have num : ∀ {m n : Nat}, dg q m = dg q n → m = n := fun {m n} h => by
  have h1 := dg_val hp2 m
  have h2 := dg_val hp2 n
  rw [h] at h1
  omega
 intro d
 induction d with
 | zero =>
  intro i hi
  have e : i = Qn q f := by omega
  subst e
  refine ⟨1, fun k hk => ?_⟩
  obtain ⟨k', rfl, hk'⟩ := ex_succ hk
  simp only [r15SquareRoot.l0]
  rw [if_neg (by omega)]
 | succ d ih =>
  intro i hi
  have hil : i < Qn q f := by omega
  have hel := dg_el hF hil
  obtain ⟨K1, h1⟩ := ref_Element_ok hF (m := i) (by omega)
  obtain ⟨t, ht, K2, h2⟩ := ref_Mul_ok hF hel hel
  obtain ⟨K3, h3⟩ := Same_spec t a (ht.small hF)
  obtain ⟨K4, h4⟩ := ih (i + 1) (by omega)
  have ew : wrap64 ((i : Int) + 1) = ((i + 1 : Nat) : Int) := by rw [show (i : Int) + 1 = ((i + 1 : Nat) : Int) from rfl, wrap_nat (by omega)]
  have hta : t = a ↔ i = nr ∨ i = ns := by
   rw [← hroot i hil]
   exact ⟨fun e => by rw [e] at ht; exact ht.2.2.symm.trans ha.2.2, fun e => ht.eq hF ha e⟩
  dsimp only at h1 h2 h3 h4
  by_cases hc : i = nr ∨ i = ns
  ·rw [decide_eq_true (hta.2 hc)] at h3
   obtain ⟨K5, h5⟩ := ref_Compare_ok (dg q i) (bestS r s nr ns i).1 (hel.small hF)
   dsimp only at h5
   refine ⟨K1 + K2 + K3 + K4 + K5 + 1, fun k hk => ?_⟩
   obtain ⟨k', rfl, hk'⟩ := ex_succ hk
   simp only [r15SquareRoot.l0]
   rw [if_pos (by omega), h1 k' (by omega), Option.bind_some, h2 k' (by omega), Option.bind_some, h3 k' (by omega), Option.bind_some, if_pos rfl, h5 k' (by omega), Option.bind_some, ew]
   have h4' := h4 k' (by omega)
   by_cases e1 : nr < i
   ·-- the lesser root is known
    have b1 : bestS r s nr ns i = (r, true) := if_pos e1
    have b2 : bestS r s nr ns (i + 1) = (r, true) := if_pos (by omega)
    have ens : i = ns := hc.resolve_left (by omega)
    rw [b2] at h4'
    rw [b1, if_pos rfl]
    dsimp only at h4' ⊢
    have hrs' : r ≠ s := fun e => by
     have := num (hr.trans (e.trans hs.symm)); omega
    rw [if_neg (by rw [ens, hs]; exact (cmpL_anti hrs').1 (hrs.resolve_left hrs'))]
    exact h4'
   ·by_cases e2 : ns < i
    ·have b1 : bestS r s nr ns i = (s, true) := by unfold bestS; rw [if_neg e1, if_pos e2]
     have enr : i = nr := hc.resolve_right (by omega)
     have b2 : bestS r s nr ns (i + 1) = (r, true) := if_pos (by omega)
     rw [b2] at h4'
     rw [b1, if_pos rfl]
     dsimp only at h4' ⊢
     have hrs' : r ≠ s := fun e => by
      have := num (hr.trans (e.trans hs.symm)); omega
     have er : dg q i = r := by rw [enr, hr]
     rw [if_pos (by rw [er]; exact hrs.resolve_left hrs'), er]
     exact h4'
    ·have b1 : bestS r s nr ns i = ([], false) := by unfold bestS; rw [if_neg e1, if_neg e2]
     have b2 : bestS r s nr ns (i + 1) = (dg q i, true) := by
      unfold bestS
      by_cases enr : i = nr
      ·rw [if_pos (by omega), enr, hr]
      ·have ens := hc.resolve_left enr
       rw [if_neg (by omega), if_pos (by omega), ens, hs]
     rw [b2] at h4'
     rw [b1, if_neg (by simp)]
     exact h4'
  ·rw [decide_eq_false (fun e => hc (hta.1 e))] at h3
   have b : bestS r s nr ns (i + 1) = bestS r s nr ns i := by
    unfold bestS
    have g1 : nr < i + 1 ↔ nr < i := by omega
    have g2 : ns < i + 1 ↔ ns < i := by omega
    simp only [g1, g2]
   rw [b] at h4
   refine ⟨K1 + K2 + K3 + K4 + 1, fun k hk => ?_⟩
   obtain ⟨k', rfl, hk'⟩ := ex_succ hk
   simp only [r15SquareRoot.l0]
   rw [if_pos (by omega), h1 k' (by omega), Option.bind_some, h2 k' (by omega), Option.bind_some, h3 k' (by omega), Option.bind_some, if_neg (by simp), ew]
   exact h4 k' (by omega)
theorem num_ok {l : List Int} {x : ZX} (h : El q f l x) : ∃ n, n < Qn q f ∧ dg q n = l := by
 have hp2 := hF.prm.1
 have hN := num_lt hp2 h.1 (d := f.length - 1) (by have := h.2.1; omega)
 exact ⟨_, hN, dg_num hp2 h.1⟩
theorem ref_root_some (hQ : Qn q f ≤ 2147483647) {a r s : List Int} {A R : ZX} (ha : El q f a A) (hr : El q f r R) (hs : El q f s (-R)) (hR : Cg q (P f) (R * R) A) (hrs : r = s ∨ cmpL r s < 0) : Ev (fun k => r15SquareRoot.f k q f a) (r, true) := by
 have hpos := Qn_pos hF
 obtain ⟨nr, hnr, er⟩ := num_ok hF hr
 obtain ⟨ns, hns, es⟩ := num_ok hF hs
 have hp2 := hF.prm.1
 have num : ∀ {m n : Nat}, dg q m = dg q n → m = n := fun {m n} h => by
  have h1 := dg_val hp2 m
  have h2 := dg_val hp2 n
  rw [h] at h1
  omega
 have hroot : ∀ n, n < Qn q f → (Cg q (P f) (P (dg q n) * P (dg q n)) A ↔ n = nr ∨ n = ns) := fun n hn => by
  have hel := dg_el hF hn
  constructor
  ·intro h
   have h1 : In q (P f) ((P (dg q n) - R) * (P (dg q n) - -R)) := by
    have h2 : In q (P f) (P (dg q n) * P (dg q n) - R * R) := h.trans hR.symm
    rwa [show P (dg q n) * P (dg q n) - R * R = (P (dg q n) - R) * (P (dg q n) - -R) from ZX.zr] at h2
   rcases hF.dom _ _ h1 with h2 | h2
   ·exact .inl (num ((hel.eq hF hr h2).trans er.symm))
   ·exact .inr (num ((hel.eq hF hs h2).trans es.symm))
  ·rintro (rfl | rfl)
   ·rw [er]; exact (hr.2.2.mul hr.2.2).trans hR
   ·rw [es]; exact (hs.2.2.mul hs.2.2).trans ((Cg.of_eq ZX.zr).trans hR)
 obtain ⟨K1, h1⟩ := ref_Size_ok hF
 rw [if_pos hQ] at h1
 obtain ⟨K2, h2⟩ := ref_root_loop hF hQ ha er es hrs hroot (Qn q f) 0 (by omega)
 have b0 : bestS r s nr ns 0 = ([], false) := rfl
 have b1 : bestS r s nr ns (Qn q f) = (r, true) := if_pos hnr
 rw [b0, b1] at h2
 dsimp only at h1 h2
 refine ⟨K1 + K2, fun k hk => ?_⟩
 simp only [r15SquareRoot.f]
 rw [h1 k (by omega), Option.bind_some]
 exact h2 k (by omega)
theorem ref_root_none (hQ : Qn q f ≤ 2147483647) {a : List Int} {A : ZX} (ha : El q f a A) (hno : ∀ n, n < Qn q f → ¬ Cg q (P f) (P (dg q n) * P (dg q n)) A) : Ev (fun k => r15SquareRoot.f k q f a) ([], false) := by
 have hpos := Qn_pos hF
 obtain ⟨K1, h1⟩ := ref_Size_ok hF
 rw [if_pos hQ] at h1
 obtain ⟨K2, h2⟩ := ref_root_loop hF hQ ha (nr := Qn q f) (ns := Qn q f) rfl rfl (.inl rfl) (fun n hn => ⟨fun h => absurd h (hno n hn), fun h => by omega⟩) (Qn q f) 0 (by omega)
 have b0 : bestS (dg q (Qn q f)) (dg q (Qn q f)) (Qn q f) (Qn q f) 0 = ([], false) := rfl
 have b1 : bestS (dg q (Qn q f)) (dg q (Qn q f)) (Qn q f) (Qn q f) (Qn q f) = ([], false) := by unfold bestS; rw [if_neg (by omega), if_neg (by omega)]
 rw [b0, b1] at h2
 dsimp only at h1 h2
 refine ⟨K1 + K2, fun k hk => ?_⟩
 simp only [r15SquareRoot.f]
 rw [h1 k (by omega), Option.bind_some]
 exact h2 k (by omega)
theorem SquareRoot_both (hQ : Qn q f ≤ 2147483647) {a : List Int} {A : ZX} (ha : El q f a A) : ∃ (l : List Int) (b : Bool), l.length < f.length ∧ (b = false → l = []) ∧ Ev (fun k => r15SquareRoot.f k q f a) (l, b) ∧ Ev (fun k => fi_SquareRoot.f k q f a) (l, if b = true then 0 else 26) := by
 have h2 := hF.two
 by_cases hq2 : q = 2
 ·obtain ⟨r, R, hr, hR, h⟩ := SquareRoot_two hF hQ hq2 ha
  have hs : El q f r (-R) := ⟨hr.1, hr.2.1, hr.2.2.trans (by
   have e : Cg q (P f) (C (2 : Int) * R) (C 0 * R) := (Cg.num (by rw [hq2]; exact ⟨1, by omega⟩)).mul (Cg.refl R)
   have e2 : R = C 2 * R - R := ZX.ext fun x => by simp only [sub_v, mul_v, C_v]; omega
   have e3 : C 0 * R - R = -R := ZX.ext fun x => by simp only [sub_v, mul_v, C_v, neg_v]; omega
   have := e.sub (Cg.refl R)
   rw [← e2, e3] at this
   exact this)⟩
  exact ⟨r, true, hr.2.1, fun h => by simp at h, ref_root_some hF hQ ha hr hs hR (.inl rfl), by rw [if_pos rfl]; exact h⟩
 ·by_cases hne : a = []
  ·subst hne
   have hz : El q f [] (-(0 : ZX)) := ⟨NL.nil, by simp; omega, Cg.of_eq (by rw [P_nil]; exact ZX.zr)⟩
   exact ⟨[], true, by simp; omega, fun h => by simp at h, ref_root_some hF hQ ha (El.zero hF) hz ((Cg.of_eq ZX.zr).trans ((Cg.of_eq P_nil.symm).trans ha.2.2)) (.inl rfl), by rw [if_pos rfl]; exact SquareRoot_nil hF hQ hq2⟩
  ·obtain ⟨m, hm, hm0⟩ := half_ok hF hq2
   by_cases hA : Cg q (P f) (A ^ m) 1
   ·obtain ⟨r, s, R, hr, hs, hR, hc, h⟩ := SquareRoot_some hF hQ hq2 hm ha hne hA
    have hrs : r = s ∨ cmpL r s < 0 := by
     by_cases e : r = s
     ·exact .inl e
     ·exact .inr (hc.elim (fun h => (cmpL_anti e).2 h) id)
    exact ⟨r, true, hr.2.1, fun h => by simp at h, ref_root_some hF hQ ha hr hs hR hrs, by rw [if_pos rfl]; exact h⟩
   ·refine ⟨[], false, by simp; omega, fun _ => rfl, ref_root_none hF hQ ha (fun n hn h => ?_), by rw [if_neg (by simp)]; exact SquareRoot_none hF hQ hq2 hm ha hne hA⟩
    have hx : ¬ In q (P f) (P (dg q n)) := fun h0 => hne ((ha.nil_iff hF).2 (h.in_iff.1 (h0.mul _)))
    have h5 := field_fermat hF.prm hF.nl hF.two hF.dom hx
    refine hA ((h.symm.pow m).trans ?_)
    rw [mul_pow, ← pow_add, show m + m = q ^ (f.length - 1) - 1 from by have : 2 * m = q ^ (f.length - 1) - 1 := hm; omega]
    exact h5
end
end Go.Proofs.YtalnaafmonmlmaaGreat.Q
end
section
namespace Go.Proofs.YtalnaafmonmlmaaGreat.Q
open Go.RowKit Go.Proofs.YtalnaafmonmlmaaGreatW.PrintWords Go.Proofs.YtalnaafmonmlmaaGreatW.PrintLast Go.Proofs.YtalnaafmonmlmaaGreatW.PrintMore Go.Proofs.YtalnaafmonmlmaaGreat.M Go.Proofs.YtalnaafmonmlmaaGreat.M.ZX
set_option linter.unusedVariables false
set_option linter.unusedSimpArgs false
theorem right_ok (l : List Int) (hl : l.length ≤ 1000000) : Ev (fun k => l15right.f k l 0 0 l) true := by
 obtain ⟨K, hK⟩ := Same_spec l l hl
 dsimp only at hK
 refine ⟨K, fun k hk => ?_⟩
 simp only [l15right.f]
 rw [if_pos trivial, hK k hk, Option.bind_some, decide_eq_true rfl, if_pos rfl]
 rfl
theorem right_bad {e : Int} (he : e ≠ 0) (m : List Int) (k : Nat) : l15right.f k [] e e m = some true := by
 simp only [l15right.f]
 rw [if_neg he, if_pos (by simp)]
 simp
end Go.Proofs.YtalnaafmonmlmaaGreat.Q
end
section
namespace Go.Proofs.YtalnaafmonmlmaaGreat.Pure
open Go.RowKit Go.Proofs.YtalnaafmonmlmaaGreatW.PrintWords Go.Proofs.YtalnaafmonmlmaaGreatW.PrintLast Go.Proofs.YtalnaafmonmlmaaGreatW.PrintMore Go.Proofs.YtalnaafmonmlmaaGreat.M Go.Proofs.YtalnaafmonmlmaaGreat.M.ZX Go.Proofs.YtalnaafmonmlmaaGreat.Q
set_option linter.unusedVariables false
set_option linter.unusedSimpArgs false
noncomputable def ck1 (p : Int) (f a : List Int) : Int := if ckF p f = 0 then ckE p f a else ckF p f
theorem check_a (p : Int) (f a : List Int) : Ev (fun k => fi_check.f k p f [a]) (ck1 p f a) := by
 have := check_spec p f [a] (by simp)
 have e : ckL p f [a] = ckE p f a := by
  show (if ckE p f a = 0 then (0 : Int) else ckE p f a) = ckE p f a
  split
  ·rename_i h; exact h.symm
  ·rfl
 rw [e] at this
 exact this
theorem bad_three {p : Int} {f a : List Int} (h : ck1 p f a ≠ 0) : ∃ K, ∀ k, K ≤ k → fi_Order.f k p f a = some (0, ck1 p f a) ∧ fi_MinPoly.f k p f a = some ([], ck1 p f a) ∧ fi_SquareRoot.f k p f a = some ([], ck1 p f a) := by
 obtain ⟨K, hK⟩ := check_a p f a
 dsimp only at hK
 refine ⟨K, fun k hk => ⟨?_, ?_, ?_⟩⟩
 ·simp only [fi_Order.f]; rw [hK k hk, Option.bind_some, if_neg h]
 ·simp only [fi_MinPoly.f]; rw [hK k hk, Option.bind_some, if_neg h]
 ·simp only [fi_SquareRoot.f]; rw [hK k hk, Option.bind_some, if_neg h]
theorem j1_bad {a f : List Int} {p e : Int} (h : e ≠ 0) (k : Nat) : lw.j1 (k + 1) a 0 e [] e [] e e p f = some true := by
 rw [lw.j1]
 rw [if_neg h, if_pos rfl, if_pos rfl, right_bad h, Option.bind_some, if_pos rfl, Option.bind_some]
section
variable {q : Nat} {f : List Int} (hF : Fld q f)
include hF
theorem gen_both (hQ : Qn q f ≤ 256) : ∃ g : List Int, g.length ≤ 1000000 ∧ Ev (fun k => fi_Generator.f k q f) (g, 0) ∧ Ev (fun k => r15Generator.f k q f) g := by
 obtain ⟨n, hn, hg, hmin⟩ := exists_gen hF
 exact ⟨dg q n, (dg_el hF hn).small hF, Generator_ok hF (by omega) hn hg hmin, ref_Generator_ok hF (by omega) hn hg hmin⟩
theorem orders_j2 (hQ : Qn q f ≤ 256) {a : List Int} {A : ZX} (ha : El q f a A) : ∃ m s E, Ev (fun k => fi_MinPoly.f k q f a) (m, 0) ∧ Ev (fun k => fi_SquareRoot.f k q f a) (s, E) ∧ Ev (fun k => lw.j2 k a m 0 s E q f) true := by
 have hlen := hF.len
 obtain ⟨m, hm, e1, K1, h1⟩ := MinPoly_both hF ha
 obtain ⟨s, b, hs, hb, ⟨K2, h2⟩, e2⟩ := SquareRoot_both hF (by omega) ha
 obtain ⟨K3, h3⟩ := right_ok m (by omega)
 obtain ⟨K4, h4⟩ := right_ok s (by omega)
 dsimp only at h1 h2 h3 h4
 refine ⟨m, s, _, e1, e2, K1 + K2 + K3 + K4 + 1, fun k hk => ?_⟩
 obtain ⟨k', rfl, hk'⟩ := ex_succ hk
 dsimp only
 rw [lw.j2]
 rw [h2 k' (by omega), Option.bind_some]
 cases b with
 | true =>
  rw [if_pos rfl, h1 k' (by omega), Option.bind_some, h3 k' (by omega), Option.bind_some, if_pos rfl, if_pos rfl, h4 k' (by omega), Option.bind_some]
 | false =>
  have es := hb rfl
  subst es
  rw [if_neg (by simp), h1 k' (by omega), Option.bind_some, h3 k' (by omega), Option.bind_some, if_pos rfl, if_neg (by simp), right_bad (by decide), Option.bind_some]
theorem orders_good (hQ : Qn q f ≤ 256) {a : List Int} {A : ZX} (ha : El q f a A) : Ev (fun k => lw.j0 k a false q f) true := by
 have hlen := hF.len
 obtain ⟨g, hg, ⟨K1, h1⟩, K2, h2⟩ := gen_both hF hQ
 obtain ⟨m, s, E, ⟨K3, h3⟩, ⟨K4, h4⟩, K5, h5⟩ := orders_j2 hF hQ ha
 obtain ⟨K6, h6⟩ := right_ok g hg
 obtain ⟨K7, h7⟩ := ref15_Check_spec (q : Int) f
 obtain ⟨K8, h8⟩ := ref15_CheckElement_spec (q : Int) f a
 rw [ckF_of hF] at h7
 rw [if_pos (ckF_of hF), ckE_of hF ha.1 ha.2.1] at h8
 obtain ⟨K9, h9⟩ := check_one hF ha
 obtain ⟨K10, h10⟩ := size_ok hF (show Qn q f ≤ 2147483647 by omega)
 obtain ⟨o, O, ⟨K11, h11⟩, K12, h12⟩ : ∃ o O, Ev (fun k => fi_Order.f k q f a) (o, O) ∧ Ev (fun k => lw.j1 k a o O m 0 s E 0 q f) true := by
  dsimp only at h5 h9 h10
  by_cases hne : a = []
  ·subst hne
   refine ⟨0, 6, ⟨K9 + K10, fun k hk => ?_⟩, K5 + 1, fun k hk => ?_⟩
   ·simp only [fi_Order.f]
    rw [h9 k (by omega), Option.bind_some, if_pos rfl, h10 k (by omega), Option.bind_some, if_pos rfl, if_pos (by simp)]
   ·obtain ⟨k', rfl, hk'⟩ := ex_succ hk
    dsimp only
    rw [lw.j1]
    rw [if_pos rfl, if_pos (by simp), if_pos rfl, if_pos rfl]
    exact h5 k' (by omega)
  ·have hl := List.length_pos_iff.2 hne
   obtain ⟨k0, hk0, hle, K13, h13⟩ := gf_Order_ok hF (by omega) ha hne
   obtain ⟨K14, h14⟩ := ref_Order_ok hF ha hk0 (by omega)
   dsimp only at h13 h14
   refine ⟨(k0 : Int), 0, ⟨K9 + K10 + K13, fun k hk => ?_⟩, K5 + K14 + 1, fun k hk => ?_⟩
   ·simp only [fi_Order.f]
    rw [h9 k (by omega), Option.bind_some, if_pos rfl, h10 k (by omega), Option.bind_some, if_pos rfl, if_neg (by omega), h13 k (by omega), Option.bind_some]
   ·obtain ⟨k', rfl, hk'⟩ := ex_succ hk
    dsimp only
    rw [lw.j1]
    rw [if_pos rfl, if_neg (by omega), h14 k' (by omega), Option.bind_some, if_pos rfl, if_pos rfl]
    exact h5 k' (by omega)
 dsimp only at h1 h2 h3 h4 h6 h7 h8 h11 h12
 refine ⟨K1 + K2 + K3 + K4 + K6 + K7 + K8 + K11 + K12 + 1, fun k hk => ?_⟩
 obtain ⟨k', rfl, hk'⟩ := ex_succ hk
 dsimp only
 rw [lw.j0]
 rw [if_neg (by simp), h11 k' (by omega), Option.bind_some, h1 k' (by omega), Option.bind_some, h3 k' (by omega), Option.bind_some, h4 k' (by omega), Option.bind_some, h7 k' (by omega), Option.bind_some, h8 k' (by omega), Option.bind_some, if_pos rfl, h2 k' (by omega), Option.bind_some, h6 k' (by omega), Option.bind_some, if_pos rfl]
 exact h12 k' (by omega)
theorem orders_elem (hQ : Qn q f ≤ 256) {a : List Int} (he : ckE q f a ≠ 0) : Ev (fun k => lw.j0 k a false q f) true := by
 have hc : ck1 q f a = ckE q f a := by unfold ck1; rw [if_pos (ckF_of hF)]
 obtain ⟨g, hg, ⟨K1, h1⟩, K2, h2⟩ := gen_both hF hQ
 obtain ⟨K3, h3⟩ := bad_three (p := (q : Int)) (f := f) (a := a) (by rw [hc]; exact he)
 obtain ⟨K6, h6⟩ := right_ok g hg
 obtain ⟨K7, h7⟩ := ref15_Check_spec (q : Int) f
 obtain ⟨K8, h8⟩ := ref15_CheckElement_spec (q : Int) f a
 rw [ckF_of hF] at h7
 rw [if_pos (ckF_of hF)] at h8
 rw [hc] at h3
 dsimp only at h1 h2 h6 h7 h8
 refine ⟨K1 + K2 + K3 + K6 + K7 + K8 + 2, fun k hk => ?_⟩
 obtain ⟨k1, rfl, hk1⟩ := ex_succ hk
 obtain ⟨k2, rfl, hk2⟩ := ex_succ (K := K1 + K2 + K3 + K6 + K7 + K8) (k := k1) (by omega)
 obtain ⟨b1, b2, b3⟩ := h3 (k2 + 1) (by omega)
 dsimp only
 rw [lw.j0]
 rw [if_neg (by simp), b1, Option.bind_some, h1 _ (by omega), Option.bind_some, b2, Option.bind_some, b3, Option.bind_some, h7 _ (by omega), Option.bind_some, h8 _ (by omega), Option.bind_some, if_pos rfl, h2 _ (by omega), Option.bind_some, h6 _ (by omega), Option.bind_some, if_pos rfl]
 exact j1_bad he k2
end
theorem orders_bad {p : Int} {f a : List Int} (h : ckF p f ≠ 0) : Ev (fun k => lw.j0 k a false p f) true := by
 have hc : ck1 p f a = ckF p f := by unfold ck1; rw [if_neg h]
 obtain ⟨K3, h3⟩ := bad_three (p := p) (f := f) (a := a) (by rw [hc]; exact h)
 obtain ⟨K1, h1⟩ := field_Check_spec p f
 obtain ⟨K7, h7⟩ := ref15_Check_spec p f
 obtain ⟨K8, h8⟩ := ref15_CheckElement_spec p f a
 rw [if_neg h] at h8
 rw [hc] at h3
 dsimp only at h1 h7 h8
 refine ⟨K1 + K3 + K7 + K8 + 2, fun k hk => ?_⟩
 obtain ⟨k1, rfl, hk1⟩ := ex_succ hk
 obtain ⟨k2, rfl, hk2⟩ := ex_succ (K := K1 + K3 + K7 + K8) (k := k1) (by omega)
 obtain ⟨b1, b2, b3⟩ := h3 (k2 + 1) (by omega)
 have hG : fi_Generator.f (k2 + 1) p f = some ([], ckF p f) := by
  simp only [fi_Generator.f]
  rw [h1 _ (by omega), Option.bind_some, if_neg h]
 dsimp only
 rw [lw.j0]
 rw [if_neg (by simp), b1, Option.bind_some, hG, Option.bind_some, b2, Option.bind_some, b3, Option.bind_some, h7 _ (by omega), Option.bind_some, h8 _ (by omega), Option.bind_some, if_neg h]
 dsimp only
 rw [right_bad h, Option.bind_some, if_pos rfl]
 exact j1_bad h k2
theorem FinitefieldOrders : lw.Pure := by
 intro p f a _ _ _ _ _ _ _
 obtain ⟨Ka, ha⟩ := awake_ev
 have out : ∀ k, Ka ≤ k → lw.j0 (k + 1) a true p f = some true := fun k hk => by
  rw [lw.j0]
  rw [if_pos rfl, ha k hk, Option.bind_some]
 obtain ⟨K1, h1⟩ := ref15_Check_spec p f
 dsimp only at h1
 by_cases hs : f.length ≤ 70 ∧ a.length ≤ 70
 ·have hshort : l15short.f p f a [] = some true := by
   simp only [l15short.f]
   rw [if_pos (by omega), if_pos (by omega), decide_eq_true (by simp)]
  by_cases h0 : ckF p f = 0
  ·obtain ⟨b, hb, K2, h2⟩ := Few_spec p f 256
   dsimp only at h2
   cases b with
   | false =>
    refine ⟨Ka + K1 + K2 + 1, ?_⟩
    simp only [lw.f]
    rw [ha _ (by omega), Option.bind_some, if_pos rfl, hshort, Option.bind_some, if_pos rfl, h1 _ (by omega), Option.bind_some, if_pos h0, show (256 : Int) = ((256 : Nat) : Int) from rfl, h2 _ (by omega), Option.bind_some, Bool.not_false, out _ (by omega)]
   | true =>
    obtain ⟨q, rfl, hF, hQ1, hQ⟩ := hb.1 rfl
    obtain ⟨K3, h3⟩ : Ev (fun k => lw.j0 k a false q f) true := by
     by_cases he : ckE q f a = 0
     ·exact orders_good hF hQ (El.of hF (ckE_zero he).1 (ckE_zero he).2)
     ·exact orders_elem hF hQ he
    dsimp only at h3
    refine ⟨Ka + K1 + K2 + K3 + 1, ?_⟩
    simp only [lw.f]
    rw [ha _ (by omega), Option.bind_some, if_pos rfl, hshort, Option.bind_some, if_pos rfl, h1 _ (by omega), Option.bind_some, if_pos h0, show (256 : Int) = ((256 : Nat) : Int) from rfl, h2 _ (by omega), Option.bind_some, Bool.not_true]
    exact h3 _ (by omega)
  ·obtain ⟨K3, h3⟩ := orders_bad (p := p) (f := f) (a := a) h0
   dsimp only at h3
   refine ⟨Ka + K1 + K3, ?_⟩
   simp only [lw.f]
   rw [ha _ (by omega), Option.bind_some, if_pos rfl, hshort, Option.bind_some, if_pos rfl, h1 _ (by omega), Option.bind_some, if_neg h0]
   exact h3 _ (by omega)
 ·have hshort : l15short.f p f a [] = some false := by
   simp only [l15short.f]
   by_cases h1 : f.length ≤ 70
   ·rw [if_pos (by omega), if_neg (by omega)]
   ·rw [if_neg (by omega)]
  refine ⟨Ka + 1, ?_⟩
  simp only [lw.f]
  rw [ha _ (by omega), Option.bind_some, if_pos rfl, hshort, Option.bind_some, if_neg (by simp), out _ (by omega)]
end Go.Proofs.YtalnaafmonmlmaaGreat.Pure
end

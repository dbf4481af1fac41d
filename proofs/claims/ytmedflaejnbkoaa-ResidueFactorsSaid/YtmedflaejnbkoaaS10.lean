/- What the printed divisors and Moebius's function of residue compute. No conditions. -/
import Derived.Test.YtmedflaejnbkoaaS4
import Derived.Test.YtmedflaejnbkoaaM5
import Derived.Test.YtmedflaejnbkoaaQG2
import Derived.Test.YtmedflaejnbkoaaQG3
namespace Go.Proofs.Ytmedflaejnbkoaa.Q
open Go.RowKit Go.Proofs.YtmedflaejnbkoaaW.PrintWords Go.Proofs.YtmedflaejnbkoaaW.PrintLast Go.Proofs.YtmedflaejnbkoaaW.PrintMore Go.Proofs.Ytmedflaejnbkoaa.M
set_option linter.unusedVariables false
set_option linter.unusedSimpArgs false

def toI (l : List Nat) : List Int := l.map fun (d : Nat) => (d : Int)
theorem toI_append (l l' : List Nat) : toI (l ++ l') = toI l ++ toI l' := by simp [toI]
theorem toI_len (l : List Nat) : (toI l).length = l.length := by simp [toI]
theorem toI_one (x : Nat) : toI [x] = [(x : Int)] := rfl
theorem rd_toI (pre : List Nat) (x : Nat) (rest : List Nat) : rd (toI (pre ++ x :: rest)) (pre.length : Int) = (x : Int) := by
  unfold rd toI
  rw [Int.toNat_natCast, List.getD_eq_getElem?_getD, List.getElem?_map, List.getElem?_append_right (Nat.le_refl _)]
  simp
theorem toI_nil : toI [] = [] := rfl

theorem div_l2 (low : List Nat) (P : Nat) (x16 : List S53) (x17 x18 x25 x26 a b : Int) (r : List Int × Int) (hlow : ∀ y ∈ low, y * P ≤ 2147483647) (hl : low.length ≤ 2147483647) : ∀ (rest pre cur : List Nat), pre ++ rest = low → cur.length + rest.length ≤ 2147483647 →
    Ev (fun k => residue_Divisors.l1 k (toI (cur ++ rest.map (· * P))) (toI low) (P : Int) x16 x17 x18 x25 (wrap64 (x26 + 1)) a b) r →
    Ev (fun k => residue_Divisors.l2 k (toI cur) (toI low) (P : Int) x16 x17 x18 x25 x26 (toI low) ((toI low).length : Int) (pre.length : Int) a b) r
  | [], pre, cur, hp, hc, h => by
    obtain ⟨K, hK⟩ := h
    refine ⟨K + 1, fun k hk => ?_⟩
    obtain ⟨j, rfl, hj⟩ := ex_succ hk
    have h1 := hK j hj
    simp only [residue_Divisors.l2]
    rw [List.append_nil] at hp
    subst hp
    rw [if_neg (by rw [toI_len]; omega)]
    simpa using h1
  | y :: rest, pre, cur, hp, hc, h => by
    obtain ⟨K, hK⟩ := div_l2 low P x16 x17 x18 x25 x26 a b r hlow hl rest (pre ++ [y]) (cur ++ [y * P]) (by rw [List.append_assoc]; exact hp) (by simp at hc ⊢; omega) (by
      simpa [List.append_assoc] using h)
    refine ⟨K + 1, fun k hk => ?_⟩
    obtain ⟨j, rfl, hj⟩ := ex_succ hk
    have h1 := hK j hj
    have hlen : pre.length < low.length := by rw [← hp]; simp
    have hy := hlow y (by rw [← hp]; simp)
    simp only [residue_Divisors.l2]
    rw [List.length_cons] at hc
    rw [if_pos (by rw [toI_len]; omega), if_pos (by omega), if_pos (by rw [toI_len]; omega), if_pos (by rw [toI_len]; omega)]
    have e : rd (toI low) (pre.length : Int) = (y : Int) := by rw [← hp]; exact rd_toI pre y rest
    rw [e, ← Int.natCast_mul, wrap_id (x := ((y * P : Nat) : Int)) (by omega) (by omega), wrap_id (x := (pre.length : Int) + 1) (by omega) (by omega)]
    rw [toI_append, toI_one, List.length_append, List.length_singleton] at h1
    exact h1
theorem div_l1 (low : List Nat) (p e : Nat) (hp : 2 ≤ p) (x16 : List S53) (x17 x18 : Int) (r : List Int × Int) (hlow : ∀ y ∈ low, 1 ≤ y ∧ y * p ^ e ≤ 2147483647) (hl : (e + 1) * low.length ≤ 2147483647) (h1 : low ≠ [])
    (h : Ev (fun k => residue_Divisors.l0 k (toI (dstep low (p, e))) x16 x17 (wrap64 (x18 + 1))) r) : ∀ (d c : Nat), c + d = e →
    Ev (fun k => residue_Divisors.l1 k (toI (dstep low (p, c))) (toI low) ((p ^ c : Nat) : Int) x16 x17 x18 (e : Int) (c : Int) (p : Int) (e : Int)) r
  | 0, c, hc => by
    obtain ⟨K, hK⟩ := h
    refine ⟨K + 1, fun k hk => ?_⟩
    obtain ⟨j, rfl, hj⟩ := ex_succ hk
    have h1 := hK j hj
    simp only [residue_Divisors.l1]
    obtain rfl : c = e := by omega
    rw [if_neg (by omega)]
    exact h1
  | d + 1, c, hc => by
    obtain ⟨y0, hy0⟩ := List.exists_mem_of_ne_nil low h1
    have hpe : ∀ j, j ≤ e → p ^ j ≤ p ^ e := fun j hj => Nat.pow_le_pow_right (by omega) hj
    have hP : p ^ (c + 1) ≤ 2147483647 := by
      have h2 := hlow y0 hy0
      have h3 := hpe (c + 1) (by omega)
      have h4 : 1 * p ^ e ≤ y0 * p ^ e := Nat.mul_le_mul_right _ h2.1
      omega
    have hdl : ∀ j, (dstep low (p, j)).length = (j + 1) * low.length := fun j => by
      induction j with
      | zero => rw [dstep_zero]; simp
      | succ j ih => rw [dstep_succ, List.length_append, ih, List.length_map, Nat.succ_mul (j + 1)]
    have hcl : (c + 1) * low.length + low.length ≤ 2147483647 := by
      have : (c + 2) * low.length ≤ (e + 1) * low.length := Nat.mul_le_mul_right _ (by omega)
      rw [show c + 2 = c + 1 + 1 from rfl, Nat.succ_mul (c + 1)] at this
      omega
    have ih := div_l1 low p e hp x16 x17 x18 r hlow hl h1 h d (c + 1) (by omega)
    rw [dstep_succ] at ih
    have he : e ≤ 2147483647 := by
      have : 0 < low.length := List.length_pos_iff.2 h1
      have : (e + 1) * 1 ≤ (e + 1) * low.length := Nat.mul_le_mul_left _ this
      omega
    obtain ⟨K, hK⟩ := div_l2 low (p ^ (c + 1)) x16 x17 x18 (e : Int) (c : Int) (p : Int) (e : Int) r (fun y hy => Nat.le_trans (Nat.mul_le_mul_left _ (hpe _ (by omega))) (hlow y hy).2) (by omega) low [] (dstep low (p, c)) rfl (by rw [hdl]; omega) (by
      rw [wrap_id (x := (c : Int) + 1) (by omega) (by omega)]
      exact ih)
    refine ⟨K + 1, fun k hk => ?_⟩
    obtain ⟨j, rfl, hj⟩ := ex_succ hk
    have h2 := hK j hj
    simp only [residue_Divisors.l1]
    have hpc : p ^ c * p = p ^ (c + 1) := (Nat.pow_succ _ _).symm
    rw [if_pos (by omega), ← Int.natCast_mul, hpc, wrap_id (x := ((p ^ (c + 1) : Nat) : Int)) (by omega) (by omega)]
    exact h2
theorem toI_sort (L : List Nat) : (toI L).mergeSort (fun x y => decide (x ≤ y)) = toI (L.mergeSort fun a b => decide (a ≤ b)) := by
  unfold toI
  rw [List.map_mergeSort]
  intro a _ b _
  simp
theorem dl_bounds {l : List (Nat × Nat)} (h : Pfx l) : (∀ y ∈ dl l, 1 ≤ y ∧ y ≤ prodL l) ∧ (dl l).length ≤ prodL l := by
  have h1 : ∀ y ∈ dl l, 1 ≤ y ∧ y ≤ prodL l := fun y hy => by
    have hd := (mem_dl l h y).1 hy
    have h0 := prodL_pos h.prm
    exact ⟨Nat.pos_of_dvd_of_pos hd h0, Nat.le_of_dvd h0 hd⟩
  exact ⟨h1, nodup_len (dl_nodup l h) h1⟩
theorem dl_ne {l : List (Nat × Nat)} (h : Pfx l) : dl l ≠ [] := List.ne_nil_of_mem ((mem_dl l h 1).2 (Nat.one_dvd _))
theorem dstep_len (low : List Nat) (p j : Nat) : (dstep low (p, j)).length = (j + 1) * low.length := by
  induction j with
  | zero => rw [dstep_zero]; simp
  | succ j ih => rw [dstep_succ, List.length_append, ih, List.length_map, Nat.succ_mul (j + 1)]
theorem div_loop (N : Nat) (hN : N ≤ 2147483647) : ∀ (rest pre : List (Nat × Nat)), FacL (pre ++ rest) N → Ev (fun k => residue_Divisors.l0 k (toI (dl pre)) ((pre ++ rest).map toS) ((((pre ++ rest).map toS).length : Nat) : Int) (pre.length : Int)) (toI ((dl (pre ++ rest)).mergeSort fun a b => decide (a ≤ b)), 0)
  | [], pre, hf => by
    refine ⟨1, fun k hk => ?_⟩
    obtain ⟨j, rfl, hj⟩ := ex_succ hk
    simp only [residue_Divisors.l0]
    have hb := dl_bounds hf.pfx
    rw [List.append_nil] at hf ⊢
    rw [hf.prod] at hb
    rw [if_neg (by simp)]
    unfold slices_Sort_int_int.f
    rw [if_pos (by rw [toI_len]; omega), Option.bind_some, toI_sort]
  | q :: rest, pre, hf => by
    have hf2 : FacL ((pre ++ [q]) ++ rest) N := by rw [List.append_assoc]; exact hf
    have hp := hf2.pfx
    have hb := dl_bounds hp.init
    have hb2 := dl_bounds hp
    have hq := hp.last
    have hlen := len_lt hf.prm
    rw [hf.prod] at hlen
    have hlen2 : pre.length < (pre ++ q :: rest).length := by simp
    have hdv : prodL (pre ++ [q]) ≤ N := Nat.le_of_dvd hf.pos ⟨prodL rest, by rw [← prodL_append]; exact hf2.prod.symm⟩
    have hdv0 : prodL pre ≤ prodL (pre ++ [q]) := by
      rw [prodL_snoc]; exact Nat.le_mul_of_pos_right _ (Nat.pow_pos (prm_pos hq.1))
    have ih := div_loop N hN rest (pre ++ [q]) hf2
    rw [dl_snoc] at hb2
    have hlen3 := dstep_len (dl pre) q.1 q.2
    rw [show ((q.1, q.2) : Nat × Nat) = q from rfl] at hlen3
    obtain ⟨K, hK⟩ := div_l1 (dl pre) q.1 q.2 hq.1.1 ((pre ++ q :: rest).map toS) ((((pre ++ q :: rest).map toS).length : Nat) : Int) (pre.length : Int) (toI ((dl (pre ++ q :: rest)).mergeSort fun a b => decide (a ≤ b)), 0) (fun y hy => ⟨(hb.1 y hy).1, by
        have h2 := hb2.1 (y * q.1 ^ q.2) (mem_dstep.2 ⟨q.2, Nat.le_refl _, y, hy, rfl⟩)
        omega⟩) (by omega) (dl_ne hp.init) (by
        rw [wrap_id (x := (pre.length : Int) + 1) (by omega) (by omega)]
        rw [dl_snoc, List.append_assoc, List.singleton_append, List.length_append, List.length_singleton] at ih
        exact ih) q.2 0 (by omega)
    refine ⟨K + 1, fun k hk => ?_⟩
    obtain ⟨j, rfl, hj⟩ := ex_succ hk
    have h2 := hK j hj
    simp only [residue_Divisors.l0]
    rw [if_pos (by rw [List.length_map]; omega), if_pos (by omega), if_pos (by rw [List.length_map]; omega), rd_at]
    simp only [toS_f0, toS_f1]
    unfold slices_Clone_int_int.f
    rw [if_pos (by rw [toI_len]; omega), Option.bind_some]
    rw [dstep_zero, Nat.pow_zero] at h2
    exact h2
theorem Divisors_spec {n : Nat} (h0 : 0 < n) (hN : n ≤ 2147483647) : Ev (fun k => residue_Divisors.f k (n : Int)) (toI (divs n), 0) := by
  obtain ⟨K, hK⟩ := factor_spec h0 hN
  obtain ⟨K2, hK2⟩ := div_loop n hN (fac n) [] (fac_spec h0)
  dsimp only at hK hK2
  refine ⟨K + K2, fun k hk => ?_⟩
  simp only [residue_Divisors.f]
  rw [bad_one (by omega) (by omega), Option.bind_some, if_neg (by simp), hK k (by omega), Option.bind_some]
  exact hK2 k (by omega)
theorem Divisors_bad (m : Int) (h : ¬ (1 ≤ m ∧ m ≤ 2147483647)) (k : Nat) : residue_Divisors.f k m = some ([], 3) := by
  simp only [residue_Divisors.f]
  rw [bad_one' h]
  rfl

/-! Moebius's function -/
theorem moeb_loop (N : Nat) (hN : N ≤ 2147483647) : ∀ (rest pre : List (Nat × Nat)) (s : Int), FacL (pre ++ rest) N → -1 ≤ s → s ≤ 1 → Ev (fun k => residue_Moebius.l0 k s ((pre ++ rest).map toS) ((((pre ++ rest).map toS).length : Nat) : Int) (pre.length : Int)) (muA s rest, 0)
  | [], pre, s, hf, h1, h2 => by
    refine ⟨1, fun k hk => ?_⟩
    obtain ⟨j, rfl, hj⟩ := ex_succ hk
    simp only [residue_Moebius.l0]
    rw [if_neg (by simp)]
    rfl
  | q :: rest, pre, s, hf, h1, h2 => by
    have hlen := len_lt hf.prm
    rw [hf.prod] at hlen
    have hlen2 : pre.length < (pre ++ q :: rest).length := by simp
    obtain ⟨K, hK⟩ := moeb_loop N hN rest (pre ++ [q]) (-s) (by rw [List.append_assoc]; exact hf) (by omega) (by omega)
    dsimp only at hK
    rw [List.append_assoc, List.singleton_append, List.length_append, List.length_singleton] at hK
    refine ⟨K + 1, fun k hk => ?_⟩
    obtain ⟨j, rfl, hj⟩ := ex_succ hk
    have h3 := hK j hj
    simp only [residue_Moebius.l0]
    rw [if_pos (by rw [List.length_map]; omega), if_pos (by omega), if_pos (by rw [List.length_map]; omega), rd_at]
    simp only [toS_f1, muA]
    by_cases hq : 1 < q.2
    · rw [if_pos (by omega), if_pos hq]
    · rw [if_neg (by omega), if_neg hq, wrap_id (x := -s) (by omega) (by omega), wrap_id (x := (pre.length : Int) + 1) (by omega) (by omega)]
      exact h3
theorem Moebius_spec {n : Nat} (h0 : 0 < n) (hN : n ≤ 2147483647) : Ev (fun k => residue_Moebius.f k (n : Int)) (moeb n, 0) := by
  obtain ⟨K, hK⟩ := factor_spec h0 hN
  obtain ⟨K2, hK2⟩ := moeb_loop n hN (fac n) [] 1 (fac_spec h0) (by omega) (by omega)
  dsimp only at hK hK2
  refine ⟨K + K2, fun k hk => ?_⟩
  simp only [residue_Moebius.f]
  rw [bad_one (by omega) (by omega), Option.bind_some, if_neg (by simp), hK k (by omega), Option.bind_some]
  exact hK2 k (by omega)
theorem Moebius_bad (m : Int) (h : ¬ (1 ≤ m ∧ m ≤ 2147483647)) (k : Nat) : residue_Moebius.f k m = some (0, 3) := by
  simp only [residue_Moebius.f]
  rw [bad_one' h]
  rfl
theorem IsPrime_prog {n : Nat} (h0 : 0 < n) (hM : n ≤ 2147483647) : ∃ b : Bool, (b = true ↔ Prm n) ∧ Ev (fun k => residue_IsPrime.f k (n : Int)) (b, 0) := by
  obtain ⟨b, hb, K, hK⟩ := prime_spec h0 hM
  dsimp only at hK
  refine ⟨b, hb, K, fun k hk => ?_⟩
  simp only [residue_IsPrime.f]
  rw [bad_one (by omega) (by omega), Option.bind_some, if_neg (by simp), hK k hk, Option.bind_some]
end Go.Proofs.Ytmedflaejnbkoaa.Q

/- Machine side and arithmetic of the law, put together by a program of the session. No conditions. -/
import Derived.WalkKit
import Derived.WalkSmall
import Derived.KernelRfl
import Derived.Test.YtalnaafmonmlmaaKF0
import Derived.Test.YtalnaafmonmlmaaKF12
section
namespace Go.Proofs.Ytalnaafmonmlmaa.Q
open Go.RowKit Go.Proofs.YtalnaafmonmlmaaW.PrintWords Go.Proofs.YtalnaafmonmlmaaW.PrintLast Go.Proofs.YtalnaafmonmlmaaW.PrintMore
set_option maxRecDepth 100000 in
theorem awake_ge (k : Nat) : l15awake.f (k + 60) = some true := by kernel_rfl
theorem awake_ev : Ev l15awake.f true := ⟨60, fun k hk => by
 obtain ⟨j, rfl⟩ : ∃ j, k = j + 60 := ⟨k - 60, by omega⟩
 exact awake_ge j⟩
end Go.Proofs.Ytalnaafmonmlmaa.Q
end
section
namespace Go.Proofs.Ytalnaafmonmlmaa.Q
open Go.RowKit Go.Proofs.YtalnaafmonmlmaaW.PrintWords Go.Proofs.YtalnaafmonmlmaaW.PrintLast Go.Proofs.YtalnaafmonmlmaaW.PrintMore Go.Proofs.Ytalnaafmonmlmaa.M Go.Proofs.Ytalnaafmonmlmaa.M.ZX
set_option linter.unusedVariables false
set_option linter.unusedSimpArgs false
theorem wrap_id {x : Int} (h0 : -9223372036854775808 ≤ x) (h1 : x ≤ 9223372036854775807) : wrap64 x = x := by unfold wrap64; omega
theorem ex_succ {K k : Nat} (h : K + 1 ≤ k) : ∃ j, k = j + 1 ∧ K ≤ j := ⟨k - 1, by omega, by omega⟩
theorem mul_lt_w {a b : Int} (ha0 : 0 ≤ a) (ha : a ≤ 2147483647) (hb0 : 0 ≤ b) (hb : b ≤ 2147483647) : 0 ≤ a * b ∧ a * b ≤ 4611686014132420609 :=
 ⟨Int.mul_nonneg ha0 hb0, Int.mul_le_mul ha hb hb0 (by omega)⟩
theorem mod_spec {a m : Int} (hm : 0 < m) (hM : m ≤ 2147483647) : fp_Mod.f m a = some (a % m) := by
 unfold fp_Mod.f
 rw [if_neg (by omega)]
 have h1 := Int.tmod_eq_emod (a := a) (b := m)
 have h2 := Int.emod_nonneg a (b := m) (by omega)
 have h3 := Int.emod_lt_of_pos a hm
 by_cases hc : 0 ≤ a ∨ m ∣ a
 ·rw [if_pos hc] at h1
  rw [if_neg (by omega), h1]
  simp
 ·rw [if_neg hc] at h1
  have h0 : a % m ≠ 0 := fun h => hc (.inr (Int.dvd_of_emod_eq_zero h))
  rw [if_pos (by omega), h1, wrap_id (by omega) (by omega)]
  congr 1
  omega
theorem Mod_spec {a m : Int} (hm : 0 < m) (hM : m ≤ 2147483647) : r4Mod.f a m = some (a % m) := by
 unfold r4Mod.f
 rw [if_neg (by omega)]
 have h1 := Int.tmod_eq_emod (a := a) (b := m)
 have h2 := Int.emod_nonneg a (b := m) (by omega)
 have h3 := Int.emod_lt_of_pos a hm
 have h4 : 0 ≤ Int.tmod a m + m := by split at h1 <;> omega
 rw [wrap_id (by omega) (by split at h1 <;> omega), Int.tmod_eq_emod_of_nonneg h4]
 congr 1
 rw [h1, Int.add_emod_right]
 split
 ·simp
 ·rw [Int.natAbs_of_nonneg (by omega), Int.sub_emod_right, Int.emod_emod]
theorem rd_nat (l : List Int) (i : Nat) : rd l (i : Int) = l.getD i 0 := by unfold rd; rw [Int.toNat_natCast]
theorem mx_nat (a b : Nat) : mx (a : Int) (b : Int) = ((max a b : Nat) : Int) := by unfold mx; split <;> omega
theorem take_snoc {l : List Int} {n : Nat} (h : n < l.length) : l.take (n + 1) = l.take n ++ [l.getD n 0] := by
 rw [List.take_succ_eq_append_getElem h, List.getD_eq_getElem?_getD, List.getElem?_eq_getElem h, Option.getD_some]
theorem succ_wrap {i : Nat} (h : i ≤ 2147483647) : wrap64 ((i : Int) + 1) = ((i + 1 : Nat) : Int) := by rw [wrap_id (by omega) (by omega)]; omega
theorem dvd_emod_sub (p : Nat) (x : Int) : (p : Int) ∣ x % p - x := by
 have h := Int.mul_ediv_add_emod x p
 exact ⟨- (x / p), by rw [Int.mul_neg]; omega⟩
theorem fp_Trim_loop (l : List Int) (hl : l.length ≤ 1000000) : ∀ n : Nat, n ≤ l.length → Ev (fun k => fp_Trim.l0 k l (n : Int)) (tr (l.take n))
 | 0, _ => ⟨1, fun k hk => by
   obtain ⟨j, rfl, _⟩ := ex_succ hk
   simp only [fp_Trim.l0]
   rw [if_neg (by omega), if_pos (by omega), if_pos (by omega)]
   simp [tr]⟩
 | n + 1, h => by
  obtain ⟨K, ih⟩ := fp_Trim_loop l hl n (by omega)
  dsimp only at ih
  refine ⟨K + 1, fun k hk => ?_⟩
  obtain ⟨j, rfl, hj⟩ := ex_succ hk
  have e : wrap64 (((n + 1 : Nat) : Int) - 1) = (n : Int) := by rw [wrap_id (by omega) (by omega)]; omega
  simp only [fp_Trim.l0]
  rw [if_pos (by omega), e, if_pos (by omega), if_pos (by omega), rd_nat]
  by_cases hc : l.getD n 0 = 0
  ·rw [if_pos hc, ih j hj, take_snoc (by omega), hc, tr_snoc_zero]
  ·rw [if_neg hc, if_pos (by omega), if_pos (by omega), Int.toNat_natCast, take_snoc (by omega), tr_snoc_ne _ hc]
theorem fp_Trim_spec (l : List Int) (hl : l.length ≤ 1000000) : Ev (fun k => fp_Trim.f k l) (tr l) := by
 have := fp_Trim_loop l hl l.length (Nat.le_refl _)
 rwa [List.take_length] at this
theorem ref_Trim_spec : ∀ (n : Nat) (l : List Int), l.length = n → l.length ≤ 1000000 → Ev (fun k => r9Trim.f k l) (tr l)
 | 0, l, h, _ => ⟨1, fun k hk => by
   obtain ⟨j, rfl, _⟩ := ex_succ hk
   simp only [r9Trim.f, r9Trim.l0]
   rw [if_neg (by omega), List.eq_nil_of_length_eq_zero h]
   rfl⟩
 | n + 1, l, h, hl => by
  obtain ⟨K, ih⟩ := ref_Trim_spec n (l.take n) (by rw [List.length_take]; omega) (by rw [List.length_take]; omega)
  dsimp only [r9Trim.f] at ih
  refine ⟨K + 1, fun k hk => ?_⟩
  obtain ⟨j, rfl, hj⟩ := ex_succ hk
  have e : wrap64 ((l.length : Int) - 1) = (n : Int) := by rw [wrap_id (by omega) (by omega)]; omega
  have hs : l = l.take n ++ [l.getD n 0] := by rw [← take_snoc (by omega), ← h, List.take_length]
  simp only [r9Trim.f, r9Trim.l0]
  rw [if_pos (by omega), e, if_pos (by omega), if_pos (by omega), rd_nat]
  by_cases hc : l.getD n 0 = 0
  ·rw [if_pos hc, if_pos (by omega), Int.toNat_natCast, ih j hj]
   conv => rhs; rw [hs, hc, tr_snoc_zero]
  ·rw [if_neg hc, hs, tr_snoc_ne _ hc]
theorem tr_eq_nf {p : Nat} (hp : 0 < p) {l : List Int} {x : ZX} (h : ∀ j, j < l.length → 0 ≤ l.getD j 0 ∧ l.getD j 0 < p) (h2 : Cg p 0 (P l) x) : tr l = nf p x :=
 nf_eq hp (tr_nl h) (by rw [P_tr]; exact h2)
theorem cg_lin {p : Nat} {f : ZX} {l a b : List Int} (s t : Int) (h : ∀ j, (p : Int) ∣ l.getD j 0 - (s * a.getD j 0 + t * b.getD j 0)) : Cg p f (P l) (C s * P a + C t * P b) := by
 rw [← P_scale, ← P_scale, ← P_ladd]
 refine cg_of_getD fun i => ?_
 rw [getD_ladd]
 have e : ∀ (c : Int) (m : List Int), (m.map (c * ·)).getD i 0 = c * m.getD i 0 := by
  intro c m
  rw [List.getD_eq_getElem?_getD, List.getD_eq_getElem?_getD, List.getElem?_map]
  cases m[i]? <;> simp
 rw [e, e]
 exact h i
theorem lin_nf {p : Nat} (hp : 0 < p) {l a b : List Int} (s t : Int) (h : ∀ j, l.getD j 0 = (s * a.getD j 0 + t * b.getD j 0) % p) : tr l = nf p (C s * P a + C t * P b) := by
 refine tr_eq_nf hp (fun j hj => ?_) (cg_lin s t fun j => ?_)
 ·rw [h]; exact ⟨Int.emod_nonneg _ (by omega), Int.emod_lt_of_pos _ (by omega)⟩
 ·rw [h]; exact dvd_emod_sub _ _
theorem at_nat (l : List Int) (i : Nat) : fp_at.f l (i : Int) = some (l.getD i 0) := by
 unfold fp_at.f
 by_cases h : i < l.length
 ·rw [if_pos (by omega), if_pos (by omega), rd_nat]
 ·rw [if_neg (by omega), getD_of_len (by omega)]
theorem full {p : Nat} {l a b : List Int} {n : Nat} {s t : Int} (hl : l.length = n) (ha : a.length ≤ n) (hb : b.length ≤ n) (h : ∀ j, j < n → l.getD j 0 = (s * a.getD j 0 + t * b.getD j 0) % p) : ∀ j, l.getD j 0 = (s * a.getD j 0 + t * b.getD j 0) % p := fun j => by
 rcases Nat.lt_or_ge j n with h1 | h1
 ·exact h j h1
 ·rw [getD_of_len (l := l) (by omega), getD_of_len (l := a) (by omega), getD_of_len (l := b) (by omega)]; simp
theorem set_step {p : Nat} {l a b : List Int} {i : Nat} {s t : Int} (hi : i < l.length) (h : ∀ j, j < i → l.getD j 0 = (s * a.getD j 0 + t * b.getD j 0) % p) : ∀ j, j < i + 1 → (l.set i ((s * a.getD i 0 + t * b.getD i 0) % p)).getD j 0 = (s * a.getD j 0 + t * b.getD j 0) % p := fun j hj => by
 rw [getD_set _ _ _ _ hi]
 split
 ·rename_i e; rw [e]
 ·exact h j (by omega)
theorem ref_Copy_spec (l : List Int) (h : l.length ≤ 1000000) : r9Copy.f l = some l := by
 unfold r9Copy.f
 rw [Option.bind_some, if_pos (by simp; omega), List.nil_append]
section
variable {p : Nat} (hp : 0 < p) (hP : p ≤ 65521)
include hp hP
theorem fp_Sub_loop (a b : List Int) (ha : NL p a) (hb : NL p b) (n : Nat) (hn : n ≤ 1000000) : ∀ (d i : Nat) (l : List Int), i + d = n → l.length = n → (∀ j, j < i → l.getD j 0 = (1 * a.getD j 0 + (-1) * b.getD j 0) % p) →
  ∃ l', l'.length = n ∧ (∀ j, j < n → l'.getD j 0 = (1 * a.getD j 0 + (-1) * b.getD j 0) % p) ∧ Ev (fun k => fp_Sub.l0 k p a b l (n : Int) (i : Int)) (tr l')
 | 0, i, l, hi, hl, h => by
  obtain ⟨K, hK⟩ := fp_Trim_spec l (by omega)
  dsimp only at hK
  refine ⟨l, hl, fun j hj => h j (by omega), K + 1, fun k hk => ?_⟩
  obtain ⟨j, rfl, hj⟩ := ex_succ hk
  simp only [fp_Sub.l0]
  rw [if_neg (by omega), hK j hj]
  rfl
 | d + 1, i, l, hi, hl, h => by
  have h1 := ha.getD hp i
  have h2 := hb.getD hp i
  obtain ⟨l', e1, e2, K, hK⟩ := fp_Sub_loop a b ha hb n hn d (i + 1) (l.set i ((1 * a.getD i 0 + (-1) * b.getD i 0) % p)) (by omega) (by rw [List.length_set]; exact hl) (set_step (by omega) h)
  dsimp only at hK
  refine ⟨l', e1, e2, K + 1, fun k hk => ?_⟩
  obtain ⟨j, rfl, hj⟩ := ex_succ hk
  have e3 : (a.getD i 0 + (p : Int) - b.getD i 0) % p = (1 * a.getD i 0 + (-1) * b.getD i 0) % p := by
   rw [show a.getD i 0 + (p : Int) - b.getD i 0 = (1 * a.getD i 0 + (-1) * b.getD i 0) + p by omega, Int.add_emod_right]
  simp only [fp_Sub.l0]
  rw [if_pos (by omega), at_nat, at_nat, Option.bind_some, Option.bind_some, if_neg (by omega), if_pos (by omega), if_pos (by omega), Int.toNat_natCast, succ_wrap (by omega), wrap_id (x := a.getD i 0 + (p : Int)) (by omega) (by omega), wrap_id (by omega) (by omega), Int.tmod_eq_emod_of_nonneg (by omega), e3]
  exact hK j hj
theorem fp_Sub_spec {a b : List Int} (ha : NL p a) (hb : NL p b) (hla : a.length ≤ 1000000) (hlb : b.length ≤ 1000000) : Ev (fun k => fp_Sub.f k p a b) (nf p (P a - P b)) := by
 obtain ⟨l', e1, e2, K, hK⟩ := fp_Sub_loop hp hP a b ha hb (max a.length b.length) (by omega) (max a.length b.length) 0 (List.replicate (max a.length b.length) 0) (by omega) (by rw [List.length_replicate]) (fun j hj => by omega)
 dsimp only at hK
 refine ⟨K, fun k hk => ?_⟩
 simp only [fp_Sub.f]
 rw [mx_nat, if_pos (by omega), Int.toNat_natCast, if_pos (by omega), Option.bind_some, List.length_replicate]
 refine (hK k hk).trans ?_
 rw [lin_nf hp 1 (-1) (full e1 (by omega) (by omega) e2)]
 congr 2
 exact ZX.zr
theorem fp_Scale_loop (a : List Int) (c : Int) (ha : NL p a) (hc : 0 ≤ c ∧ c ≤ 2147483647) (hn : a.length ≤ 1000000) : ∀ (d i : Nat) (l : List Int), i + d = a.length → l.length = a.length → (∀ j, j < i → l.getD j 0 = (c * a.getD j 0 + 0 * a.getD j 0) % p) →
  ∃ l', l'.length = a.length ∧ (∀ j, j < a.length → l'.getD j 0 = (c * a.getD j 0 + 0 * a.getD j 0) % p) ∧ Ev (fun k => fp_Scale.l0 k p c l a (a.length : Int) (i : Int)) (tr l')
 | 0, i, l, hi, hl, h => by
  obtain ⟨K, hK⟩ := fp_Trim_spec l (by omega)
  dsimp only at hK
  refine ⟨l, hl, fun j hj => h j (by omega), K + 1, fun k hk => ?_⟩
  obtain ⟨j, rfl, hj⟩ := ex_succ hk
  simp only [fp_Scale.l0]
  rw [if_neg (by omega), hK j hj]
  rfl
 | d + 1, i, l, hi, hl, h => by
  have h1 := ha.getD hp i
  have h2 := mul_lt_w (a := a.getD i 0) (b := c) (by omega) (by omega) (by omega) (by omega)
  obtain ⟨l', e1, e2, K, hK⟩ := fp_Scale_loop a c ha hc hn d (i + 1) (l.set i ((c * a.getD i 0 + 0 * a.getD i 0) % p)) (by omega) (by rw [List.length_set]; exact hl) (set_step (by omega) h)
  dsimp only at hK
  refine ⟨l', e1, e2, K + 1, fun k hk => ?_⟩
  obtain ⟨j, rfl, hj⟩ := ex_succ hk
  have e3 : a.getD i 0 * c % p = (c * a.getD i 0 + 0 * a.getD i 0) % p := by rw [Int.zero_mul, Int.add_zero, Int.mul_comm]
  simp only [fp_Scale.l0]
  rw [if_pos (by omega), if_pos (by omega), if_pos (by omega), if_neg (by omega), if_pos (by omega), rd_nat, Int.toNat_natCast, succ_wrap (by omega), wrap_id (by omega) (by omega), Int.tmod_eq_emod_of_nonneg (by omega), e3]
  exact hK j hj
theorem fp_Scale_spec {a : List Int} {c : Int} (ha : NL p a) (hc : 0 ≤ c ∧ c ≤ 2147483647) (hla : a.length ≤ 1000000) : Ev (fun k => fp_Scale.f k p a c) (nf p (C c * P a)) := by
 obtain ⟨l', e1, e2, K, hK⟩ := fp_Scale_loop hp hP a c ha hc hla a.length 0 (List.replicate a.length 0) (by omega) (by rw [List.length_replicate]) (fun j hj => by omega)
 dsimp only at hK
 refine ⟨K, fun k hk => ?_⟩
 simp only [fp_Scale.f]
 rw [if_pos (by omega), Int.toNat_natCast, if_pos (by omega)]
 refine (hK k hk).trans ?_
 rw [lin_nf hp c 0 (full e1 (by omega) (by omega) e2)]
 congr 2
 exact ZX.zr
theorem ref_Add_loop (a b : List Int) (ha : NL p a) (hb : NL p b) (n : Nat) (hn : n ≤ 1000000) (hna : a.length ≤ n) (hnb : b.length ≤ n) : ∀ (d i : Nat) (l : List Int), i + d = n → l.length = n → (∀ j, i ≤ j → l.getD j 0 = 0) → (∀ j, j < i → l.getD j 0 = (1 * a.getD j 0 + 1 * b.getD j 0) % p) →
  ∃ l', l'.length = n ∧ (∀ j, j < n → l'.getD j 0 = (1 * a.getD j 0 + 1 * b.getD j 0) % p) ∧ Ev (fun k => r9Add.l0 k p a b l (i : Int)) (tr l')
 | 0, i, l, hi, hl, hz, h => by
  obtain ⟨K, hK⟩ := ref_Trim_spec _ l rfl (by omega)
  dsimp only at hK
  refine ⟨l, hl, fun j hj => h j (by omega), K + 1, fun k hk => ?_⟩
  obtain ⟨j, rfl, hj⟩ := ex_succ hk
  simp only [r9Add.l0]
  rw [if_neg (by omega), hK j hj]
  rfl
 | d + 1, i, l, hi, hl, hz, h => by
  have h1 := ha.getD hp i
  have h2 := hb.getD hp i
  have h0 := hz i (Nat.le_refl _)
  obtain ⟨l', e1, e2, K, hK⟩ := ref_Add_loop a b ha hb n hn hna hnb d (i + 1) (l.set i ((1 * a.getD i 0 + 1 * b.getD i 0) % p)) (by omega) (by rw [List.length_set]; exact hl) (fun j hj => by
   rw [getD_set _ _ _ _ (by omega), if_neg (by omega)]; exact hz j (by omega)) (set_step (by omega) h)
  dsimp only at hK
  refine ⟨l', e1, e2, K + 1, fun k hk => ?_⟩
  obtain ⟨j, rfl, hj⟩ := ex_succ hk
  have hKj := hK j hj
  have hset : ∀ x y : Int, ((l.set i x).set i y) = l.set i y := fun x y => List.set_set x
  have hrd : ∀ x : Int, rd (l.set i x) (i : Int) = x := fun x => by rw [rd_nat, getD_set _ _ _ _ (by omega), if_pos rfl]
  simp only [r9Add.l0]
  rw [if_pos (by omega), rd_nat, h0, succ_wrap (by omega), Int.toNat_natCast]
  simp only [rd_nat l, h0, Int.one_mul] at hKj ⊢
  by_cases ca : i < a.length
  ·rw [if_pos (by omega), if_pos (by omega), Option.bind_some, rd_nat, wrap_id (x := (0 : Int) + a.getD i 0) (by omega) (by omega), Int.zero_add]
   by_cases cb : i < b.length
   ·rw [if_pos (by omega), Option.bind_some, hrd, rd_nat, wrap_id (by omega) (by omega), if_neg (by omega), hset, hrd, hset, Int.tmod_eq_emod_of_nonneg (by omega)]
    exact hKj
   ·rw [getD_of_len (l := b) (by omega), Int.add_zero] at hKj
    rw [if_neg (by omega), if_neg (by omega), hrd, hset, Int.tmod_eq_emod_of_nonneg (by omega)]
    exact hKj
  ·rw [getD_of_len (l := a) (by omega)] at hKj
   rw [if_neg (by omega)]
   by_cases cb : i < b.length
   ·rw [if_pos (by omega), if_pos (by omega), Option.bind_some, rd_nat, wrap_id (x := (0 : Int) + b.getD i 0) (by omega) (by omega), if_neg (by omega), hrd, hset, Int.tmod_eq_emod_of_nonneg (by omega)]
    exact hKj
   ·rw [getD_of_len (l := b) (by omega)] at hKj
    rw [if_neg (by omega), if_pos (by omega), if_neg (by omega)]
    exact hKj
theorem ref_Add_spec {a b : List Int} (ha : NL p a) (hb : NL p b) (hla : a.length ≤ 1000000) (hlb : b.length ≤ 1000000) : Ev (fun k => r9Add.f k p a b) (nf p (P a + P b)) := by
 obtain ⟨l', e1, e2, K, hK⟩ := ref_Add_loop hp hP a b ha hb (max a.length b.length) (by omega) (by omega) (by omega) (max a.length b.length) 0 (List.replicate (max a.length b.length) 0) (by omega) (by rw [List.length_replicate]) (fun j _ => getD_zeros _ _) (fun j hj => by omega)
 dsimp only at hK
 refine ⟨K, fun k hk => ?_⟩
 simp only [r9Add.f]
 rw [mx_nat, if_pos (by omega), Int.toNat_natCast, if_pos (by omega)]
 refine (hK k hk).trans ?_
 rw [lin_nf hp 1 1 (full e1 (by omega) (by omega) e2)]
 congr 2
 exact ZX.zr
theorem ref_Scale_loop (a : List Int) (c : Int) (ha : NL p a) (hc : 0 ≤ c ∧ c < p) (hn : a.length ≤ 1000000) : ∀ (d i : Nat) (l : List Int), i + d = a.length → l.length = a.length → (∀ j, i ≤ j → l.getD j 0 = a.getD j 0) → (∀ j, j < i → l.getD j 0 = (c * a.getD j 0 + 0 * a.getD j 0) % p) →
  ∃ l', l'.length = a.length ∧ (∀ j, j < a.length → l'.getD j 0 = (c * a.getD j 0 + 0 * a.getD j 0) % p) ∧ Ev (fun k => r9Scale.l0 k p c l (i : Int)) (tr l')
 | 0, i, l, hi, hl, hz, h => by
  obtain ⟨K, hK⟩ := ref_Trim_spec _ l rfl (by omega)
  dsimp only at hK
  refine ⟨l, hl, fun j hj => h j (by omega), K + 1, fun k hk => ?_⟩
  obtain ⟨j, rfl, hj⟩ := ex_succ hk
  simp only [r9Scale.l0]
  rw [if_neg (by omega), hK j hj]
  rfl
 | d + 1, i, l, hi, hl, hz, h => by
  have h1 := ha.getD hp i
  have h2 := mul_lt_w (a := a.getD i 0) (b := c) (by omega) (by omega) (by omega) (by omega)
  obtain ⟨l', e1, e2, K, hK⟩ := ref_Scale_loop a c ha hc hn d (i + 1) (l.set i ((c * a.getD i 0 + 0 * a.getD i 0) % p)) (by omega) (by rw [List.length_set]; exact hl) (fun j hj => by
   rw [getD_set _ _ _ _ (by omega), if_neg (by omega)]; exact hz j (by omega)) (set_step (by omega) h)
  dsimp only at hK
  refine ⟨l', e1, e2, K + 1, fun k hk => ?_⟩
  obtain ⟨j, rfl, hj⟩ := ex_succ hk
  have e3 : a.getD i 0 * c % p = (c * a.getD i 0 + 0 * a.getD i 0) % p := by rw [Int.zero_mul, Int.add_zero, Int.mul_comm]
  simp only [r9Scale.l0]
  rw [if_pos (by omega), if_pos (by omega), if_neg (by omega), rd_nat, hz i (Nat.le_refl _), Int.toNat_natCast, succ_wrap (by omega), wrap_id (by omega) (by omega), Int.tmod_eq_emod_of_nonneg (by omega), e3]
  exact hK j hj
theorem ref_Scale_spec {a : List Int} (c : Int) (ha : NL p a) (hla : a.length ≤ 1000000) : Ev (fun k => r9Scale.f k p a c) (nf p (C c * P a)) := by
 have h1 := Int.emod_nonneg c (b := (p : Int)) (by omega)
 have h2 := Int.emod_lt_of_pos c (b := (p : Int)) (by omega)
 obtain ⟨l', e1, e2, K, hK⟩ := ref_Scale_loop hp hP a (c % p) ha ⟨h1, h2⟩ hla a.length 0 a (by omega) rfl (fun j _ => rfl) (fun j hj => by omega)
 dsimp only at hK
 refine ⟨K, fun k hk => ?_⟩
 simp only [r9Scale.f]
 rw [Mod_spec (by omega) (by omega), Option.bind_some, ref_Copy_spec a hla, Option.bind_some]
 refine (hK k hk).trans ?_
 rw [lin_nf hp (c % p) 0 (full e1 (by omega) (by omega) e2)]
 congr 1
 refine nf_cg hp (Cg.trans (Cg.of_eq ZX.zr) ((Cg.num_mod c).symm.mul (Cg.refl (P a))))
theorem ref_Sub_spec {a b : List Int} (ha : NL p a) (hb : NL p b) (hla : a.length ≤ 1000000) (hlb : b.length ≤ 1000000) : Ev (fun k => r9Sub.f k p a b) (nf p (P a - P b)) := by
 have hn := nf_spec hp (C (-1) * P b)
 have hl : (nf p (C (-1) * P b)).length ≤ 1000000 := nf_dg hp ((Dg.of_P hlb).scale _)
 obtain ⟨K, h⟩ := ref_Scale_spec hp hP (-1) hb hlb
 obtain ⟨K2, h2⟩ := ref_Add_spec hp hP ha hn.1 hla hl
 dsimp only at h h2
 refine ⟨K + K2, fun k hk => ?_⟩
 simp only [r9Sub.f]
 rw [h k (by omega), Option.bind_some, h2 k (by omega), Option.bind_some]
 congr 1
 refine nf_cg hp (Cg.trans ((Cg.refl _).add hn.2) (Cg.of_eq ZX.zr))
end
end Go.Proofs.Ytalnaafmonmlmaa.Q
end
section
namespace Go.Proofs.Ytalnaafmonmlmaa.Q
open Go.RowKit Go.Proofs.YtalnaafmonmlmaaW.PrintWords Go.Proofs.YtalnaafmonmlmaaW.PrintLast Go.Proofs.YtalnaafmonmlmaaW.PrintMore Go.Proofs.Ytalnaafmonmlmaa.M Go.Proofs.Ytalnaafmonmlmaa.M.ZX
set_option linter.unusedVariables false
set_option linter.unusedSimpArgs false
def res (a : Int) (m : Nat) : Nat := (a % (m : Int)).toNat
theorem res_cast (a : Int) {m : Nat} (hm : 0 < m) : ((res a m : Nat) : Int) = a % (m : Int) := Int.toNat_of_nonneg (Int.emod_nonneg _ (by omega))
theorem res_lt (a : Int) {m : Nat} (hm : 0 < m) : res a m < m := by
 have := res_cast a hm
 have := Int.emod_lt_of_pos a (b := (m : Int)) (by omega)
 omega
theorem mod_nat {a : Int} {m : Nat} (hm : 0 < m) (hM : m ≤ 2147483647) : fp_Mod.f (m : Int) a = some (res a m : Int) := by rw [mod_spec (by omega) (by omega), res_cast a hm]
theorem Mod_nat {a : Int} {m : Nat} (hm : 0 < m) (hM : m ≤ 2147483647) : r4Mod.f a (m : Int) = some (res a m : Int) := by rw [Mod_spec (by omega) (by omega), res_cast a hm]
structure Eu (m a r s : Nat) (x y : Int) : Prop where
 size : ∃ (X Y : Nat), r * Y + s * X = m ∧ ((x = X ∧ y = -(Y : Int)) ∨ (x = -(X : Int) ∧ y = Y))
 hx : (m : Int) ∣ x * a - r
 hy : (m : Int) ∣ y * a - s
 gcd : Nat.gcd r s = Nat.gcd m a
 le : r ≤ m
 les : s ≤ m
theorem Eu.start (m a : Nat) (ha : a ≤ m) : Eu m a m a 0 1 :=
 ⟨⟨0, 1, by simp, Or.inr ⟨by simp, rfl⟩⟩, ⟨-1, by simp⟩, ⟨0, by simp⟩, rfl, Nat.le_refl _, ha⟩
theorem Eu.step {m a r s : Nat} {x y : Int} (h : Eu m a r s x y) (hs : 0 < s) : Eu m a s (r % s) y (x - (r / s : Nat) * y) ∧ (-(m : Int) ≤ x ∧ x ≤ m ∧ -(m : Int) ≤ (r / s : Nat) * y ∧ (r / s : Nat) * y ≤ m ∧ -(m : Int) ≤ x - (r / s : Nat) * y ∧ x - (r / s : Nat) * y ≤ m) := by
 obtain ⟨⟨X, Y, hm, hxy⟩, hx, hy, hg, hle, hles⟩ := h
 have e1 : s * (X + r / s * Y) + r % s * Y = m := by
  have h1 := Nat.div_add_mod r s
  have h2 : r * Y = s * (r / s) * Y + r % s * Y := by rw [← Nat.add_mul, h1]
  rw [Nat.mul_add, ← Nat.mul_assoc]
  omega
 have e2 : X + r / s * Y ≤ m := by
  have : 1 * (X + r / s * Y) ≤ s * (X + r / s * Y) := Nat.mul_le_mul_right _ hs
  omega
 have hdx : (m : Int) ∣ (x - (r / s : Nat) * y) * a - (r % s : Nat) := by
  have h1 : (x - (r / s : Nat) * y) * a - (r % s : Nat) = (x * a - r) - (r / s : Nat) * (y * a - s) := by
   have h2 := Nat.div_add_mod r s
   have h3 : (r : Int) = (s : Int) * (r / s : Nat) + (r % s : Nat) := by rw [← Int.natCast_mul, ← Int.natCast_add, h2]
   rw [Int.sub_mul, Int.mul_sub, Int.mul_assoc, Int.mul_comm (s : Int)] at *
   omega
  rw [h1]
  exact Int.dvd_sub hx (Int.dvd_trans hy ⟨_, Int.mul_comm _ _⟩)
 have hq : ((r / s * Y : Nat) : Int) = (r / s : Nat) * (Y : Int) := Int.natCast_mul _ _
 refine ⟨⟨⟨Y, X + r / s * Y, e1, ?_⟩, hy, hdx, ?_, hles, Nat.le_trans (Nat.le_of_lt (Nat.mod_lt _ hs)) hles⟩, ?_⟩
 ·rcases hxy with ⟨rfl, rfl⟩ | ⟨rfl, rfl⟩
  ·right
   refine ⟨rfl, ?_⟩
   rw [Int.mul_neg, ← hq]
   omega
  ·left
   refine ⟨rfl, ?_⟩
   rw [← hq]
   omega
 ·rw [← hg, Nat.gcd_comm r s, Nat.gcd_rec s r, Nat.gcd_comm]
 ·rcases hxy with ⟨rfl, rfl⟩ | ⟨rfl, rfl⟩
  ·rw [Int.mul_neg, ← hq]
   omega
  ·rw [← hq]
   omega
theorem Eu.done {m a r : Nat} {x y : Int} (hm : 0 < m) (h : Eu m a r 0 x y) (hc : Nat.Coprime m a) : res x m < m ∧ a * res x m % m = 1 % m := by
 refine ⟨res_lt x hm, ?_⟩
 have hr : r = 1 := by
  have := h.gcd
  rw [Nat.gcd_zero_right] at this
  rw [this]
  exact hc
 have h1 := h.hx
 subst hr
 rw [one_mod_iff]
 have h2 : (m : Int) ∣ x - (res x m : Int) := by
  rw [res_cast x hm]
  exact ⟨x / m, by have := Int.mul_ediv_add_emod x m; omega⟩
 have h3 : ((a * res x m : Nat) : Int) - 1 = (x * a - (1 : Nat)) - (x - (res x m : Int)) * a := by
  rw [Int.natCast_mul, Int.sub_mul, Int.mul_comm (a : Int)]
  simp
  omega
 rw [h3]
 exact Int.dvd_sub h1 (Int.dvd_trans h2 ⟨_, rfl⟩)
theorem fp_Inv_loop {m a : Nat} (hm : 0 < m) (hM : m ≤ 2147483647) (hc : Nat.Coprime m a) : ∀ (s r : Nat) (x y : Int), Eu m a r s x y → ∃ v : Nat, v < m ∧ a * v % m = 1 % m ∧ Ev (fun k => fp_Inv.l0 k (m : Int) (r : Int) (s : Int) x y) (v : Int) := by
 intro s
 induction s using Nat.strongRecOn with
 | ind s ih =>
  intro r x y h
  rcases Nat.eq_zero_or_pos s with rfl | hs
  ·obtain ⟨h1, h2⟩ := h.done hm hc
   refine ⟨_, h1, h2, 1, fun k hk => ?_⟩
   obtain ⟨j, rfl, hj⟩ := ex_succ hk
   simp only [fp_Inv.l0]
   rw [if_neg (by omega), mod_nat hm hM]
   rfl
  ·obtain ⟨h1, b⟩ := h.step hs
   obtain ⟨v, hv1, hv2, K, hK⟩ := ih (r % s) (Nat.mod_lt _ hs) s _ _ h1
   dsimp only at hK
   refine ⟨v, hv1, hv2, K + 1, fun k hk => ?_⟩
   obtain ⟨j, rfl, hj⟩ := ex_succ hk
   have hle := h.le
   have hq0 : (0 : Int) ≤ ((r / s : Nat) : Int) := Int.natCast_nonneg _
   have hq : ((r / s : Nat) : Int) ≤ r := Int.ofNat_le.2 (Nat.div_le_self r s)
   have hKj := hK j hj
   have e1 : ((r / s : Nat) : Int) * s = (r : Int) - ((r % s : Nat) : Int) := by
    have h2 := Nat.div_add_mod r s
    have h3 : (s : Int) * (r / s : Nat) + (r % s : Nat) = r := by rw [← Int.natCast_mul, ← Int.natCast_add, h2]
    rw [Int.mul_comm] at h3
    omega
   have hlt := Nat.mod_lt r hs
   simp only [fp_Inv.l0]
   have hlt0 : (0 : Int) ≤ ((r % s : Nat) : Int) := Int.natCast_nonneg _
   have hlt1 : ((r % s : Nat) : Int) ≤ r := Int.ofNat_le.2 (Nat.mod_le r s)
   rw [if_pos (by omega), if_neg (by omega), Int.tdiv_eq_ediv_of_nonneg (by omega : (0 : Int) ≤ r), show (r : Int) / s = ((r / s : Nat) : Int) by simp]
   clear h h1 hK hlt
   generalize ((r / s : Nat) : Int) = q at *
   generalize ((r % s : Nat) : Int) = t at *
   rw [wrap_id (x := q) (by omega) (by omega), e1, wrap_id (x := (r : Int) - t) (by omega) (by omega), show (r : Int) - ((r : Int) - t) = t by omega, wrap_id (x := t) (by omega) (by omega), wrap_id (x := q * y) (by omega) (by omega), wrap_id (by omega) (by omega)]
   exact hKj
theorem Inverse_loop {m a : Nat} (hm : 0 < m) (hM : m ≤ 2147483647) (hc : Nat.Coprime m a) : ∀ (s r : Nat) (x y : Int), Eu m a r s x y → ∃ v : Nat, v < m ∧ a * v % m = 1 % m ∧ Ev (fun k => r4Inverse.l0 k (m : Int) (r : Int) (s : Int) x y) (v : Int) := by
 intro s
 induction s using Nat.strongRecOn with
 | ind s ih =>
  intro r x y h
  rcases Nat.eq_zero_or_pos s with rfl | hs
  ·obtain ⟨h1, h2⟩ := h.done hm hc
   refine ⟨_, h1, h2, 1, fun k hk => ?_⟩
   obtain ⟨j, rfl, hj⟩ := ex_succ hk
   simp only [r4Inverse.l0]
   rw [if_neg (by omega), Mod_nat hm hM]
   rfl
  ·obtain ⟨h1, b⟩ := h.step hs
   obtain ⟨v, hv1, hv2, K, hK⟩ := ih (r % s) (Nat.mod_lt _ hs) s _ _ h1
   dsimp only at hK
   refine ⟨v, hv1, hv2, K + 1, fun k hk => ?_⟩
   obtain ⟨j, rfl, hj⟩ := ex_succ hk
   have hle := h.le
   have hq0 : (0 : Int) ≤ ((r / s : Nat) : Int) := Int.natCast_nonneg _
   have hq : ((r / s : Nat) : Int) ≤ r := Int.ofNat_le.2 (Nat.div_le_self r s)
   have hKj := hK j hj
   have e1 : ((r / s : Nat) : Int) * s = (r : Int) - ((r % s : Nat) : Int) := by
    have h2 := Nat.div_add_mod r s
    have h3 : (s : Int) * (r / s : Nat) + (r % s : Nat) = r := by rw [← Int.natCast_mul, ← Int.natCast_add, h2]
    rw [Int.mul_comm] at h3
    omega
   have hlt := Nat.mod_lt r hs
   simp only [r4Inverse.l0]
   have hlt0 : (0 : Int) ≤ ((r % s : Nat) : Int) := Int.natCast_nonneg _
   have hlt1 : ((r % s : Nat) : Int) ≤ r := Int.ofNat_le.2 (Nat.mod_le r s)
   rw [if_pos (by omega), if_neg (by omega), Int.tdiv_eq_ediv_of_nonneg (by omega : (0 : Int) ≤ r), show (r : Int) / s = ((r / s : Nat) : Int) by simp]
   clear h h1 hK hlt
   generalize ((r / s : Nat) : Int) = q at *
   generalize ((r % s : Nat) : Int) = t at *
   rw [wrap_id (x := q) (by omega) (by omega), e1, wrap_id (x := (r : Int) - t) (by omega) (by omega), show (r : Int) - ((r : Int) - t) = t by omega, wrap_id (x := t) (by omega) (by omega), wrap_id (x := q * y) (by omega) (by omega), wrap_id (by omega) (by omega)]
   exact hKj
theorem prm_gcd {p : Nat} (hp : Prm p) {c : Int} (h0 : 0 < c) (h1 : c < p) : ∃ n : Nat, c = n ∧ Nat.Coprime p n ∧ n ≤ p := by
 obtain ⟨n, rfl⟩ := Int.eq_ofNat_of_zero_le (Int.le_of_lt h0)
 refine ⟨n, rfl, prm_cop hp fun h => ?_, by omega⟩
 have := Nat.le_of_dvd (by omega) h
 omega
theorem inv_dvd {p n v : Nat} (hp : Prm p) (h : n * v % p = 1 % p) : (p : Int) ∣ (v : Int) * n - 1 := by
 have := (one_mod_iff (m := p) (n * v)).1 h
 rwa [Int.natCast_mul, Int.mul_comm] at this
theorem fp_Inv_spec {p : Nat} (hp : Prm p) (hP : p ≤ 65521) {c : Int} (h0 : 0 < c) (h1 : c < p) : ∃ v : Int, 0 ≤ v ∧ v < p ∧ (p : Int) ∣ v * c - 1 ∧ Ev (fun k => fp_Inv.f k p c) v := by
 obtain ⟨n, rfl, hc, hn⟩ := prm_gcd hp h0 h1
 obtain ⟨v, e1, e2, e3⟩ := fp_Inv_loop (prm_pos hp) (by omega) hc n p 0 1 (Eu.start p n hn)
 exact ⟨v, by omega, by omega, inv_dvd hp e2, e3⟩
theorem ref_Inv_spec {p : Nat} (hp : Prm p) (hP : p ≤ 65521) {c : Int} (h0 : 0 < c) (h1 : c < p) : ∃ v : Int, 0 ≤ v ∧ v < p ∧ (p : Int) ∣ v * c - 1 ∧ Ev (fun k => r4Inverse.f k c p) v := by
 obtain ⟨n, rfl, hc, hn⟩ := prm_gcd hp h0 h1
 obtain ⟨v, e1, e2, K, e3⟩ := Inverse_loop (prm_pos hp) (by omega) hc n p 0 1 (Eu.start p n hn)
 dsimp only at e3
 refine ⟨v, by omega, by omega, inv_dvd hp e2, K, fun k hk => ?_⟩
 simp only [r4Inverse.f]
 rw [Mod_spec (by omega) (by omega), Option.bind_some, Int.emod_eq_of_lt (by omega) (by omega), e3 k hk]
section
variable {p : Nat} (hp : 0 < p) (hP : p ≤ 65521)
include hp hP
theorem fp_Mul_inner (a b : List Int) (ha : NL p a) (hb : NL p b) (i : Nat) (hi : i < a.length) (hla : a.length ≤ 1000000) (hlb : b.length ≤ 1000000) (r : List Int)
  (H : ∀ l, l.length + 1 = a.length + b.length → Res p l → Cg p 0 (P l) (P (a.take (i + 1)) * P b) → Ev (fun k => fp_Mul.l0 k p b l a (a.length : Int) ((i + 1 : Nat) : Int)) r) :
  ∀ (d j : Nat) (l : List Int), j + d = b.length → l.length + 1 = a.length + b.length → Res p l → Cg p 0 (P l) (P (a.take i) * P b + X ^ i * (C (a.getD i 0) * P (b.take j))) → Ev (fun k => fp_Mul.l1 k p b l (i : Int) (a.getD i 0) a (a.length : Int) (i : Int) b (b.length : Int) (j : Int)) r
 | 0, j, l, hj, hl, hr, hc => by
  obtain ⟨K, hK⟩ := H l hl hr (mul_next hi (by rwa [show j = b.length by omega] at hc))
  dsimp only at hK
  refine ⟨K + 1, fun k hk => ?_⟩
  obtain ⟨k', rfl, hk'⟩ := ex_succ hk
  simp only [fp_Mul.l1]
  rw [if_neg (by omega), succ_wrap (by omega)]
  exact hK k' hk'
 | d + 1, j, l, hj, hl, hr, hc => by
  have h1 := hr (i + j)
  have h2 := ha.getD hp i
  have h3 := hb.getD hp j
  have h4 := mul_lt_w (a := a.getD i 0) (b := b.getD j 0) (by omega) (by omega) (by omega) (by omega)
  obtain ⟨K, hK⟩ := fp_Mul_inner a b ha hb i hi hla hlb r H d (j + 1) (l.set (i + j) ((l.getD (i + j) 0 + a.getD i 0 * b.getD j 0) % p)) (by omega) (by rw [List.length_set]; exact hl) (hr.set (by omega) (Int.emod_nonneg _ (by omega)) (Int.emod_lt_of_pos _ (by omega))) (mul_step (by omega) (by omega) hc)
  dsimp only at hK
  refine ⟨K + 1, fun k hk => ?_⟩
  obtain ⟨k', rfl, hk'⟩ := ex_succ hk
  have hlt : i + j < l.length := by omega
  have e : wrap64 ((i : Int) + (j : Int)) = ((i + j : Nat) : Int) := by rw [wrap_id (by omega) (by omega)]; omega
  simp only [fp_Mul.l1]
  rw [e, if_pos (by omega), if_pos (by omega), if_pos (by omega), if_pos (Int.natCast_nonneg _), if_pos (Int.ofNat_lt.2 hlt), if_neg (by omega), rd_nat, rd_nat, Int.toNat_natCast, succ_wrap (by omega), wrap_id (x := a.getD i 0 * b.getD j 0) (by omega) (by omega), wrap_id (by omega) (by omega), Int.tmod_eq_emod_of_nonneg (by omega)]
  exact hK k' hk'
theorem fp_Mul_outer (a b : List Int) (ha : NL p a) (hb : NL p b) (hla : a.length ≤ 1000000) (hlb : b.length ≤ 1000000) (hb0 : 0 < b.length) : ∀ (d i : Nat) (l : List Int), i + d = a.length → l.length + 1 = a.length + b.length → l.length ≤ 1000000 → Res p l → Cg p 0 (P l) (P (a.take i) * P b) → Ev (fun k => fp_Mul.l0 k p b l a (a.length : Int) (i : Int)) (nf p (P a * P b))
 | 0, i, l, hi, hl, hll, hr, hc => by
  obtain ⟨K, hK⟩ := fp_Trim_spec l hll
  dsimp only at hK
  refine ⟨K + 1, fun k hk => ?_⟩
  obtain ⟨k', rfl, hk'⟩ := ex_succ hk
  simp only [fp_Mul.l0]
  rw [if_neg (by omega), hK k' hk', Option.bind_some, tr_eq_nf hp (fun j _ => hr j)]
  rwa [show i = a.length by omega, List.take_length] at hc
 | d + 1, i, l, hi, hl, hll, hr, hc => by
  obtain ⟨K, hK⟩ := fp_Mul_inner hp hP a b ha hb i (by omega) hla hlb (nf p (P a * P b)) (fun l' h1 h2 h3 => fp_Mul_outer a b ha hb hla hlb hb0 d (i + 1) l' (by omega) h1 (by omega) h2 h3) b.length 0 l (by omega) hl hr (by
   rw [List.take_zero, P_nil]
   exact hc.trans (Cg.of_eq ZX.zr))
  dsimp only at hK
  refine ⟨K + 1, fun k hk => ?_⟩
  obtain ⟨k', rfl, hk'⟩ := ex_succ hk
  simp only [fp_Mul.l0]
  rw [if_pos (by omega), if_pos (by omega), if_pos (by omega), rd_nat]
  exact hK k' hk'
theorem fp_Mul_spec {a b : List Int} (ha : NL p a) (hb : NL p b) (hla : a.length ≤ 500000) (hlb : b.length ≤ 500000) : Ev (fun k => fp_Mul.f k p a b) (nf p (P a * P b)) := by
 by_cases h0 : a.length = 0 ∨ b.length = 0
 ·have e : nf p (P a * P b) = [] := by
   refine (nf_eq hp NL.nil (Cg.of_eq ?_)).symm
   rcases h0 with h | h
   ·rw [List.eq_nil_of_length_eq_zero h, P_nil]; exact ZX.zr
   ·rw [List.eq_nil_of_length_eq_zero h, P_nil]; exact ZX.zr
  refine ⟨1, fun k hk => ?_⟩
  obtain ⟨k', rfl, _⟩ := ex_succ hk
  simp only [fp_Mul.f, fp_Mul.j0, e]
  by_cases h : a.length = 0
  ·rw [if_pos (by omega), if_pos trivial]
  ·rw [if_neg (by omega), if_pos (by simp; exact List.eq_nil_of_length_eq_zero (h0.resolve_left h))]
 ·obtain ⟨K, hK⟩ := fp_Mul_outer hp hP a b ha hb (by omega) (by omega) (by omega) a.length 0 (List.replicate (a.length + b.length - 1) 0) (by omega) (by rw [List.length_replicate]; omega) (by rw [List.length_replicate]; omega) (Res.zeros hp _) (by
   rw [P_zeros, List.take_zero, P_nil]
   exact Cg.of_eq ZX.zr)
  dsimp only at hK
  refine ⟨K + 1, fun k hk => ?_⟩
  obtain ⟨k', rfl, hk'⟩ := ex_succ hk
  have e : wrap64 (wrap64 ((a.length : Int) + (b.length : Int)) - 1) = ((a.length + b.length - 1 : Nat) : Int) := by
   rw [wrap_id (x := (a.length : Int) + (b.length : Int)) (by omega) (by omega), wrap_id (by omega) (by omega)]; omega
  simp only [fp_Mul.f, fp_Mul.j0]
  rw [if_neg (by omega), if_neg (by simp; intro h; exact h0 (.inr (by rw [h]; rfl))), e, if_pos (by omega), Int.toNat_natCast, if_pos (by omega)]
  exact hK k' hk'
theorem ref_Mul_inner (a b : List Int) (ha : NL p a) (hb : NL p b) (i : Nat) (hi : i < a.length) (hla : a.length ≤ 1000000) (hlb : b.length ≤ 1000000) (r : List Int)
  (H : ∀ l, l.length + 1 = a.length + b.length → Res p l → Cg p 0 (P l) (P (a.take (i + 1)) * P b) → Ev (fun k => r9Mul.l0 k p a b l ((i + 1 : Nat) : Int)) r) :
  ∀ (d j : Nat) (l : List Int), j + d = b.length → l.length + 1 = a.length + b.length → Res p l → Cg p 0 (P l) (P (a.take i) * P b + X ^ i * (C (a.getD i 0) * P (b.take j))) → Ev (fun k => r9Mul.l1 k p a b l (i : Int) (j : Int)) r
 | 0, j, l, hj, hl, hr, hc => by
  obtain ⟨K, hK⟩ := H l hl hr (mul_next hi (by rwa [show j = b.length by omega] at hc))
  dsimp only at hK
  refine ⟨K + 1, fun k hk => ?_⟩
  obtain ⟨k', rfl, hk'⟩ := ex_succ hk
  simp only [r9Mul.l1]
  rw [if_neg (by omega), succ_wrap (by omega)]
  exact hK k' hk'
 | d + 1, j, l, hj, hl, hr, hc => by
  have h1 := hr (i + j)
  have h2 := ha.getD hp i
  have h3 := hb.getD hp j
  have h4 := mul_lt_w (a := a.getD i 0) (b := b.getD j 0) (by omega) (by omega) (by omega) (by omega)
  obtain ⟨K, hK⟩ := ref_Mul_inner a b ha hb i hi hla hlb r H d (j + 1) (l.set (i + j) ((l.getD (i + j) 0 + a.getD i 0 * b.getD j 0) % p)) (by omega) (by rw [List.length_set]; exact hl) (hr.set (by omega) (Int.emod_nonneg _ (by omega)) (Int.emod_lt_of_pos _ (by omega))) (mul_step (by omega) (by omega) hc)
  dsimp only at hK
  refine ⟨K + 1, fun k hk => ?_⟩
  obtain ⟨k', rfl, hk'⟩ := ex_succ hk
  have hlt : i + j < l.length := by omega
  have e : wrap64 ((i : Int) + (j : Int)) = ((i + j : Nat) : Int) := by rw [wrap_id (by omega) (by omega)]; omega
  simp only [r9Mul.l1]
  rw [e, if_pos (by omega), if_pos (Int.natCast_nonneg _), if_pos (Int.ofNat_lt.2 hlt), if_pos (Int.natCast_nonneg _), if_pos (Int.ofNat_lt.2 hi), if_pos (Int.natCast_nonneg _), if_neg (by omega), rd_nat, rd_nat, rd_nat, Int.toNat_natCast, succ_wrap (by omega), wrap_id (x := a.getD i 0 * b.getD j 0) (by omega) (by omega), wrap_id (by omega) (by omega), Int.tmod_eq_emod_of_nonneg (by omega)]
  exact hK k' hk'
theorem ref_Mul_outer (a b : List Int) (ha : NL p a) (hb : NL p b) (hla : a.length ≤ 1000000) (hlb : b.length ≤ 1000000) (hb0 : 0 < b.length) : ∀ (d i : Nat) (l : List Int), i + d = a.length → l.length + 1 = a.length + b.length → l.length ≤ 1000000 → Res p l → Cg p 0 (P l) (P (a.take i) * P b) → Ev (fun k => r9Mul.l0 k p a b l (i : Int)) (nf p (P a * P b))
 | 0, i, l, hi, hl, hll, hr, hc => by
  obtain ⟨K, hK⟩ := ref_Trim_spec _ l rfl hll
  dsimp only at hK
  refine ⟨K + 1, fun k hk => ?_⟩
  obtain ⟨k', rfl, hk'⟩ := ex_succ hk
  simp only [r9Mul.l0]
  rw [if_neg (by omega), hK k' hk', Option.bind_some, tr_eq_nf hp (fun j _ => hr j)]
  rwa [show i = a.length by omega, List.take_length] at hc
 | d + 1, i, l, hi, hl, hll, hr, hc => by
  obtain ⟨K, hK⟩ := ref_Mul_inner hp hP a b ha hb i (by omega) hla hlb (nf p (P a * P b)) (fun l' h1 h2 h3 => ref_Mul_outer a b ha hb hla hlb hb0 d (i + 1) l' (by omega) h1 (by omega) h2 h3) b.length 0 l (by omega) hl hr (by
   rw [List.take_zero, P_nil]
   exact hc.trans (Cg.of_eq ZX.zr))
  dsimp only at hK
  refine ⟨K + 1, fun k hk => ?_⟩
  obtain ⟨k', rfl, hk'⟩ := ex_succ hk
  simp only [r9Mul.l0]
  rw [if_pos (by omega)]
  exact hK k' hk'
theorem ref_Mul_spec {a b : List Int} (ha : NL p a) (hb : NL p b) (hla : a.length ≤ 500000) (hlb : b.length ≤ 500000) : Ev (fun k => r9Mul.f k p a b) (nf p (P a * P b)) := by
 by_cases h0 : a.length = 0 ∨ b.length = 0
 ·have e : nf p (P a * P b) = [] := by
   refine (nf_eq hp NL.nil (Cg.of_eq ?_)).symm
   rcases h0 with h | h
   ·rw [List.eq_nil_of_length_eq_zero h, P_nil]; exact ZX.zr
   ·rw [List.eq_nil_of_length_eq_zero h, P_nil]; exact ZX.zr
  refine ⟨1, fun k hk => ?_⟩
  obtain ⟨k', rfl, _⟩ := ex_succ hk
  simp only [r9Mul.f, r9Mul.j0, e]
  by_cases h : a.length = 0
  ·rw [if_pos (by omega), if_pos trivial]
  ·rw [if_neg (by omega), if_pos (by simp; exact List.eq_nil_of_length_eq_zero (h0.resolve_left h))]
 ·obtain ⟨K, hK⟩ := ref_Mul_outer hp hP a b ha hb (by omega) (by omega) (by omega) a.length 0 (List.replicate (a.length + b.length - 1) 0) (by omega) (by rw [List.length_replicate]; omega) (by rw [List.length_replicate]; omega) (Res.zeros hp _) (by
   rw [P_zeros, List.take_zero, P_nil]
   exact Cg.of_eq ZX.zr)
  dsimp only at hK
  refine ⟨K + 1, fun k hk => ?_⟩
  obtain ⟨k', rfl, hk'⟩ := ex_succ hk
  have e : wrap64 (wrap64 ((a.length : Int) + (b.length : Int)) - 1) = ((a.length + b.length - 1 : Nat) : Int) := by
   rw [wrap_id (x := (a.length : Int) + (b.length : Int)) (by omega) (by omega), wrap_id (by omega) (by omega)]; omega
  simp only [r9Mul.f, r9Mul.j0]
  rw [if_neg (by omega), if_neg (by simp; intro h; exact h0 (.inr (by rw [h]; rfl))), e, if_pos (by omega), Int.toNat_natCast, if_pos (by omega)]
  exact hK k' hk'
end
end Go.Proofs.Ytalnaafmonmlmaa.Q
end
section
namespace Go.Proofs.Ytalnaafmonmlmaa.Q
open Go.RowKit Go.Proofs.YtalnaafmonmlmaaW.PrintWords Go.Proofs.YtalnaafmonmlmaaW.PrintLast Go.Proofs.YtalnaafmonmlmaaW.PrintMore Go.Proofs.Ytalnaafmonmlmaa.M Go.Proofs.Ytalnaafmonmlmaa.M.ZX
set_option linter.unusedVariables false
set_option linter.unusedSimpArgs false
section
variable {p : Nat} (hp : Prm p) (hP : p ≤ 65521)
include hp hP
theorem fp_div_inner (a g q r0 : List Int) (hg : NL p g) (h0 : 0 < g.length) (hlg : g.length ≤ 1000000) (hla : r0.length ≤ 1000000) (s : Nat) (c v : Int) (hc0 : 0 ≤ c) (hc1 : c < p) (hs : s + g.length ≤ r0.length) (hc : (p : Int) ∣ r0.getD (s + g.length - 1) 0 - c * g.getD (g.length - 1) 0)
  (H : ∀ r, DivJ p g r0 r s c g.length → ∃ o, DivR p a g o ∧ Ev (fun k => fp_DivMod.l0 k p g r (g.length : Int) q v ((s : Int) - 1)) o) :
  ∀ (d j : Nat) (r : List Int), j + d = g.length → DivJ p g r0 r s c j → ∃ o, DivR p a g o ∧ Ev (fun k => fp_DivMod.l1 k p g r (g.length : Int) q v (s : Int) c g (g.length : Int) (j : Int)) o
 | 0, j, r, hj, h => by
  obtain ⟨o, e1, K, hK⟩ := H r (by rwa [show j = g.length by omega] at h)
  dsimp only at hK
  refine ⟨o, e1, K + 1, fun k hk => ?_⟩
  obtain ⟨k', rfl, hk'⟩ := ex_succ hk
  simp only [fp_DivMod.l1]
  rw [if_neg (by omega), wrap_id (x := (s : Int) - 1) (by omega) (by omega)]
  exact hK k' hk'
 | d + 1, j, r, hj, h => by
  have h1 := h.res (s + j)
  have h3 := hg.getD (prm_pos hp) j
  have h4 := mul_lt_w (a := c) (b := g.getD j 0) (by omega) (by omega) (by omega) (by omega)
  have hlt : s + j < r.length := by rw [h.len]; omega
  obtain ⟨o, e1, K, hK⟩ := fp_div_inner a g q r0 hg h0 hlg hla s c v hc0 hc1 hs hc H d (j + 1) (r.set (s + j) ((r.getD (s + j) 0 - c * g.getD j 0) % p)) (by omega) (h.step (prm_pos hp) (by omega) (by omega) hc)
  dsimp only at hK
  refine ⟨o, e1, K + 1, fun k hk => ?_⟩
  obtain ⟨k', rfl, hk'⟩ := ex_succ hk
  have e : wrap64 ((s : Int) + (j : Int)) = ((s + j : Nat) : Int) := by rw [wrap_id (by omega) (by omega)]; omega
  simp only [fp_DivMod.l1]
  rw [e, if_pos (by omega), if_pos (Int.natCast_nonneg _), if_pos (by omega), if_pos (Int.natCast_nonneg _), if_pos (Int.ofNat_lt.2 hlt), rd_nat, rd_nat, Int.toNat_natCast, succ_wrap (by omega), wrap_id (x := c * g.getD j 0) (by omega) (by omega), wrap_id (by omega) (by omega), mod_spec (by omega) (by omega), Option.bind_some]
  exact hK k' hk'
theorem fp_div_outer (a g : List Int) (hg : NL p g) (h0 : 0 < g.length) (hla : a.length ≤ 500000) (v : Int) (hv0 : 0 ≤ v) (hv1 : v < p) (hv : (p : Int) ∣ v * g.getD (g.length - 1) 0 - 1) (hga : g.length ≤ a.length) :
  ∀ (t : Nat) (q r : List Int), t + g.length ≤ a.length + 1 → DivI p a g q r t → ∃ o, DivR p a g o ∧ Ev (fun k => fp_DivMod.l0 k p g r (g.length : Int) q v ((t : Int) - 1)) o
 | 0, q, r, ht, h => by
  have hlq := h.lenq
  have hlr := h.lenr
  obtain ⟨K, hK⟩ := fp_Trim_spec q (by omega)
  obtain ⟨K2, hK2⟩ := fp_Trim_spec (r.take (g.length - 1)) (by rw [List.length_take]; omega)
  dsimp only at hK hK2
  rw [h.cut h0] at hK2
  refine ⟨_, h.done (prm_pos hp) h0, K + K2 + 1, fun k hk => ?_⟩
  obtain ⟨k', rfl, hk'⟩ := ex_succ hk
  have e : wrap64 ((g.length : Int) - 1) = ((g.length - 1 : Nat) : Int) := by rw [wrap_id (by omega) (by omega)]; omega
  simp only [fp_DivMod.l0]
  rw [if_neg (by omega), hK k' (by omega), Option.bind_some, e, if_pos (Int.natCast_nonneg _), if_pos (by omega), Int.toNat_natCast, hK2 k' (by omega), Option.bind_some]
 | t + 1, q, r, ht, h => by
  have hlq := h.lenq
  have hlr := h.lenr
  have h1 := h.resr (t + g.length - 1)
  have h4 := mul_lt_w (a := r.getD (t + g.length - 1) 0) (b := v) (by omega) (by omega) (by omega) (by omega)
  have hc0 := Int.emod_nonneg (r.getD (t + g.length - 1) 0 * v) (b := (p : Int)) (by omega)
  have hc1 := Int.emod_lt_of_pos (r.getD (t + g.length - 1) 0 * v) (b := (p : Int)) (by omega)
  obtain ⟨o, e1, K, hK⟩ := fp_div_inner hp hP a g (q.set t (r.getD (t + g.length - 1) 0 * v % p)) r hg h0 (by omega) (by omega) t (r.getD (t + g.length - 1) 0 * v % p) v hc0 hc1 (by omega) (top_inv rfl hv)
   (fun r' h' => fp_div_outer a g hg h0 hla v hv0 hv1 hv hga t _ r' (by omega) (h.next (prm_pos hp) h0 (by omega) hc0 hc1 h')) g.length 0 r (by omega) (DivJ.start t _ h0 h.resr)
  dsimp only at hK
  refine ⟨o, e1, K + 1, fun k hk => ?_⟩
  obtain ⟨k', rfl, hk'⟩ := ex_succ hk
  have e2 : ((t + 1 : Nat) : Int) - 1 = (t : Int) := by omega
  have e : wrap64 (wrap64 ((t : Int) + (g.length : Int)) - 1) = ((t + g.length - 1 : Nat) : Int) := by
   rw [wrap_id (x := (t : Int) + (g.length : Int)) (by omega) (by omega), wrap_id (by omega) (by omega)]; omega
  have hlt : t + g.length - 1 < r.length := by omega
  have hlt2 : t < q.length := by omega
  rw [e2]
  simp only [fp_DivMod.l0]
  rw [e, if_pos (by omega), if_pos (Int.natCast_nonneg _), if_pos (Int.ofNat_lt.2 hlt), if_neg (by omega), if_pos (Int.natCast_nonneg _), if_pos (Int.ofNat_lt.2 hlt2), rd_nat, Int.toNat_natCast, wrap_id (x := r.getD (t + g.length - 1) 0 * v) (by omega) (by omega), Int.tmod_eq_emod_of_nonneg (by omega)]
  exact hK k' hk'
theorem fp_DivMod_spec {a g : List Int} (ha : NL p a) (hg : NL p g) (hne : g ≠ []) (hla : a.length ≤ 500000) (hlg : g.length ≤ 500000) : ∃ o, DivR p a g o ∧ Ev (fun k => fp_DivMod.f k p a g) o := by
 have h0 : 0 < g.length := List.length_pos_iff.2 hne
 by_cases hs : a.length < g.length
 ·refine ⟨_, DivR.short ha hs, 0, fun k _ => ?_⟩
  simp only [fp_DivMod.f]
  rw [Option.bind_some, if_pos (by simp; omega), Option.bind_some, List.nil_append, if_pos (by omega)]
 ·obtain ⟨hl0, hl1⟩ := hg.lead hp hne
  obtain ⟨v, hv0, hv1, hv, K, hK⟩ := fp_Inv_spec hp hP hl0 hl1
  obtain ⟨o, e1, K2, hK2⟩ := fp_div_outer hp hP a g hg h0 hla v hv0 hv1 hv (by omega) (a.length - g.length + 1) (List.replicate (a.length - g.length + 1) 0) a (by omega) (DivI.start (prm_pos hp) ha h0 (by omega))
  dsimp only at hK hK2
  refine ⟨o, e1, K + K2, fun k hk => ?_⟩
  have e2 : wrap64 ((a.length : Int) - (g.length : Int)) = ((a.length - g.length + 1 : Nat) : Int) - 1 := by rw [wrap_id (by omega) (by omega)]; omega
  have e3 : wrap64 (wrap64 ((a.length : Int) - (g.length : Int)) + 1) = ((a.length - g.length + 1 : Nat) : Int) := by rw [e2, wrap_id (by omega) (by omega)]; omega
  have e : wrap64 ((g.length : Int) - 1) = ((g.length - 1 : Nat) : Int) := by rw [wrap_id (by omega) (by omega)]; omega
  simp only [fp_DivMod.f]
  rw [Option.bind_some, if_pos (by simp; omega), Option.bind_some, List.nil_append, if_neg (by omega), e3, e2, e, if_pos (Int.natCast_nonneg _), Int.toNat_natCast, if_pos (by omega), if_pos (Int.natCast_nonneg _), if_pos (by omega), rd_nat, hK k (by omega), Option.bind_some]
  exact hK2 k (by omega)
theorem ref_div_inner (a g q r0 : List Int) (hg : NL p g) (h0 : 0 < g.length) (hlg : g.length ≤ 1000000) (hla : r0.length ≤ 1000000) (s : Nat) (c v : Int) (hc0 : 0 ≤ c) (hc1 : c < p) (hs : s + g.length ≤ r0.length) (hc : (p : Int) ∣ r0.getD (s + g.length - 1) 0 - c * g.getD (g.length - 1) 0)
  (H : ∀ r, DivJ p g r0 r s c g.length → ∃ o, DivR p a g o ∧ Ev (fun k => r9DivMod.l0 k p g r ((g.length - 1 : Nat) : Int) q v ((s : Int) - 1)) o) :
  ∀ (d j : Nat) (r : List Int), j + d = g.length → DivJ p g r0 r s c j → ∃ o, DivR p a g o ∧ Ev (fun k => r9DivMod.l1 k p g r ((g.length - 1 : Nat) : Int) q v (s : Int) c (j : Int)) o
 | 0, j, r, hj, h => by
  obtain ⟨o, e1, K, hK⟩ := H r (by rwa [show j = g.length by omega] at h)
  dsimp only at hK
  refine ⟨o, e1, K + 1, fun k hk => ?_⟩
  obtain ⟨k', rfl, hk'⟩ := ex_succ hk
  simp only [r9DivMod.l1]
  rw [if_neg (by omega), wrap_id (x := (s : Int) - 1) (by omega) (by omega)]
  exact hK k' hk'
 | d + 1, j, r, hj, h => by
  have h1 := h.res (s + j)
  have h3 := hg.getD (prm_pos hp) j
  have h4 := mul_lt_w (a := (p : Int) - c) (b := g.getD j 0) (by omega) (by omega) (by omega) (by omega)
  have hlt : s + j < r.length := by rw [h.len]; omega
  have hlt2 : j < g.length := by omega
  obtain ⟨o, e1, K, hK⟩ := ref_div_inner a g q r0 hg h0 hlg hla s c v hc0 hc1 hs hc H d (j + 1) (r.set (s + j) ((r.getD (s + j) 0 - c * g.getD j 0) % p)) (by omega) (h.step (prm_pos hp) (by omega) (by omega) hc)
  dsimp only at hK
  refine ⟨o, e1, K + 1, fun k hk => ?_⟩
  obtain ⟨k', rfl, hk'⟩ := ex_succ hk
  have e3 : (r.getD (s + j) 0 + ((p : Int) - c) * g.getD j 0) % p = (r.getD (s + j) 0 - c * g.getD j 0) % p := by
   rw [show r.getD (s + j) 0 + ((p : Int) - c) * g.getD j 0 = (r.getD (s + j) 0 - c * g.getD j 0) + p * g.getD j 0 by rw [Int.sub_mul]; omega, Int.add_mul_emod_self_left]
  have e : wrap64 ((s : Int) + (j : Int)) = ((s + j : Nat) : Int) := by rw [wrap_id (by omega) (by omega)]; omega
  simp only [r9DivMod.l1]
  rw [e, if_pos (by omega), if_pos (Int.natCast_nonneg _), if_pos (Int.ofNat_lt.2 hlt), if_pos (Int.natCast_nonneg _), if_pos (Int.ofNat_lt.2 hlt2), if_neg (by omega), rd_nat, rd_nat, Int.toNat_natCast, succ_wrap (by omega), wrap_id (x := (p : Int) - c) (by omega) (by omega), wrap_id (x := ((p : Int) - c) * g.getD j 0) (by omega) (by omega), wrap_id (by omega) (by omega), Int.tmod_eq_emod_of_nonneg (by omega), e3]
  exact hK k' hk'
theorem ref_div_outer (a g : List Int) (hg : NL p g) (h0 : 0 < g.length) (hla : a.length ≤ 500000) (v : Int) (hv0 : 0 ≤ v) (hv1 : v < p) (hv : (p : Int) ∣ v * g.getD (g.length - 1) 0 - 1) (hga : g.length ≤ a.length) :
  ∀ (t : Nat) (q r : List Int), t + g.length ≤ a.length + 1 → DivI p a g q r t → ∃ o, DivR p a g o ∧ Ev (fun k => r9DivMod.l0 k p g r ((g.length - 1 : Nat) : Int) q v ((t : Int) - 1)) o
 | 0, q, r, ht, h => by
  have hlq := h.lenq
  have hlr := h.lenr
  obtain ⟨K, hK⟩ := ref_Trim_spec _ q rfl (by omega)
  obtain ⟨K2, hK2⟩ := ref_Trim_spec _ r rfl (by omega)
  dsimp only at hK hK2
  refine ⟨_, h.done (prm_pos hp) h0, K + K2 + 1, fun k hk => ?_⟩
  obtain ⟨k', rfl, hk'⟩ := ex_succ hk
  simp only [r9DivMod.l0]
  rw [if_neg (by omega), hK k' (by omega), Option.bind_some, hK2 k' (by omega), Option.bind_some]
 | t + 1, q, r, ht, h => by
  have hlq := h.lenq
  have hlr := h.lenr
  have h1 := h.resr (t + g.length - 1)
  have h4 := mul_lt_w (a := r.getD (t + g.length - 1) 0) (b := v) (by omega) (by omega) (by omega) (by omega)
  have hc0 := Int.emod_nonneg (r.getD (t + g.length - 1) 0 * v) (b := (p : Int)) (by omega)
  have hc1 := Int.emod_lt_of_pos (r.getD (t + g.length - 1) 0 * v) (b := (p : Int)) (by omega)
  obtain ⟨o, e1, K, hK⟩ := ref_div_inner hp hP a g (q.set t (r.getD (t + g.length - 1) 0 * v % p)) r hg h0 (by omega) (by omega) t (r.getD (t + g.length - 1) 0 * v % p) v hc0 hc1 (by omega) (top_inv rfl hv)
   (fun r' h' => ref_div_outer a g hg h0 hla v hv0 hv1 hv hga t _ r' (by omega) (h.next (prm_pos hp) h0 (by omega) hc0 hc1 h')) g.length 0 r (by omega) (DivJ.start t _ h0 h.resr)
  dsimp only at hK
  refine ⟨o, e1, K + 1, fun k hk => ?_⟩
  obtain ⟨k', rfl, hk'⟩ := ex_succ hk
  have e2 : ((t + 1 : Nat) : Int) - 1 = (t : Int) := by omega
  have e : wrap64 ((t : Int) + ((g.length - 1 : Nat) : Int)) = ((t + g.length - 1 : Nat) : Int) := by
   rw [wrap_id (by omega) (by omega)]; omega
  have hlt : t + g.length - 1 < r.length := by omega
  have hlt2 : t < q.length := by omega
  rw [e2]
  simp only [r9DivMod.l0]
  rw [e, if_pos (by omega), if_pos (Int.natCast_nonneg _), if_pos (Int.ofNat_lt.2 hlt), if_neg (by omega), if_pos (Int.natCast_nonneg _), if_pos (Int.ofNat_lt.2 hlt2), rd_nat, Int.toNat_natCast, wrap_id (x := r.getD (t + g.length - 1) 0 * v) (by omega) (by omega), Int.tmod_eq_emod_of_nonneg (by omega)]
  exact hK k' hk'
theorem ref_DivMod_spec {a g : List Int} (ha : NL p a) (hg : NL p g) (hne : g ≠ []) (hla : a.length ≤ 500000) (hlg : g.length ≤ 500000) : ∃ o, DivR p a g o ∧ Ev (fun k => r9DivMod.f k p a g) o := by
 have h0 : 0 < g.length := List.length_pos_iff.2 hne
 obtain ⟨hl0, hl1⟩ := hg.lead hp hne
 obtain ⟨v, hv0, hv1, hv, K, hK⟩ := ref_Inv_spec hp hP hl0 hl1
 have e : wrap64 ((g.length : Int) - 1) = ((g.length - 1 : Nat) : Int) := by rw [wrap_id (by omega) (by omega)]; omega
 have e2 : mx 0 (wrap64 ((a.length : Int) - ((g.length - 1 : Nat) : Int))) = ((a.length + 1 - g.length : Nat) : Int) := by
  rw [wrap_id (by omega) (by omega)]
  unfold mx
  split <;> omega
 have e4 : wrap64 (((a.length + 1 - g.length : Nat) : Int) - 1) = ((a.length + 1 - g.length : Nat) : Int) - 1 := wrap_id (by omega) (by omega)
 dsimp only at hK
 have key : ∃ o, DivR p a g o ∧ Ev (fun k => r9DivMod.l0 k p g a ((g.length - 1 : Nat) : Int) (List.replicate (a.length + 1 - g.length) 0) v (((a.length + 1 - g.length : Nat) : Int) - 1)) o := by
  by_cases hs : a.length < g.length
  ·have e3 : a.length + 1 - g.length = 0 := by omega
   obtain ⟨K2, hK2⟩ := ref_Trim_spec _ a rfl (by omega)
   obtain ⟨K3, hK3⟩ := ref_Trim_spec _ [] rfl (by simp)
   dsimp only at hK2 hK3
   refine ⟨_, DivR.short ha hs, K2 + K3 + 1, fun k hk => ?_⟩
   obtain ⟨k', rfl, hk'⟩ := ex_succ hk
   simp only [e3, r9DivMod.l0, List.replicate_zero]
   rw [if_neg (by omega), hK3 k' (by omega), Option.bind_some, hK2 k' (by omega), Option.bind_some, tr_of_nz ha.2]
   rfl
  ·have e3 : a.length + 1 - g.length = a.length - g.length + 1 := by omega
   rw [e3]
   exact ref_div_outer hp hP a g hg h0 hla v hv0 hv1 hv (by omega) _ _ a (by omega) (DivI.start (prm_pos hp) ha h0 (by omega))
 obtain ⟨o, e1, K2, hK2⟩ := key
 dsimp only at hK2
 refine ⟨o, e1, K + K2, fun k hk => ?_⟩
 simp only [r9DivMod.f]
 rw [ref_Copy_spec a (by omega), Option.bind_some, e, e2, if_pos (Int.natCast_nonneg _), Int.toNat_natCast, if_pos (by omega), Option.bind_some, if_pos (Int.natCast_nonneg _), if_pos (by omega), rd_nat, hK k (by omega), Option.bind_some, List.length_replicate, e4]
 exact hK2 k (by omega)
theorem fp_Rem_spec {a g : List Int} (ha : NL p a) (hg : NL p g) (hne : g ≠ []) (hla : a.length ≤ 500000) (hlg : g.length ≤ 500000) : Ev (fun k => fp_Rem.f k p a g) (rm p g (P a)) := by
 obtain ⟨o, h1, K, hK⟩ := fp_DivMod_spec hp hP ha hg hne hla hlg
 dsimp only at hK
 refine ⟨K, fun k hk => ?_⟩
 simp only [fp_Rem.f]
 rw [hK k hk, Option.bind_some, h1.rm hp hg]
theorem ref_Mod_spec {a g : List Int} (ha : NL p a) (hg : NL p g) (hne : g ≠ []) (hla : a.length ≤ 500000) (hlg : g.length ≤ 500000) : Ev (fun k => r9Mod.f k p a g) (rm p g (P a)) := by
 obtain ⟨o, h1, K, hK⟩ := ref_DivMod_spec hp hP ha hg hne hla hlg
 dsimp only at hK
 refine ⟨K, fun k hk => ?_⟩
 simp only [r9Mod.f]
 rw [hK k hk, Option.bind_some, h1.rm hp hg]
theorem fp_MulMod_spec {a b g : List Int} (ha : NL p a) (hb : NL p b) (hg : NL p g) (hne : g ≠ []) (hla : a.length ≤ 100000) (hlb : b.length ≤ 100000) (hlg : g.length ≤ 100000) : Ev (fun k => fp_MulMod.f k p a b g) (rm p g (P a * P b)) := by
 have hn := nf_spec (prm_pos hp) (P a * P b)
 obtain ⟨K, hK⟩ := fp_Mul_spec (prm_pos hp) hP ha hb (by omega) (by omega)
 obtain ⟨K2, hK2⟩ := fp_Rem_spec hp hP hn.1 hg hne (nf_dg (prm_pos hp) (((Dg.of_P hla).mul (Dg.of_P hlb)).mono (by omega))) (by omega)
 dsimp only at hK hK2
 refine ⟨K + K2, fun k hk => ?_⟩
 simp only [fp_MulMod.f]
 rw [hK k (by omega), Option.bind_some, hK2 k (by omega), Option.bind_some, rm_cg hp hg hne hn.2.mono]
theorem ref_MulMod_spec {a b g : List Int} (ha : NL p a) (hb : NL p b) (hg : NL p g) (hne : g ≠ []) (hla : a.length ≤ 100000) (hlb : b.length ≤ 100000) (hlg : g.length ≤ 100000) : Ev (fun k => r9MulMod.f k p a b g) (rm p g (P a * P b)) := by
 have hn := nf_spec (prm_pos hp) (P a * P b)
 obtain ⟨K, hK⟩ := ref_Mul_spec (prm_pos hp) hP ha hb (by omega) (by omega)
 obtain ⟨K2, hK2⟩ := ref_Mod_spec hp hP hn.1 hg hne (nf_dg (prm_pos hp) (((Dg.of_P hla).mul (Dg.of_P hlb)).mono (by omega))) (by omega)
 dsimp only at hK hK2
 refine ⟨K + K2, fun k hk => ?_⟩
 simp only [r9MulMod.f]
 rw [hK k (by omega), Option.bind_some, hK2 k (by omega), Option.bind_some, rm_cg hp hg hne hn.2.mono]
end
end Go.Proofs.Ytalnaafmonmlmaa.Q
end
section
namespace Go.Proofs.Ytalnaafmonmlmaa.Q
open Go.RowKit Go.Proofs.YtalnaafmonmlmaaW.PrintWords Go.Proofs.YtalnaafmonmlmaaW.PrintLast Go.Proofs.YtalnaafmonmlmaaW.PrintMore Go.Proofs.Ytalnaafmonmlmaa.M Go.Proofs.Ytalnaafmonmlmaa.M.ZX
set_option linter.unusedVariables false
set_option linter.unusedSimpArgs false
def V (e : ByteArray) : Nat → Nat
 | 0 => 0
 | i + 1 => V e i * 256 + (bt e i).toNat
theorem and_one8 {x : Int} (h0 : 0 ≤ x) (h1 : x ≤ 255) : Go.bits .and .u8 x 1 = x % 2 := by
 have := bits_mask .u8 8 (by decide) (fun n h0 h1 => by unfold IntKind.wrap; simp [IntKind.bits, IntKind.signed]; omega) 1 (by decide) x h0 (by omega)
 simpa using this
theorem shr_small8 (x : Int) {t : Nat} (ht : t ≤ 8) : shr .u8 x (t : Int) = x / 2 ^ t := by
 unfold shr
 rw [Int.toNat_natCast, Nat.min_eq_left (by simpa [IntKind.bits] using ht)]
theorem bit_step (v b t : Nat) (ht : t ≤ 7) : (v * 256 + b) / 2 ^ t = 2 * ((v * 256 + b) / 2 ^ (t + 1)) + b / 2 ^ t % 2 := by
 have : t = 0 ∨ t = 1 ∨ t = 2 ∨ t = 3 ∨ t = 4 ∨ t = 5 ∨ t = 6 ∨ t = 7 := by omega
 rcases this with rfl | rfl | rfl | rfl | rfl | rfl | rfl | rfl <;> simp only [Nat.reducePow, Nat.reduceAdd, Nat.pow_zero, Nat.div_one] <;> omega
section
variable {p : Nat} (hp : Prm p) (hP : p ≤ 65521)
include hp hP
theorem rm_len {g : List Int} (hg : NL p g) (hne : g ≠ []) (a : ZX) (h : g.length ≤ 100000) : (rm p g a).length ≤ 100000 := by
 have _ := hP
 have := (rm_spec hp hg hne a).2.1; omega
theorem rm_mul {g : List Int} (hg : NL p g) (hne : g ≠ []) (a b : ZX) : rm p g (P (rm p g a) * P (rm p g b)) = rm p g (a * b) := have _ := hP;
 rm_cg hp hg hne ((rm_spec hp hg hne a).2.2.mul (rm_spec hp hg hne b).2.2)
theorem fp_pow_inner {g : List Int} (hg : NL p g) (hne : g ≠ []) (hlg : g.length ≤ 100000) (e : ByteArray) (y : ZX) (i : Nat) (hi : i < e.size) (hs : e.size ≤ 1000000) (r : List Int)
  (H : Ev (fun k => fp_PowMod.l0 k p e g (rm p g (y ^ V e (i + 1))) (rm p g y) (e.size : Int) ((i + 1 : Nat) : Int)) r) :
  ∀ t : Nat, t ≤ 8 → Ev (fun k => fp_PowMod.l1 k p e g (rm p g (y ^ ((V e i * 256 + (bt e i).toNat) / 2 ^ t))) (rm p g y) (i : Int) ((t : Int) - 1) (e.size : Int) (i : Int)) r
 | 0, _ => by
  obtain ⟨K, hK⟩ := H
  dsimp only at hK
  refine ⟨K + 1, fun k hk => ?_⟩
  obtain ⟨k', rfl, hk'⟩ := ex_succ hk
  simp only [fp_PowMod.l1]
  rw [if_neg (by omega), succ_wrap (by omega), Nat.pow_zero, Nat.div_one]
  exact hK k' hk'
 | t + 1, ht => by
  obtain ⟨K, hK⟩ := fp_pow_inner hg hne hlg e y i hi hs r H t (by omega)
  have s1 := fun a => (rm_spec hp hg hne a).1
  have l1 := fun a => rm_len hp hP hg hne a hlg
  have hb := bt_range e i
  have hbt : bt e i = ((bt e i).toNat : Int) := by omega
  obtain ⟨K2, h2⟩ := fp_MulMod_spec hp hP (s1 (y ^ ((V e i * 256 + (bt e i).toNat) / 2 ^ (t + 1)))) (s1 (y ^ ((V e i * 256 + (bt e i).toNat) / 2 ^ (t + 1)))) hg hne (l1 _) (l1 _) hlg
  rw [rm_mul hp hP hg hne, ← ZX.pow_add] at h2
  obtain ⟨K3, h3⟩ := fp_MulMod_spec hp hP (s1 (y ^ ((V e i * 256 + (bt e i).toNat) / 2 ^ (t + 1) + (V e i * 256 + (bt e i).toNat) / 2 ^ (t + 1)))) (s1 y) hg hne (l1 _) (l1 _) hlg
  rw [rm_mul hp hP hg hne, ← ZX.pow_succ] at h3
  dsimp only at hK h2 h3
  refine ⟨K + K2 + K3 + 1, fun k hk => ?_⟩
  obtain ⟨k', rfl, hk'⟩ := ex_succ hk
  have e2 : ((t + 1 : Nat) : Int) - 1 = (t : Int) := by omega
  have hst := bit_step (V e i) (bt e i).toNat t (by omega)
  have hq : bt e i / 2 ^ t % 2 = (((bt e i).toNat / 2 ^ t % 2 : Nat) : Int) := by rw [hbt]; simp
  have hq0 : 0 ≤ bt e i / 2 ^ t := Int.ediv_nonneg hb.1 (by exact_mod_cast Nat.zero_le (2 ^ t))
  have hq1 : bt e i / 2 ^ t ≤ 255 := Int.le_trans (Int.ediv_le_self _ hb.1) hb.2
  have hKk := hK k' (by omega)
  rw [e2]
  simp only [fp_PowMod.l1]
  rw [if_pos (by omega), h2 k' (by omega), Option.bind_some, if_pos (Int.natCast_nonneg _), if_pos (by omega), if_pos (Int.natCast_nonneg _), shr_small8 _ (by omega), and_one8 hq0 hq1, hq, wrap_id (x := (t : Int) - 1) (by omega) (by omega)]
  by_cases hbit : (bt e i).toNat / 2 ^ t % 2 = 1
  ·rw [if_pos (by omega), h3 k' (by omega), Option.bind_some]
   rw [hst, hbit, Nat.two_mul] at hKk
   exact hKk
  ·rw [if_neg (by omega)]
   rw [hst, show (bt e i).toNat / 2 ^ t % 2 = 0 by omega, Nat.two_mul, Nat.add_zero] at hKk
   exact hKk
theorem fp_pow_outer {g : List Int} (hg : NL p g) (hne : g ≠ []) (hlg : g.length ≤ 100000) (e : ByteArray) (y : ZX) (hs : e.size ≤ 1000000) :
  ∀ (d i : Nat), i + d = e.size → Ev (fun k => fp_PowMod.l0 k p e g (rm p g (y ^ V e i)) (rm p g y) (e.size : Int) (i : Int)) (rm p g (y ^ V e e.size))
 | 0, i, hi => by
  refine ⟨1, fun k hk => ?_⟩
  obtain ⟨k', rfl, hk'⟩ := ex_succ hk
  simp only [fp_PowMod.l0]
  rw [if_neg (by omega), show i = e.size by omega]
 | d + 1, i, hi => by
  obtain ⟨K, hK⟩ := fp_pow_inner hp hP hg hne hlg e y i (by omega) hs _ (fp_pow_outer hg hne hlg e y hs d (i + 1) (by omega)) 8 (Nat.le_refl _)
  dsimp only at hK
  refine ⟨K + 1, fun k hk => ?_⟩
  obtain ⟨k', rfl, hk'⟩ := ex_succ hk
  have hb := bt_range e i
  have e3 : (V e i * 256 + (bt e i).toNat) / 2 ^ 8 = V e i := by rw [show (2 : Nat) ^ 8 = 256 from rfl]; omega
  have := hK k' hk'
  rw [e3] at this
  simp only [fp_PowMod.l0]
  rw [if_pos (by omega)]
  exact this
theorem fp_PowMod_spec {a g : List Int} (e : ByteArray) (ha : NL p a) (hg : NL p g) (hne : g ≠ []) (hla : a.length ≤ 100000) (hlg : g.length ≤ 100000) (hs : e.size ≤ 1000000) : Ev (fun k => fp_PowMod.f k p a e g) (rm p g (P a ^ V e e.size)) := by
 obtain ⟨K, hK⟩ := fp_Rem_spec hp hP (NL.one hp.1) hg hne (by simp) (by omega)
 obtain ⟨K2, hK2⟩ := fp_Rem_spec hp hP ha hg hne (by omega) (by omega)
 obtain ⟨K3, hK3⟩ := fp_pow_outer hp hP hg hne hlg e (P a) hs e.size 0 (by omega)
 dsimp only at hK hK2 hK3
 rw [P_one, ← ZX.pow_zero (P a)] at hK
 refine ⟨K + K2 + K3, fun k hk => ?_⟩
 simp only [fp_PowMod.f]
 rw [hK k (by omega), Option.bind_some, hK2 k (by omega), Option.bind_some]
 exact hK3 k (by omega)
theorem ref_pow_inner {g : List Int} (hg : NL p g) (hne : g ≠ []) (hlg : g.length ≤ 100000) (e : ByteArray) (y : ZX) (i : Nat) (hi : i < e.size) (hs : e.size ≤ 1000000) (r : List Int)
  (H : Ev (fun k => r9PowMod.l0 k p (rm p g y) e g (rm p g (y ^ V e (i + 1))) ((i + 1 : Nat) : Int)) r) :
  ∀ t : Nat, t ≤ 8 → Ev (fun k => r9PowMod.l1 k p (rm p g y) e g (rm p g (y ^ ((V e i * 256 + (bt e i).toNat) / 2 ^ t))) (i : Int) ((t : Int) - 1)) r
 | 0, _ => by
  obtain ⟨K, hK⟩ := H
  dsimp only at hK
  refine ⟨K + 1, fun k hk => ?_⟩
  obtain ⟨k', rfl, hk'⟩ := ex_succ hk
  simp only [r9PowMod.l1]
  rw [if_neg (by omega), succ_wrap (by omega), Nat.pow_zero, Nat.div_one]
  exact hK k' hk'
 | t + 1, ht => by
  obtain ⟨K, hK⟩ := ref_pow_inner hg hne hlg e y i hi hs r H t (by omega)
  have s1 := fun a => (rm_spec hp hg hne a).1
  have l1 := fun a => rm_len hp hP hg hne a hlg
  have hb := bt_range e i
  have hbt : bt e i = ((bt e i).toNat : Int) := by omega
  obtain ⟨K2, h2⟩ := ref_MulMod_spec hp hP (s1 (y ^ ((V e i * 256 + (bt e i).toNat) / 2 ^ (t + 1)))) (s1 (y ^ ((V e i * 256 + (bt e i).toNat) / 2 ^ (t + 1)))) hg hne (l1 _) (l1 _) hlg
  rw [rm_mul hp hP hg hne, ← ZX.pow_add] at h2
  obtain ⟨K3, h3⟩ := ref_MulMod_spec hp hP (s1 (y ^ ((V e i * 256 + (bt e i).toNat) / 2 ^ (t + 1) + (V e i * 256 + (bt e i).toNat) / 2 ^ (t + 1)))) (s1 y) hg hne (l1 _) (l1 _) hlg
  rw [rm_mul hp hP hg hne, ← ZX.pow_succ] at h3
  dsimp only at hK h2 h3
  refine ⟨K + K2 + K3 + 1, fun k hk => ?_⟩
  obtain ⟨k', rfl, hk'⟩ := ex_succ hk
  have e2 : ((t + 1 : Nat) : Int) - 1 = (t : Int) := by omega
  have hst := bit_step (V e i) (bt e i).toNat t (by omega)
  have hq : bt e i / 2 ^ t % 2 = (((bt e i).toNat / 2 ^ t % 2 : Nat) : Int) := by rw [hbt]; simp
  have hq0 : 0 ≤ bt e i / 2 ^ t := Int.ediv_nonneg hb.1 (by exact_mod_cast Nat.zero_le (2 ^ t))
  have hKk := hK k' (by omega)
  rw [e2]
  simp only [r9PowMod.l1]
  rw [if_pos (by omega), h2 k' (by omega), Option.bind_some, if_pos (Int.natCast_nonneg _), if_pos (by omega), if_pos (Int.natCast_nonneg _), shr_small8 _ (by omega), Int.tmod_eq_emod_of_nonneg hq0, hq, wrap_id (x := (t : Int) - 1) (by omega) (by omega)]
  by_cases hbit : (bt e i).toNat / 2 ^ t % 2 = 1
  ·rw [if_pos (by omega), h3 k' (by omega), Option.bind_some]
   rw [hst, hbit, Nat.two_mul] at hKk
   exact hKk
  ·rw [if_neg (by omega)]
   rw [hst, show (bt e i).toNat / 2 ^ t % 2 = 0 by omega, Nat.two_mul, Nat.add_zero] at hKk
   exact hKk
theorem ref_pow_outer {g : List Int} (hg : NL p g) (hne : g ≠ []) (hlg : g.length ≤ 100000) (e : ByteArray) (y : ZX) (hs : e.size ≤ 1000000) :
  ∀ (d i : Nat), i + d = e.size → Ev (fun k => r9PowMod.l0 k p (rm p g y) e g (rm p g (y ^ V e i)) (i : Int)) (rm p g (y ^ V e e.size))
 | 0, i, hi => by
  refine ⟨1, fun k hk => ?_⟩
  obtain ⟨k', rfl, hk'⟩ := ex_succ hk
  simp only [r9PowMod.l0]
  rw [if_neg (by omega), show i = e.size by omega]
 | d + 1, i, hi => by
  obtain ⟨K, hK⟩ := ref_pow_inner hp hP hg hne hlg e y i (by omega) hs _ (ref_pow_outer hg hne hlg e y hs d (i + 1) (by omega)) 8 (Nat.le_refl _)
  dsimp only at hK
  refine ⟨K + 1, fun k hk => ?_⟩
  obtain ⟨k', rfl, hk'⟩ := ex_succ hk
  have hb := bt_range e i
  have e3 : (V e i * 256 + (bt e i).toNat) / 2 ^ 8 = V e i := by rw [show (2 : Nat) ^ 8 = 256 from rfl]; omega
  have := hK k' hk'
  rw [e3] at this
  simp only [r9PowMod.l0]
  rw [if_pos (by omega)]
  exact this
theorem ref_PowMod_spec {a g : List Int} (e : ByteArray) (ha : NL p a) (hg : NL p g) (hne : g ≠ []) (hla : a.length ≤ 100000) (hlg : g.length ≤ 100000) (hs : e.size ≤ 1000000) : Ev (fun k => r9PowMod.f k p a e g) (rm p g (P a ^ V e e.size)) := by
 obtain ⟨K, hK⟩ := ref_Mod_spec hp hP (NL.one hp.1) hg hne (by simp) (by omega)
 obtain ⟨K2, hK2⟩ := ref_Mod_spec hp hP ha hg hne (by omega) (by omega)
 obtain ⟨K3, hK3⟩ := ref_pow_outer hp hP hg hne hlg e (P a) hs e.size 0 (by omega)
 dsimp only at hK hK2 hK3
 rw [P_one, ← ZX.pow_zero (P a)] at hK
 refine ⟨K + K2 + K3, fun k hk => ?_⟩
 simp only [r9PowMod.f]
 rw [hK k (by omega), Option.bind_some, hK2 k (by omega), Option.bind_some]
 exact hK3 k (by omega)
end
end Go.Proofs.Ytalnaafmonmlmaa.Q
end
section
namespace Go.Proofs.Ytalnaafmonmlmaa.Q
open Go.RowKit Go.Proofs.YtalnaafmonmlmaaW.PrintWords Go.Proofs.YtalnaafmonmlmaaW.PrintLast Go.Proofs.YtalnaafmonmlmaaW.PrintMore Go.Proofs.Ytalnaafmonmlmaa.M Go.Proofs.Ytalnaafmonmlmaa.M.ZX
set_option linter.unusedVariables false
set_option linter.unusedSimpArgs false
theorem u8_num {a : Int} (h0 : 0 ≤ a) (h1 : a ≤ 255) : ((UInt8.ofNat a.toNat).toNat : Int) = a := by
 rw [UInt8.toNat_ofNat']
 omega
theorem bt_hd {a : Int} {l : List Int} (ha : 0 ≤ a ∧ a ≤ 255) : bt (strOfNums (a :: l)) 0 = a := by
 unfold bt
 rw [dif_pos (by rw [strOfNums_size]; simp)]
 exact u8_num ha.1 ha.2
theorem V_two {a b : Int} (ha : 0 ≤ a ∧ a ≤ 255) (hb : 0 ≤ b ∧ b ≤ 255) : V (strOfNums [a, b]) (strOfNums [a, b]).size = a.toNat * 256 + b.toNat := by
 have h0 : bt (strOfNums [a, b]) ((0 : Nat) : Int) = a := by
  unfold bt
  rw [dif_pos (by rw [strOfNums_size]; simp)]
  exact u8_num ha.1 ha.2
 have h1 : bt (strOfNums [a, b]) ((1 : Nat) : Int) = b := by
  unfold bt
  rw [dif_pos (by rw [strOfNums_size]; simp)]
  exact u8_num hb.1 hb.2
 rw [strOfNums_size]
 show ((0 * 256 + (bt (strOfNums [a, b]) ((0 : Nat) : Int)).toNat) * 256 + (bt (strOfNums [a, b]) ((1 : Nat) : Int)).toNat) = _
 rw [h0, h1]
 omega
theorem V_one {a : Int} (ha : 0 ≤ a ∧ a ≤ 255) : V (strOfNums [a]) (strOfNums [a]).size = a.toNat := by
 have h0 : bt (strOfNums [a]) ((0 : Nat) : Int) = a := by
  unfold bt
  rw [dif_pos (by rw [strOfNums_size]; simp)]
  exact u8_num ha.1 ha.2
 rw [strOfNums_size]
 show 0 * 256 + (bt (strOfNums [a]) ((0 : Nat) : Int)).toNat = _
 rw [h0]
 omega
theorem pack_zero {ws : List Int} {i s : Int} {r : ByteArray} (hs0 : 0 ≤ s) (hs : s ≤ 24) (hi0 : 0 ≤ i) (hi : i < ws.length) (hz : shr .u64 (rd ws i) s % 256 = 0) (H : Ev (fun k => r1pack.l1 k ws [] i (s - 8)) r) : Ev (fun k => r1pack.l1 k ws [] i s) r := by
 obtain ⟨K, hK⟩ := H
 dsimp only at hK
 refine ⟨K + 1, fun k hk => ?_⟩
 obtain ⟨k', rfl, hk'⟩ := ex_succ hk
 simp only [r1pack.l1]
 rw [if_pos (by omega), if_pos hi0, if_pos hi, if_pos hs0, if_neg (by simp), hz, if_neg (by omega), wrap_id (by omega) (by omega)]
 exact hK k' hk'
theorem pack_put {ws xs : List Int} {i s : Int} {r : ByteArray} (hs0 : 0 ≤ s) (hs : s ≤ 24) (hi0 : 0 ≤ i) (hi : i < ws.length) (hx : xs.length ≤ 4) (h : xs ≠ [] ∨ 0 < shr .u64 (rd ws i) s % 256) (H : Ev (fun k => r1pack.l1 k ws (xs ++ [shr .u64 (rd ws i) s % 256]) i (s - 8)) r) : Ev (fun k => r1pack.l1 k ws xs i s) r := by
 obtain ⟨K, hK⟩ := H
 dsimp only at hK
 refine ⟨K + 1, fun k hk => ?_⟩
 obtain ⟨k', rfl, hk'⟩ := ex_succ hk
 simp only [r1pack.l1]
 rw [if_pos (by omega), if_pos hi0, if_pos hi, if_pos hs0, wrap_id (x := s - 8) (by omega) (by omega)]
 by_cases hx0 : (xs.length : Int) > 0
 ·rw [if_pos hx0, if_pos (by omega)]
  exact hK k' hk'
 ·have : xs = [] := List.eq_nil_of_length_eq_zero (by omega)
  rcases h with h | h
  ·exact absurd this h
  ·rw [if_neg hx0, if_pos h, if_pos (by omega)]
   exact hK k' hk'
theorem pack_end {ws xs : List Int} {i s : Int} {r : ByteArray} (hs : s < 0) (hi0 : 0 ≤ i) (hi : i ≤ 100) (H : Ev (fun k => r1pack.l0 k ws xs (i - 1)) r) : Ev (fun k => r1pack.l1 k ws xs i s) r := by
 obtain ⟨K, hK⟩ := H
 dsimp only at hK
 refine ⟨K + 1, fun k hk => ?_⟩
 obtain ⟨k', rfl, hk'⟩ := ex_succ hk
 simp only [r1pack.l1]
 rw [if_neg (by omega), wrap_id (by omega) (by omega)]
 exact hK k' hk'
theorem pack_next {ws xs : List Int} {i : Int} {r : ByteArray} (hi0 : 0 ≤ i) (H : Ev (fun k => r1pack.l1 k ws xs i 24) r) : Ev (fun k => r1pack.l0 k ws xs i) r := by
 obtain ⟨K, hK⟩ := H
 dsimp only at hK
 refine ⟨K + 1, fun k hk => ?_⟩
 obtain ⟨k', rfl, hk'⟩ := ex_succ hk
 simp only [r1pack.l0]
 rw [if_pos (by omega)]
 exact hK k' hk'
theorem pack_done {ws xs : List Int} : Ev (fun k => r1pack.l0 k ws xs (-1)) (strOfNums xs) := by
 refine ⟨1, fun k hk => ?_⟩
 obtain ⟨k', rfl, hk'⟩ := ex_succ hk
 simp only [r1pack.l0]
 rw [if_neg (by omega)]
theorem FromInt_bt {p : Nat} (h2 : 1 ≤ p) (hP : p ≤ 65521) : ∃ e : ByteArray, (e.size ≤ 2 ∧ bt e 0 ≠ 0) ∧ V e e.size = p ∧ Ev (fun k => r1FromInt.f k p) e := by
 have hw : IntKind.u64.wrap (p : Int) = p := by unfold IntKind.wrap; simp [IntKind.bits, IntKind.signed]; omega
 have hm : Go.bits .and .u64 (p : Int) 4294967295 = p := by
  have := bits_mask .u64 64 (by decide) (fun n h0 h1 => by unfold IntKind.wrap; simp [IntKind.bits, IntKind.signed]; omega) 32 (by decide) (p : Int) (by omega) (by omega)
  have h4 : Go.bits .and .u64 (p : Int) 4294967295 = (p : Int) % 4294967296 := by simpa using this
  rw [h4]; omega
 have hd : (p : Int) / 4294967296 = 0 := by omega
 have hs : ∀ x : Int, ∀ s : Nat, s ≤ 24 → shr .u64 x (s : Int) = x / 2 ^ s := by
  intro x s h
  unfold shr
  rw [Int.toNat_natCast, Nat.min_eq_left (by simp [IntKind.bits]; omega)]
 have r1 : rd [(p : Int), 0] 1 = 0 := rfl
 have r0 : rd [(p : Int), 0] 0 = p := rfl
 have z : ∀ s : Nat, s ≤ 24 → shr .u64 (rd [(p : Int), 0] 1) (s : Int) % 256 = 0 := by
  intro s h
  rw [hs _ _ h, r1, Int.zero_ediv]; rfl
 have p24 : shr .u64 (rd [(p : Int), 0] 0) 24 % 256 = 0 := by
  have := hs p 24 (by omega); rw [r0]; rw [show ((24 : Nat) : Int) = 24 from rfl] at this; rw [this, show (2 : Int) ^ 24 = 16777216 from rfl]; omega
 have p16 : shr .u64 (rd [(p : Int), 0] 0) 16 % 256 = 0 := by
  have := hs p 16 (by omega); rw [r0]; rw [show ((16 : Nat) : Int) = 16 from rfl] at this; rw [this, show (2 : Int) ^ 16 = 65536 from rfl]; omega
 have p8 : shr .u64 (rd [(p : Int), 0] 0) 8 % 256 = p / 256 := by
  have := hs p 8 (by omega); rw [r0]; rw [show ((8 : Nat) : Int) = 8 from rfl] at this; rw [this, show (2 : Int) ^ 8 = 256 from rfl]; omega
 have p0 : shr .u64 (rd [(p : Int), 0] 0) 0 % 256 = (p : Int) % 256 := by
  have := hs p 0 (by omega); rw [r0]; rw [show ((0 : Nat) : Int) = 0 from rfl] at this; rw [this, show (2 : Int) ^ 0 = 1 from rfl]; omega
 have key : ∃ e : ByteArray, (e.size ≤ 2 ∧ bt e 0 ≠ 0) ∧ V e e.size = p ∧ Ev (fun k => r1pack.l1 k [(p : Int), 0] [] 0 8) e := by
  by_cases hp : 256 ≤ p
  ·refine ⟨strOfNums [(p : Int) / 256, (p : Int) % 256], ⟨by rw [strOfNums_size]; simp, by rw [bt_hd (by omega)]; omega⟩, ?_, ?_⟩
   ·rw [V_two (by omega) (by omega)]; omega
   ·refine pack_put (by omega) (by omega) (by omega) (by simp) (by simp) (.inr (by rw [p8]; omega)) ?_
    rw [p8]
    refine pack_put (s := 0) (by omega) (by omega) (by omega) (by simp) (by simp) (.inl (by simp)) ?_
    rw [p0]
    exact pack_end (by omega) (by omega) (by omega) pack_done
  ·refine ⟨strOfNums [(p : Int) % 256], ⟨by rw [strOfNums_size]; simp, by rw [bt_hd (by omega)]; omega⟩, ?_, ?_⟩
   ·rw [V_one (by omega)]; omega
   ·refine pack_zero (by omega) (by omega) (by omega) (by simp) (by rw [p8]; omega) ?_
    refine pack_put (s := 0) (by omega) (by omega) (by omega) (by simp) (by simp) (.inr (by rw [p0]; omega)) ?_
    rw [p0]
    exact pack_end (by omega) (by omega) (by omega) pack_done
 obtain ⟨e, h1, h3, h4⟩ := key
 have hall : Ev (fun k => r1pack.l0 k [(p : Int), 0] [] 1) e := by
  refine pack_next (by omega) ?_
  refine pack_zero (by omega) (by omega) (by omega) (by simp) (z 24 (by omega)) ?_
  refine pack_zero (s := 16) (by omega) (by omega) (by omega) (by simp) (z 16 (by omega)) ?_
  refine pack_zero (s := 8) (by omega) (by omega) (by omega) (by simp) (z 8 (by omega)) ?_
  refine pack_zero (s := 0) (by omega) (by omega) (by omega) (by simp) (z 0 (by omega)) ?_
  refine pack_end (by omega) (by omega) (by omega) ?_
  refine pack_next (i := 0) (by omega) ?_
  refine pack_zero (by omega) (by omega) (by omega) (by simp) p24 ?_
  exact pack_zero (s := 16) (by omega) (by omega) (by omega) (by simp) p16 h4
 obtain ⟨K, hK⟩ := hall
 dsimp only at hK
 refine ⟨e, h1, h3, K, fun k hk => ?_⟩
 simp only [r1FromInt.f, r1Of.f, r1pack.f]
 rw [hw, hm, hd]
 have e1 : wrap64 ((([(p : Int), 0] : List Int).length : Int) - 1) = 1 := by rw [wrap_id (by simp) (by simp)]; rfl
 rw [e1, hK k hk, Option.bind_some, Option.bind_some]
theorem FromInt_spec {p : Nat} (h2 : 2 ≤ p) (hP : p ≤ 65521) : ∃ e : ByteArray, e.size ≤ 1000000 ∧ V e e.size = p ∧ Ev (fun k => r1FromInt.f k p) e := by
 obtain ⟨e, h1, h3, h4⟩ := FromInt_bt (show 1 ≤ p by omega) hP
 exact ⟨e, by omega, h3, h4⟩
def GcdR (p : Nat) (a b d : List Int) : Prop := NL p d ∧ In p (P d) (P a) ∧ In p (P d) (P b) ∧ ∃ s t, Cg p 0 (P d) (s * P a + t * P b)
section
variable {p : Nat} (hp : Prm p) (hP : p ≤ 65521)
include hp hP
theorem GcdR.nil {a : List Int} (ha : NL p a) : GcdR p a [] a := have _ := hp; have _ := hP; ⟨ha, In.self, by rw [P_nil]; exact In.zero, 1, 0, Cg.of_eq ZX.zr⟩
theorem GcdR.step {a b d : List Int} (hb : NL p b) (hne : b ≠ []) (h : GcdR p b (rm p b (P a)) d) : GcdR p a b d := by
 have _ := hP
 obtain ⟨h1, h2, h3, s, t, h4⟩ := h
 have hr := (rm_spec hp hb hne (P a)).2.2
 refine ⟨h1, (hr.down h2).in_iff.1 h3, h2, ?_⟩
 obtain ⟨x, y, e⟩ := hr
 have e2 : P (rm p b (P a)) = P a + (C p * x + P b * y) := by rw [← e]; exact ZX.zr
 refine ⟨t, s + t * y, h4.trans ?_⟩
 rw [e2]
 show In p 0 _
 rw [show s * P b + t * (P a + (C p * x + P b * y)) - (t * P a + (s + t * y) * P b) = C p * (t * x) from ZX.zr]
 exact In.num _
theorem GcdR.monic {a b d : List Int} (h : GcdR p a b d) {v : Int} (hv : (p : Int) ∣ v * d.getD (d.length - 1) 0 - 1) : GcdR p a b (nf p (C v * P d)) ∧ (nf p (C v * P d)).length ≤ d.length ∧ (d ≠ [] → nf p (C v * P d) ≠ []) := by
 have _ := hP
 obtain ⟨h1, h2, h3, s, t, h4⟩ := h
 have hn := nf_spec (prm_pos hp) (C v * P d)
 have hb : In p (P (nf p (C v * P d))) (P d) := by
  have e : Cg p 0 (C (d.getD (d.length - 1) 0) * P (nf p (C v * P d))) (P d) := by
   refine ((Cg.refl _).mul hn.2).trans ?_
   have : Cg p 0 (C (v * d.getD (d.length - 1) 0) * P d) (C 1 * P d) := (Cg.num hv).mul (Cg.refl _)
   refine (Cg.of_eq ?_).trans (this.trans (Cg.of_eq ?_))
   ·exact ZX.zr
   ·exact ZX.zr
  exact (e.mono.in_iff).1 (In.self.mul' _)
 refine ⟨⟨hn.1, h2.trans hb, h3.trans hb, C v * s, C v * t, ?_⟩, nf_dg (prm_pos hp) ((Dg.of_P (Nat.le_refl _)).scale _), fun hne e => ?_⟩
 ·refine hn.2.trans (((Cg.refl (C v)).mul h4).trans (Cg.of_eq ZX.zr))
 ·rw [e, P_nil] at hb
  exact hne (nl_unique (prm_pos hp) h1 NL.nil (by rw [P_nil]; exact Cg.of_in hb))
theorem fp_Gcd_spec : ∀ (n : Nat) (a b : List Int), b.length ≤ n → NL p a → NL p b → a.length ≤ 100000 → b.length ≤ 100000 → ∃ d, GcdR p a b d ∧ Ev (fun k => fp_Gcd.f k p a b) d
 | n, a, [], _, ha, _, hla, _ => by
  by_cases hne : a = []
  ·subst hne
   refine ⟨_, GcdR.nil hp hP ha, 1, fun k hk => ?_⟩
   obtain ⟨k', rfl, hk'⟩ := ex_succ hk
   simp only [fp_Gcd.f, fp_Gcd.l0, fp_Monic.f]
   rfl
  ·obtain ⟨l0, l1⟩ := ha.lead hp hne
   obtain ⟨v, hv0, hv1, hv, K, hK⟩ := fp_Inv_spec hp hP l0 l1
   obtain ⟨K2, hK2⟩ := fp_Scale_spec (prm_pos hp) hP ha (c := v) (by omega) (by omega)
   dsimp only at hK hK2
   have h0 : 0 < a.length := List.length_pos_iff.2 hne
   have e : wrap64 ((a.length : Int) - 1) = ((a.length - 1 : Nat) : Int) := by rw [wrap_id (by omega) (by omega)]; omega
   refine ⟨_, (GcdR.monic hp hP (GcdR.nil hp hP ha) hv).1, K + K2 + 1, fun k hk => ?_⟩
   obtain ⟨k', rfl, hk'⟩ := ex_succ hk
   simp only [fp_Gcd.f, fp_Gcd.l0, fp_Monic.f]
   rw [if_neg (by simp), if_neg (by omega), e, if_pos (Int.natCast_nonneg _), if_pos (by omega), rd_nat, hK k' (by omega), Option.bind_some, hK2 k' (by omega), Option.bind_some, Option.bind_some]
 | 0, a, b :: bs, h, _, _, _, _ => by simp at h
 | n + 1, a, b :: bs, h, ha, hb, hla, hlb => by
  have hr := rm_spec hp hb (by simp) (P a)
  obtain ⟨d, h1, K, hK⟩ := fp_Gcd_spec n (b :: bs) (rm p (b :: bs) (P a)) (by have := hr.2.1; omega) hb hr.1 hlb (by have := hr.2.1; omega)
  obtain ⟨K2, hK2⟩ := fp_Rem_spec hp hP ha hb (by simp) (by omega) (by omega)
  dsimp only [fp_Gcd.f] at hK hK2
  refine ⟨d, GcdR.step hp hP hb (by simp) h1, K + K2 + 1, fun k hk => ?_⟩
  obtain ⟨k', rfl, hk'⟩ := ex_succ hk
  simp only [fp_Gcd.f, fp_Gcd.l0]
  rw [if_pos (by simp only [List.length_cons]; omega), hK2 k' (by omega), Option.bind_some]
  exact hK k' (by omega)
theorem ref_Gcd_spec : ∀ (n : Nat) (a b : List Int), b.length ≤ n → NL p a → NL p b → a.length ≤ 100000 → b.length ≤ 100000 → ∃ d, GcdR p a b d ∧ Ev (fun k => r9Gcd.f k p a b) d
 | n, a, [], _, ha, _, hla, _ => by
  by_cases hne : a = []
  ·subst hne
   refine ⟨_, GcdR.nil hp hP ha, 1, fun k hk => ?_⟩
   obtain ⟨k', rfl, hk'⟩ := ex_succ hk
   simp only [r9Gcd.f, r9Gcd.l0, r9Monic.f]
   rfl
  ·obtain ⟨l0, l1⟩ := ha.lead hp hne
   obtain ⟨v, hv0, hv1, hv, K, hK⟩ := ref_Inv_spec hp hP l0 l1
   obtain ⟨K2, hK2⟩ := ref_Scale_spec (prm_pos hp) hP v ha (by omega)
   dsimp only at hK hK2
   have h0 : 0 < a.length := List.length_pos_iff.2 hne
   have e : wrap64 ((a.length : Int) - 1) = ((a.length - 1 : Nat) : Int) := by rw [wrap_id (by omega) (by omega)]; omega
   refine ⟨_, (GcdR.monic hp hP (GcdR.nil hp hP ha) hv).1, K + K2 + 1, fun k hk => ?_⟩
   obtain ⟨k', rfl, hk'⟩ := ex_succ hk
   simp only [r9Gcd.f, r9Gcd.l0, r9Monic.f, r9Lead.f]
   rw [if_neg (by simp), if_neg (by omega), if_neg (by omega), e, if_pos (Int.natCast_nonneg _), if_pos (by omega), Option.bind_some, rd_nat, hK k' (by omega), Option.bind_some, hK2 k' (by omega), Option.bind_some, Option.bind_some]
 | 0, a, b :: bs, h, _, _, _, _ => by simp at h
 | n + 1, a, b :: bs, h, ha, hb, hla, hlb => by
  have hr := rm_spec hp hb (by simp) (P a)
  obtain ⟨d, h1, K, hK⟩ := ref_Gcd_spec n (b :: bs) (rm p (b :: bs) (P a)) (by have := hr.2.1; omega) hb hr.1 hlb (by have := hr.2.1; omega)
  obtain ⟨K2, hK2⟩ := ref_Mod_spec hp hP ha hb (by simp) (by omega) (by omega)
  dsimp only [r9Gcd.f] at hK hK2
  refine ⟨d, GcdR.step hp hP hb (by simp) h1, K + K2 + 1, fun k hk => ?_⟩
  obtain ⟨k', rfl, hk'⟩ := ex_succ hk
  simp only [r9Gcd.f, r9Gcd.l0]
  rw [if_pos (by simp only [List.length_cons]; omega), hK2 k' (by omega), Option.bind_some]
  exact hK k' (by omega)
def Free (p : Nat) (f : List Int) (i : Nat) : Prop := ∀ d, NL p d → In p (P d) (P f) → In p (P d) (X ^ p ^ i - X) → d.length ≤ 1
theorem gcd_one_iff {f u d : List Int} {i : Nat} (hf : NL p f) (h2 : 2 ≤ f.length) (hu : ∀ e, In p (P e) (P f) → (In p (P e) (P u) ↔ In p (P e) (X ^ p ^ i - X))) (h : GcdR p u f d) : d.length = 1 ↔ Free p f i := by
 have _ := hP
 obtain ⟨h1, h3, h4, s, t, h5⟩ := h
 constructor
 ·intro hd e he hef hex
  obtain ⟨w, hw⟩ := unit_of_single hp h1 hd
  rw [← Nat.not_lt]
  intro hlt
  have hin : In p (P e) (P d) := (h5.mono.in_iff).2 ((((hu e hef).2 hex).mul' s).add (hef.mul' t))
  exact not_in_one hp he hlt ((hw.mono.in_iff).1 (hin.mul w))
 ·intro hfree
  have hle := hfree d h1 h4 ((hu d h4).1 h3)
  have hne : d ≠ [] := by
   intro e
   rw [e, P_nil] at h4
   have := nl_unique (prm_pos hp) hf NL.nil (by rw [P_nil]; exact Cg.of_in h4)
   rw [this] at h2; simp at h2
  have : 0 < d.length := List.length_pos_iff.2 hne
  omega
theorem dom_iff_half {f : List Int} (hf : NL p f) (h2 : 2 ≤ f.length) : Dom p (P f) ↔ ∀ i, 1 ≤ i → 2 * i ≤ f.length - 1 → Free p f i := by
 have _ := hP
 constructor
 ·intro hD i h1 hi d hd hdf hdx
  rw [← Nat.not_lt]
  intro hlt
  exact field_pass hp hf h2 hD h1 (by omega) hd hlt hdf hdx
 ·intro h
  apply Classical.byContradiction
  intro hD
  obtain ⟨d, k, hd, hd2, hdf, hk1, hk2, hdx, _⟩ := not_field hp hf h2 hD
  have := h k hk1 hk2 d hd hdf hdx
  omega
theorem dom_iff_div {f : List Int} (hf : NL p f) (h2 : 2 ≤ f.length) : Dom p (P f) ↔ (∀ i, 1 ≤ i → i < f.length - 1 → i ∣ f.length - 1 → Free p f i) ∧ Cg p (P f) (X ^ p ^ (f.length - 1)) X := by
 have _ := hP
 constructor
 ·intro hD
  refine ⟨fun i h1 hi _ d hd hdf hdx => ?_, field_frob hp hf h2 hD X⟩
  rw [← Nat.not_lt]
  intro hlt
  exact field_pass hp hf h2 hD h1 hi hd hlt hdf hdx
 ·intro ⟨h, hx⟩
  apply Classical.byContradiction
  intro hD
  obtain ⟨d, k, hd, hd2, hdf, hk1, hk2, hdx, hkd⟩ := not_field hp hf h2 hD
  have := h k hk1 (by omega) (hkd hx) d hd hdf hdx
  omega
end
end Go.Proofs.Ytalnaafmonmlmaa.Q
end
section
namespace Go.Proofs.Ytalnaafmonmlmaa.Q
open Go.RowKit Go.Proofs.YtalnaafmonmlmaaW.PrintWords Go.Proofs.YtalnaafmonmlmaaW.PrintLast Go.Proofs.YtalnaafmonmlmaaW.PrintMore Go.Proofs.Ytalnaafmonmlmaa.M Go.Proofs.Ytalnaafmonmlmaa.M.ZX
set_option linter.unusedVariables false
set_option linter.unusedSimpArgs false
theorem P_X : P [0, 1] = X := ZX.ext fun x => by simp [P_v, X_v, hv]
theorem NL.x {p : Nat} (h : 2 ≤ p) : NL p [0, 1] := ⟨by simp; omega, .inr (by simp)⟩
section
variable {p : Nat} (hp : Prm p) (hP : p ≤ 65521)
include hp hP
theorem fp_Power_spec {a g : List Int} (ha : NL p a) (hg : NL p g) (hne : g ≠ []) (hla : a.length ≤ 100000) (hlg : g.length ≤ 100000) : Ev (fun k => fp_Power.f k p a g) (rm p g (P a ^ p)) := by
 have h2 := hp.1
 obtain ⟨K, hK⟩ := fp_PowMod_spec hp hP (strOfNums [((p : Int) / 256) % 256, (p : Int) % 256]) ha hg hne hla hlg (by rw [strOfNums_size]; simp)
 dsimp only at hK
 rw [V_two (by omega) (by omega), show (((p : Int) / 256) % 256).toNat * 256 + ((p : Int) % 256).toNat = p by omega] at hK
 refine ⟨K, fun k hk => ?_⟩
 simp only [fp_Power.f]
 rw [hK k hk, Option.bind_some]
theorem test_u {f h u : List Int} {i : Nat} (hh : Cg p (P f) (P h) (X ^ p ^ i)) (hu : Cg p (P f) (P u) (P h - X)) : ∀ e, In p (P e) (P f) → (In p (P e) (P u) ↔ In p (P e) (X ^ p ^ i - X)) := have _ := hp; have _ := hP; fun e he =>
 ((hu.trans (hh.sub (Cg.refl X))).down he).in_iff
theorem rm_next {f : List Int} (hf : NL p f) (hne : f ≠ []) (i : Nat) : rm p f (P (rm p f (X ^ p ^ i)) ^ p) = rm p f (X ^ p ^ (i + 1)) := by
 have _ := hP
 refine rm_cg hp hf hne (((rm_spec hp hf hne (X ^ p ^ i)).2.2.pow p).trans (Cg.of_eq ?_))
 rw [← ZX.pow_mul, ← Nat.pow_succ]
theorem fp_irr_loop {f : List Int} (hf : NL p f) (h2 : 2 ≤ f.length) (hl : f.length ≤ 1000) : ∀ (d i : Nat), i + d = f.length - 1 → 1 ≤ i →
  ∃ b : Bool, (b = true ↔ (∀ j, i ≤ j → j < f.length - 1 → j ∣ f.length - 1 → Free p f j) ∧ Cg p (P f) (X ^ p ^ (f.length - 1)) X) ∧ Ev (fun k => fp_Irreducible.l0 k p f ((f.length - 1 : Nat) : Int) [0, 1] (rm p f (X ^ p ^ (i - 1))) (i : Int)) b := by
 intro d
 induction d with
 | zero =>
  intro i hi h1
  have hne := ne_of_two hp hf h2
  have sm := rm_spec hp hf hne
  obtain ⟨K, hK⟩ := fp_Power_spec hp hP (sm (X ^ p ^ (i - 1))).1 hf hne (by have := (sm (X ^ p ^ (i - 1))).2.1; omega) (by omega)
  rw [rm_next hp hP hf hne, show i - 1 + 1 = i by omega] at hK
  obtain ⟨K2, hK2⟩ := fp_Rem_spec hp hP (NL.x hp.1) hf hne (by simp) (by omega)
  rw [P_X] at hK2
  have hla := (sm (X ^ p ^ i)).2.1
  have hlb := (sm X).2.1
  obtain ⟨K3, hK3⟩ := fp_Sub_spec (prm_pos hp) hP (sm (X ^ p ^ i)).1 (sm X).1 (by omega) (by omega)
  dsimp only at hK hK2 hK3
  refine ⟨((nf p (P (rm p f (X ^ p ^ i)) - P (rm p f X))).length : Int) == 0, ?_, K + K2 + K3 + 1, fun k hk => ?_⟩
  ·rw [beq_iff_eq]
   constructor
   ·intro h
    refine ⟨fun j hj hlt _ => by omega, ?_⟩
    have hnil : nf p (P (rm p f (X ^ p ^ i)) - P (rm p f X)) = [] := List.eq_nil_of_length_eq_zero (by omega)
    have h3 := (nf_spec (prm_pos hp) (P (rm p f (X ^ p ^ i)) - P (rm p f X))).2
    rw [hnil, P_nil] at h3
    have h4 : Cg p 0 (P (rm p f (X ^ p ^ i))) (P (rm p f X)) := by
     have := h3.symm.add (Cg.refl (P (rm p f X)))
     exact (Cg.of_eq ZX.zr).trans (this.trans (Cg.of_eq ZX.zr))
    rw [show f.length - 1 = i by omega]
    exact (sm (X ^ p ^ i)).2.2.symm.trans (h4.mono.trans (sm X).2.2)
   ·intro ⟨_, hx⟩
    rw [show f.length - 1 = i by omega] at hx
    rw [rm_cg hp hf hne hx]
    have : nf p (P (rm p f X) - P (rm p f X)) = [] := (nf_eq (prm_pos hp) NL.nil (Cg.of_eq (by rw [P_nil]; exact ZX.zr))).symm
    rw [this]; rfl
  ·obtain ⟨k', rfl, hk'⟩ := ex_succ hk
   simp only [fp_Irreducible.l0]
   rw [if_pos (by omega), hK k' (by omega), Option.bind_some, hK2 k' (by omega), Option.bind_some, hK3 k' (by omega), Option.bind_some, if_pos (by omega)]
 | succ d ih =>
  intro i hi h1
  have hne := ne_of_two hp hf h2
  have sm := rm_spec hp hf hne
  obtain ⟨b, hb, K4, hK4⟩ := ih (i + 1) (by omega) (by omega)
  rw [show i + 1 - 1 = i by omega] at hK4
  obtain ⟨K, hK⟩ := fp_Power_spec hp hP (sm (X ^ p ^ (i - 1))).1 hf hne (by have := (sm (X ^ p ^ (i - 1))).2.1; omega) (by omega)
  rw [rm_next hp hP hf hne, show i - 1 + 1 = i by omega] at hK
  obtain ⟨K2, hK2⟩ := fp_Rem_spec hp hP (NL.x hp.1) hf hne (by simp) (by omega)
  rw [P_X] at hK2
  have hla := (sm (X ^ p ^ i)).2.1
  have hlb := (sm X).2.1
  obtain ⟨K3, hK3⟩ := fp_Sub_spec (prm_pos hp) hP (sm (X ^ p ^ i)).1 (sm X).1 (by omega) (by omega)
  have hn := nf_spec (prm_pos hp) (P (rm p f (X ^ p ^ i)) - P (rm p f X))
  have hln : (nf p (P (rm p f (X ^ p ^ i)) - P (rm p f X))).length ≤ 1000 := nf_dg (prm_pos hp) ((Dg.of_P (by omega)).sub (Dg.of_P (by omega)))
  obtain ⟨g, hg, K5, hK5⟩ := fp_Gcd_spec hp hP f.length _ f (Nat.le_refl _) hn.1 hf (by omega) (by omega)
  have hfree := gcd_one_iff hp hP (i := i) hf h2 (test_u hp hP (sm (X ^ p ^ i)).2.2 (hn.2.mono.trans ((Cg.refl _).sub (sm X).2.2))) hg
  dsimp only at hK hK2 hK3 hK4 hK5
  have hmod : Int.tmod ((f.length - 1 : Nat) : Int) (i : Int) = (((f.length - 1) % i : Nat) : Int) := by rw [Int.tmod_eq_emod_of_nonneg (by omega)]; simp
  have hback : ∀ (q : Prop), ((∀ j, i + 1 ≤ j → j < f.length - 1 → j ∣ f.length - 1 → Free p f j) ∧ q ↔ (∀ j, i ≤ j → j < f.length - 1 → j ∣ f.length - 1 → Free p f j) ∧ q) ∨ (i ∣ f.length - 1 ∧ ¬ Free p f i) := by
   intro q
   by_cases hc : i ∣ f.length - 1 ∧ ¬ Free p f i
   ·exact .inr hc
   ·refine .inl ⟨fun ⟨h, hq⟩ => ⟨fun j hj hlt hd => ?_, hq⟩, fun ⟨h, hq⟩ => ⟨fun j hj hlt hd => h j (by omega) hlt hd, hq⟩⟩
    rcases Nat.lt_or_ge i j with h3 | h3
    ·exact h j h3 hlt hd
    ·obtain rfl : j = i := by omega
     exact Classical.byContradiction fun hn => hc ⟨hd, hn⟩
  by_cases hd : i ∣ f.length - 1
  ·have hz : (f.length - 1) % i = 0 := Nat.mod_eq_zero_of_dvd hd
   by_cases hg1 : g.length = 1
   ·refine ⟨b, ?_, K + K2 + K3 + K4 + K5 + 1, fun k hk => ?_⟩
    ·rcases hback (Cg p (P f) (X ^ p ^ (f.length - 1)) X) with h | h
     ·exact hb.trans h
     ·exact absurd (hfree.1 hg1) h.2
    ·obtain ⟨k', rfl, hk'⟩ := ex_succ hk
     simp only [fp_Irreducible.l0]
     rw [if_pos (by omega), hK k' (by omega), Option.bind_some, hK2 k' (by omega), Option.bind_some, hK3 k' (by omega), Option.bind_some, if_neg (by omega), if_neg (by omega), hmod, if_pos (by omega), hK5 k' (by omega), Option.bind_some, if_pos (by omega), succ_wrap (by omega)]
     exact hK4 k' (by omega)
   ·refine ⟨false, ?_, K + K2 + K3 + K4 + K5 + 1, fun k hk => ?_⟩
    ·constructor
     ·intro h; cases h
     ·intro ⟨h, _⟩
      exact absurd (hfree.2 (h i (Nat.le_refl _) (by omega) hd)) hg1
    ·obtain ⟨k', rfl, hk'⟩ := ex_succ hk
     simp only [fp_Irreducible.l0]
     rw [if_pos (by omega), hK k' (by omega), Option.bind_some, hK2 k' (by omega), Option.bind_some, hK3 k' (by omega), Option.bind_some, if_neg (by omega), if_neg (by omega), hmod, if_pos (by omega), hK5 k' (by omega), Option.bind_some, if_neg (by omega)]
  ·have hz : (f.length - 1) % i ≠ 0 := fun h => hd (Nat.dvd_of_mod_eq_zero h)
   refine ⟨b, ?_, K + K2 + K3 + K4 + 1, fun k hk => ?_⟩
   ·rcases hback (Cg p (P f) (X ^ p ^ (f.length - 1)) X) with h | h
    ·exact hb.trans h
    ·exact absurd h.1 hd
   ·obtain ⟨k', rfl, hk'⟩ := ex_succ hk
    simp only [fp_Irreducible.l0]
    rw [if_pos (by omega), hK k' (by omega), Option.bind_some, hK2 k' (by omega), Option.bind_some, hK3 k' (by omega), Option.bind_some, if_neg (by omega), if_neg (by omega), hmod, if_neg (by omega), succ_wrap (by omega)]
    exact hK4 k' (by omega)
theorem fp_Irreducible_spec {f : List Int} (hf : NL p f) (hl : f.length ≤ 1000) : ∃ b : Bool, (b = true ↔ 2 ≤ f.length ∧ Dom p (P f)) ∧ Ev (fun k => fp_Irreducible.f k p f) b := by
 have e : wrap64 ((f.length : Int) - 1) = (f.length : Int) - 1 := wrap_id (by omega) (by omega)
 by_cases h2 : 2 ≤ f.length
 ·have hne := ne_of_two hp hf h2
  obtain ⟨b, hb, K, hK⟩ := fp_irr_loop hp hP hf h2 hl (f.length - 2) 1 (by omega) (Nat.le_refl _)
  obtain ⟨K2, hK2⟩ := fp_Rem_spec hp hP (NL.x hp.1) hf hne (by simp) (by omega)
  rw [P_X] at hK2
  rw [Nat.sub_self, Nat.pow_zero, ZX.pow_one] at hK
  dsimp only at hK hK2
  refine ⟨b, ?_, K + K2, fun k hk => ?_⟩
  ·rw [hb, dom_iff_div hp hP hf h2]
   exact ⟨fun h => ⟨h2, h⟩, fun h => h.2⟩
  ·simp only [fp_Irreducible.f]
   rw [e, if_neg (by omega), Option.bind_some, hK2 k (by omega), Option.bind_some, show (f.length : Int) - 1 = ((f.length - 1 : Nat) : Int) by omega]
   exact hK k (by omega)
 ·refine ⟨false, ⟨fun h => (by cases h), fun h => absurd h.1 h2⟩, 0, fun k _ => ?_⟩
  simp only [fp_Irreducible.f]
  rw [e, if_pos (by omega)]
theorem ref_irr_loop {f : List Int} (hf : NL p f) (h2 : 2 ≤ f.length) (hl : f.length ≤ 1000) : ∀ (d i : Nat), i + d = f.length → 1 ≤ i →
  ∃ b : Bool, (b = true ↔ (∀ j, i ≤ j → 2 * j ≤ f.length - 1 → Free p f j)) ∧ Ev (fun k => r9IsIrreducible.l0 k p f (rm p f (X ^ p ^ (i - 1))) (i : Int)) b := by
 intro d
 have e : wrap64 ((f.length : Int) - 1) = (f.length : Int) - 1 := wrap_id (by omega) (by omega)
 induction d with
 | zero =>
  intro i hi h1
  refine ⟨true, ⟨fun _ j hj h => by omega, fun _ => rfl⟩, 1, fun k hk => ?_⟩
  obtain ⟨k', rfl, hk'⟩ := ex_succ hk
  simp only [r9IsIrreducible.l0]
  rw [e, wrap_id (x := 2 * (i : Int)) (by omega) (by omega), if_neg (by omega)]
 | succ d ih =>
  intro i hi h1
  by_cases hh : 2 * i ≤ f.length - 1
  ·have hne := ne_of_two hp hf h2
   have sm := rm_spec hp hf hne
   obtain ⟨b, hb, K4, hK4⟩ := ih (i + 1) (by omega) (by omega)
   rw [show i + 1 - 1 = i by omega] at hK4
   obtain ⟨y, hy1, hy2, K, hK⟩ := FromInt_spec hp.1 hP
   obtain ⟨K2, hK2⟩ := ref_PowMod_spec hp hP y (sm (X ^ p ^ (i - 1))).1 hf hne (by have := (sm (X ^ p ^ (i - 1))).2.1; omega) (by omega) hy1
   rw [hy2, rm_next hp hP hf hne, show i - 1 + 1 = i by omega] at hK2
   have hla := (sm (X ^ p ^ i)).2.1
   obtain ⟨K3, hK3⟩ := ref_Sub_spec (prm_pos hp) hP (sm (X ^ p ^ i)).1 (NL.x hp.1) (by omega) (by simp)
   rw [P_X] at hK3
   have hn := nf_spec (prm_pos hp) (P (rm p f (X ^ p ^ i)) - X)
   have hln : (nf p (P (rm p f (X ^ p ^ i)) - X)).length ≤ 1000 := nf_dg (prm_pos hp) ((Dg.of_P (by omega)).sub (by rw [← P_X]; exact Dg.of_P (by simp)))
   obtain ⟨g, hg, K5, hK5⟩ := ref_Gcd_spec hp hP f.length _ f (Nat.le_refl _) hn.1 hf (by omega) (by omega)
   have hfree := gcd_one_iff hp hP (i := i) hf h2 (test_u hp hP (sm (X ^ p ^ i)).2.2 hn.2.mono) hg
   dsimp only at hK hK2 hK3 hK4 hK5
   by_cases hg1 : g.length = 1
   ·refine ⟨b, ?_, K + K2 + K3 + K4 + K5 + 1, fun k hk => ?_⟩
    ·rw [hb]
     constructor
     ·intro h j hj hj2
      rcases Nat.lt_or_ge i j with h3 | h3
      ·exact h j h3 hj2
      ·obtain rfl : j = i := by omega
       exact hfree.1 hg1
     ·intro h j hj hj2
      exact h j (by omega) hj2
    ·obtain ⟨k', rfl, hk'⟩ := ex_succ hk
     simp only [r9IsIrreducible.l0, r9X.f]
     rw [e, wrap_id (x := 2 * (i : Int)) (by omega) (by omega), if_pos (by omega), hK k' (by omega), Option.bind_some, hK2 k' (by omega), Option.bind_some, Option.bind_some, hK3 k' (by omega), Option.bind_some, hK5 k' (by omega), Option.bind_some, if_pos (by omega), succ_wrap (by omega)]
     exact hK4 k' (by omega)
   ·refine ⟨false, ?_, K + K2 + K3 + K4 + K5 + 1, fun k hk => ?_⟩
    ·constructor
     ·intro h; cases h
     ·intro h
      exact absurd (hfree.2 (h i (Nat.le_refl _) hh)) hg1
    ·obtain ⟨k', rfl, hk'⟩ := ex_succ hk
     simp only [r9IsIrreducible.l0, r9X.f]
     rw [e, wrap_id (x := 2 * (i : Int)) (by omega) (by omega), if_pos (by omega), hK k' (by omega), Option.bind_some, hK2 k' (by omega), Option.bind_some, Option.bind_some, hK3 k' (by omega), Option.bind_some, hK5 k' (by omega), Option.bind_some, if_neg (by omega)]
  ·refine ⟨true, ⟨fun _ j hj h => by omega, fun _ => rfl⟩, 1, fun k hk => ?_⟩
   obtain ⟨k', rfl, hk'⟩ := ex_succ hk
   simp only [r9IsIrreducible.l0]
   rw [e, wrap_id (x := 2 * (i : Int)) (by omega) (by omega), if_neg (by omega)]
theorem ref_Irreducible_spec {f : List Int} (hf : NL p f) (hl : f.length ≤ 1000) : ∃ b : Bool, (b = true ↔ 2 ≤ f.length ∧ Dom p (P f)) ∧ Ev (fun k => r9IsIrreducible.f k p f) b := by
 by_cases h2 : 2 ≤ f.length
 ·have hne := ne_of_two hp hf h2
  obtain ⟨b, hb, K, hK⟩ := ref_irr_loop hp hP hf h2 hl (f.length - 1) 1 (by omega) (Nat.le_refl _)
  obtain ⟨K2, hK2⟩ := ref_Mod_spec hp hP (NL.x hp.1) hf hne (by simp) (by omega)
  rw [P_X] at hK2
  rw [Nat.sub_self, Nat.pow_zero, ZX.pow_one] at hK
  dsimp only at hK hK2
  refine ⟨b, ?_, K + K2, fun k hk => ?_⟩
  ·rw [hb, dom_iff_half hp hP hf h2]
   exact ⟨fun h => ⟨h2, h⟩, fun h => h.2⟩
  ·simp only [r9IsIrreducible.f, r9X.f]
   rw [if_neg (by omega), Option.bind_some, hK2 k (by omega), Option.bind_some]
   exact hK k (by omega)
 ·refine ⟨false, ⟨fun h => (by cases h), fun h => absurd h.1 h2⟩, 0, fun k _ => ?_⟩
  simp only [r9IsIrreducible.f]
  rw [if_pos (by omega)]
end
end Go.Proofs.Ytalnaafmonmlmaa.Q
end
section
namespace Go.Proofs.Ytalnaafmonmlmaa.Q
open Go.RowKit Go.Proofs.YtalnaafmonmlmaaW.PrintWords Go.Proofs.YtalnaafmonmlmaaW.PrintLast Go.Proofs.YtalnaafmonmlmaaW.PrintMore Go.Proofs.Ytalnaafmonmlmaa.M Go.Proofs.Ytalnaafmonmlmaa.M.ZX
set_option linter.unusedVariables false
set_option linter.unusedSimpArgs false
def toS (q : Nat × Nat) : S107 := ⟨q.1, q.2⟩
theorem toS_f0 (q : Nat × Nat) : (toS q).f0 = (q.1 : Int) := id rfl
theorem toS_f1 (q : Nat × Nat) : (toS q).f1 = (q.2 : Int) := id rfl
noncomputable def facS (n : Nat) : List S107 := (fac n).map toS
theorem rd_at (pre : List (Nat × Nat)) (q : Nat × Nat) (rest : List (Nat × Nat)) : rd_T107 ((pre ++ q :: rest).map toS) (pre.length : Int) = toS q := by
 unfold rd_T107
 rw [Int.toNat_natCast, List.getD_eq_getElem?_getD, List.getElem?_map, List.getElem?_append_right (Nat.le_refl _)]
 simp
theorem len_lt : ∀ {l : List (Nat × Nat)}, (∀ q ∈ l, Prm q.1 ∧ 1 ≤ q.2) → l.length < prodL l
 | [], _ => by simp [prodL]
 | q :: l, h => by
  have h1 := len_lt fun q hq => h q (List.mem_cons_of_mem _ hq)
  have h2 := h q List.mem_cons_self
  have h3 : 2 ≤ q.1 ^ q.2 := Nat.le_trans h2.1.1 (by
   have := Nat.pow_le_pow_right (n := q.1) (by have := h2.1.1; omega) h2.2
   rwa [Nat.pow_one] at this)
  have h4 : 2 * prodL l ≤ q.1 ^ q.2 * prodL l := Nat.mul_le_mul_right _ h3
  simp only [prodL, List.length_cons]
  omega
theorem trial_len {n0 n d : Nat} {l : List (Nat × Nat)} (h : Trial n0 l n d) : l.length ≤ n0 := by
 have h1 := len_lt h.prm
 have h2 : prodL l * 1 ≤ prodL l * n := Nat.mul_le_mul_left _ h.pos
 have h3 := h.prod
 omega
theorem trial_n_le {n0 n d : Nat} {l : List (Nat × Nat)} (h : Trial n0 l n d) : n ≤ n0 := by
 have h2 : 1 * n ≤ prodL l * n := Nat.mul_le_mul_right _ (by have := prodL_pos h.prm; omega)
 have h3 := h.prod
 omega
theorem fac_len {n : Nat} (h : 0 < n) : (fac n).length < n := by
 have := len_lt (fac_spec h).prm
 rwa [(fac_spec h).prod] at this
theorem tryL_spec (d : Nat) (hd : 2 ≤ d) : ∀ (c m c0 : Nat), ¬ d ∣ m → d ^ c * m ≤ 2147483647 → c0 + c ≤ 4294967296 → Ev (fun k => tryL k (d : Int) ((d ^ c * m : Nat) : Int) (c0 : Int)) ((m : Int), ((c0 + c : Nat) : Int))
 | 0, m, c0, hm, hM, hc => by
  refine ⟨1, fun k hk => ?_⟩
  obtain ⟨j, rfl, hj⟩ := ex_succ hk
  have h0 : m % d ≠ 0 := fun h => hm (Nat.dvd_of_mod_eq_zero h)
  simp only [tryL]
  rw [Nat.pow_zero, Nat.one_mul, if_neg (by omega), Int.tmod_eq_emod_of_nonneg (by omega), show (m : Int) % d = ((m % d : Nat) : Int) by simp, if_neg (by omega)]
  rfl
 | c + 1, m, c0, hm, hM, hc => by
  have e : d ^ (c + 1) * m = d * (d ^ c * m) := by rw [Nat.pow_succ, Nat.mul_comm (d ^ c) d, Nat.mul_assoc]
  have hle : d ^ c * m ≤ d * (d ^ c * m) := Nat.le_mul_of_pos_left _ (by omega)
  obtain ⟨K, h⟩ := tryL_spec d hd c m (c0 + 1) hm (by rw [e] at hM; omega) (by omega)
  dsimp only at h
  refine ⟨K + 1, fun k hk => ?_⟩
  obtain ⟨j, rfl, hj⟩ := ex_succ hk
  have h1 := h j hj
  simp only [tryL]
  rw [e] at hM ⊢
  generalize d ^ c * m = t at *
  have e2 : ((d * t : Nat) : Int) % d = 0 := by rw [← Int.natCast_emod, Nat.mul_mod_right]; rfl
  have e3 : ((d * t : Nat) : Int) / d = t := by rw [← Int.natCast_ediv, Nat.mul_div_cancel_left _ (by omega)]
  rw [if_neg (by omega), Int.tmod_eq_emod_of_nonneg (by omega), if_pos e2, Int.tdiv_eq_ediv_of_nonneg (by omega), e3, wrap_id (by omega) (by omega), wrap_id (by omega) (by omega)]
  rw [show c0 + 1 + c = c0 + (c + 1) by omega] at h1
  exact h1
theorem tryF_spec (d : Nat) (hd : 2 ≤ d) (c m : Nat) (l : List (Nat × Nat)) (hm : ¬ d ∣ m) (hM : d ^ c * m ≤ 2147483647) (hl : l.length ≤ 2147483647) : Ev (fun k => tryF k (d : Int) ((d ^ c * m : Nat) : Int) (l.map toS)) ((m : Int), (if 0 < c then l ++ [(d, c)] else l).map toS) := by
 have hc : c ≤ 2147483647 := by
  have h1 : c < 2 ^ c := Nat.lt_two_pow_self
  have h2 : 2 ^ c ≤ d ^ c := Nat.pow_le_pow_left hd c
  have h3 : 0 < m := by
   rcases Nat.eq_zero_or_pos m with rfl | h
   ·exact absurd ⟨0, by simp⟩ hm
   ·exact h
  have h4 : d ^ c * 1 ≤ d ^ c * m := Nat.mul_le_mul_left _ h3
  omega
 obtain ⟨K, h⟩ := tryL_spec d hd c m 0 hm hM (by omega)
 dsimp only at h
 refine ⟨K, fun k hk => ?_⟩
 have h1 := h k hk
 rw [Nat.zero_add] at h1
 simp only [tryF]
 rw [show ((0 : Nat) : Int) = 0 from rfl] at h1
 rw [h1, Option.bind_some]
 by_cases h0 : 0 < c
 ·rw [if_pos (by simp; omega), if_pos (by rw [List.length_map]; omega), if_pos h0, List.map_append]
  rfl
 ·rw [if_neg (by simp; omega), if_neg h0]
theorem factor_loop (N : Nat) (hN : N ≤ 2147483647) : ∀ (M d n : Nat) (l : List (Nat × Nat)), N + 4 ≤ d + M → Trial N l n d → 3 ≤ d → d % 2 = 1 → d ≤ 46342 → ∃ K, ∀ kk k, K ≤ kk → K ≤ k → rs_factor.l0 kk k (n : Int) (l.map toS) (d : Int) = some (facS N) := by
 intro M
 induction M with
 | zero =>
  intro d n l h1 ht h3 hodd h5
  -- d is beyond N: nothing is left
  have hn := trial_n_le ht
  have hpos := ht.pos
  have hdd : n < d * d := by
   have : 2 * d ≤ d * d := Nat.mul_le_mul_right d (by omega)
   omega
  refine ⟨1, fun kk k _ hk => ?_⟩
  obtain ⟨j, rfl, hj⟩ := ex_succ hk
  have h1n : n = 1 := by
   apply Classical.byContradiction
   intro h
   have := ht.last (by omega) hdd
   omega
  have hw : d * d ≤ 46342 * 46342 := Nat.mul_le_mul h5 h5
  simp only [rs_factor.l0]
  rw [← Int.natCast_mul, wrap_id (by omega) (by omega), if_neg (by omega), if_neg (by omega)]
  unfold facS
  rw [(ht.done h1n).eq_fac]
 | succ M ih =>
  intro d n l h1 ht h3 hodd h5
  have hw : d * d ≤ 46342 * 46342 := Nat.mul_le_mul h5 h5
  have hn := trial_n_le ht
  have hpos := ht.pos
  have hlen := trial_len ht
  by_cases hdd : d * d ≤ n
  ·obtain ⟨c, m, e, hm⟩ := exists_pow_split d (by omega) n ht.pos
   have ht2 := ht.divided (by omega) e hm
   have hd2 : d ≤ 46340 := by
    apply Classical.byContradiction
    intro h
    have : 46341 * 46341 ≤ d * d := Nat.mul_le_mul (by omega) (by omega)
    omega
   have ht3 : Trial N (if 0 < c then l ++ [(d, c)] else l) m (d + 2) := ht2.skip (by omega) fun p hp hpm => by
    have h6 := ht2.big p hp hpm
    have h7 : p ≠ d + 1 := by
     rintro rfl
     rcases hp.2 2 ⟨(d + 1) / 2, by omega⟩ with h | h <;> omega
    omega
   obtain ⟨K, hK⟩ := ih (d + 2) m _ (by omega) ht3 (by omega) (by omega) (by omega)
   obtain ⟨K2, h2⟩ := tryF_spec d (by omega) c m l hm (by rw [← e]; omega) (by omega)
   dsimp only at h2
   rw [← e] at h2
   refine ⟨K + K2 + 1, fun kk k hkk hk => ?_⟩
   obtain ⟨j, rfl, hj⟩ := ex_succ hk
   simp only [rs_factor.l0]
   rw [← Int.natCast_mul, wrap_id (by omega) (by omega), if_pos (by omega), h2 kk (by omega), Option.bind_some, wrap_id (by omega) (by omega)]
   exact hK kk j (by omega) (by omega)
  ·by_cases h1n : n = 1
   ·refine ⟨1, fun kk k _ hk => ?_⟩
    obtain ⟨j, rfl, hj⟩ := ex_succ hk
    simp only [rs_factor.l0]
    rw [← Int.natCast_mul, wrap_id (by omega) (by omega), if_neg (by omega), if_neg (by omega)]
    unfold facS
    rw [(ht.done h1n).eq_fac]
   ·have ht2 := ht.last' (by omega) (by omega)
    have ht3 := ht2.divided (c := 1) (m := 1) (by omega) (by simp) (fun h => by have := Nat.le_of_dvd (by omega) h; omega)
    obtain ⟨K2, h2⟩ := tryF_spec n (by omega) 1 1 l (fun h => by have := Nat.le_of_dvd (by omega) h; omega) (by simp; omega) (by omega)
    dsimp only at h2
    rw [Nat.pow_one, Nat.mul_one] at h2
    refine ⟨K2 + 1, fun kk k hkk hk => ?_⟩
    obtain ⟨j, rfl, hj⟩ := ex_succ hk
    simp only [rs_factor.l0]
    rw [← Int.natCast_mul, wrap_id (by omega) (by omega), if_neg (by omega), if_pos (by omega), h2 kk (by omega), Option.bind_some]
    unfold facS
    rw [← (ht3.done rfl).eq_fac]
theorem factor_spec {n : Nat} (h0 : 0 < n) (hN : n ≤ 2147483647) : Ev (fun k => rs_factor.f k (n : Int)) (facS n) := by
 obtain ⟨c, m, e, hm⟩ := exists_pow_split 2 (by omega) n h0
 have ht := (Trial.start h0).divided (by omega) e hm
 obtain ⟨K, hK⟩ := factor_loop n hN (n + 4) 3 m _ (by omega) ht (by omega) (by omega) (by omega)
 obtain ⟨K2, h2⟩ := tryF_spec 2 (by omega) c m [] hm (by rw [← e]; omega) (by simp)
 dsimp only at h2
 rw [← e] at h2
 refine ⟨K + K2, fun k hk => ?_⟩
 have h3 := h2 k (by omega)
 simp only [rs_factor.f]
 rw [show ((2 : Nat) : Int) = 2 from rfl] at h3
 rw [List.map_nil] at h3
 rw [h3, Option.bind_some]
 exact hK k k (by omega) (by omega)
theorem prime_spec {n : Nat} (h0 : 0 < n) (hN : n ≤ 2147483647) : ∃ b : Bool, (b = true ↔ Prm n) ∧ Ev (fun k => rs_prime.f k (n : Int)) b := by
 obtain ⟨K, hK⟩ := factor_spec h0 hN
 dsimp only at hK
 by_cases h1 : (fac n).length = 1
 ·obtain ⟨q, hq⟩ := List.length_eq_one_iff.1 h1
  refine ⟨((q.2 : Int) == 1), ?_, K, fun k hk => ?_⟩
  ·rw [beq_iff_eq, fac_prm_iff h0, hq]
   constructor
   ·intro h; exact ⟨q.1, by rw [show q = (q.1, q.2) from rfl, show q.2 = 1 by omega]⟩
   ·rintro ⟨p, h⟩
    have := (List.cons.inj h).1
    rw [this]
    rfl
  ·simp only [rs_prime.f]
   rw [hK k hk, Option.bind_some]
   have hl : (facS n).length = 1 := by unfold facS; rw [List.length_map]; exact h1
   rw [hl, if_pos (by omega), if_pos (by omega)]
   unfold facS
   rw [hq]
   have := rd_at [] q []
   simp only [List.nil_append, List.length_nil] at this
   rw [show (0 : Int) = ((0 : Nat) : Int) from rfl, this]
   rfl
 ·refine ⟨false, ?_, K, fun k hk => ?_⟩
  ·rw [fac_prm_iff h0]
   constructor
   ·intro h; cases h
   ·rintro ⟨p, h⟩; rw [h] at h1; exact absurd rfl h1
  ·simp only [rs_prime.f]
   rw [hK k hk, Option.bind_some]
   have hl : (facS n).length = (fac n).length := by unfold facS; rw [List.length_map]
   rw [if_neg (by omega)]
theorem bad_one {m : Int} (h0 : 1 ≤ m) (h1 : m ≤ 2147483647) : rs_bad.f [m] = some false := by
 simp only [rs_bad.f, List.any_cons, List.any_nil, badP, Bool.or_false]
 rw [decide_eq_false (by omega), decide_eq_false (by omega)]
 rfl
theorem IsPrime_prog {n : Nat} (h0 : 0 < n) (hM : n ≤ 2147483647) : ∃ b : Bool, (b = true ↔ Prm n) ∧ Ev (fun k => rs_IsPrime.f k (n : Int)) (b, 0) := by
 obtain ⟨b, hb, K, hK⟩ := prime_spec h0 hM
 dsimp only at hK
 refine ⟨b, hb, K, fun k hk => ?_⟩
 simp only [rs_IsPrime.f]
 rw [bad_one (by omega) (by omega), Option.bind_some, if_neg (by simp), hK k hk, Option.bind_some]
theorem isPrime_loop (n : Nat) (hn : n ≤ 2147483647) : ∀ (M d : Nat), n + 2 ≤ d + M → 2 ≤ d → d ≤ 46341 → (∀ p, Prm p → p ∣ n → d ≤ p) → 1 ≤ n → ∃ b : Bool, (b = true ↔ Prm n) ∧ Ev (fun k => r4IsPrime.l0 k (n : Int) (d : Int)) b := by
 intro M
 induction M with
 | zero =>
  intro d h1 h2 h5 hb hn1
  have hdd : n < d * d := by
   have : 2 * d ≤ d * d := Nat.mul_le_mul_right d (by omega)
   omega
  have hw : d * d ≤ 46341 * 46341 := Nat.mul_le_mul h5 h5
  refine ⟨decide ((n : Int) > 1), ?_, 1, fun k hk => ?_⟩
  ·rw [decide_eq_true_eq]
   constructor
   ·intro h
    exact prm_of_small (by omega) fun p hp hd => Nat.lt_of_lt_of_le hdd (Nat.mul_le_mul (hb p hp hd) (hb p hp hd))
   ·intro h; have := h.1; omega
  ·obtain ⟨j, rfl, hj⟩ := ex_succ hk
   simp only [r4IsPrime.l0]
   rw [← Int.natCast_mul, wrap_id (by omega) (by omega), if_neg (by omega)]
 | succ M ih =>
  intro d h1 h2 h5 hb hn1
  have hw : d * d ≤ 46341 * 46341 := Nat.mul_le_mul h5 h5
  by_cases hdd : d * d ≤ n
  ·by_cases hdv : d ∣ n
   ·refine ⟨false, ?_, 1, fun k hk => ?_⟩
    ·constructor
     ·intro h; cases h
     ·intro h
      have h3 : d ≠ n := by
       rintro rfl
       have : 2 * d ≤ d * d := Nat.mul_le_mul_right d (by omega)
       omega
      exact absurd h (not_prm_of hdv (by omega) h3)
    ·obtain ⟨j, rfl, hj⟩ := ex_succ hk
     simp only [r4IsPrime.l0]
     rw [← Int.natCast_mul, wrap_id (by omega) (by omega), if_pos (by omega), if_neg (by omega), Int.tmod_eq_emod_of_nonneg (by omega), if_pos]
     rw [← Int.natCast_emod, Nat.mod_eq_zero_of_dvd hdv]
     rfl
   ·have hd2 : d ≤ 46340 := by
     apply Classical.byContradiction
     intro h
     have : 46341 * 46341 ≤ d * d := Nat.mul_le_mul (by omega) (by omega)
     omega
    obtain ⟨b, hb1, K, hK⟩ := ih (d + 1) (by omega) (by omega) (by omega) (fun p hp hd => by
     have h3 := hb p hp hd
     have h4 : p ≠ d := by rintro rfl; exact hdv hd
     omega) hn1
    dsimp only at hK
    refine ⟨b, hb1, K + 1, fun k hk => ?_⟩
    obtain ⟨j, rfl, hj⟩ := ex_succ hk
    have h0 : n % d ≠ 0 := fun h => hdv (Nat.dvd_of_mod_eq_zero h)
    simp only [r4IsPrime.l0]
    rw [← Int.natCast_mul, wrap_id (by omega) (by omega), if_pos (by omega), if_neg (by omega), Int.tmod_eq_emod_of_nonneg (by omega), if_neg (by rw [← Int.natCast_emod]; omega), wrap_id (by omega) (by omega)]
    exact hK j hj
  ·refine ⟨decide ((n : Int) > 1), ?_, 1, fun k hk => ?_⟩
   ·rw [decide_eq_true_eq]
    constructor
    ·intro h
     exact prm_of_small (by omega) fun p hp hd => Nat.lt_of_lt_of_le (by omega) (Nat.mul_le_mul (hb p hp hd) (hb p hp hd))
    ·intro h; have := h.1; omega
   ·obtain ⟨j, rfl, hj⟩ := ex_succ hk
    simp only [r4IsPrime.l0]
    rw [← Int.natCast_mul, wrap_id (by omega) (by omega), if_neg (by omega)]
theorem ref_IsPrime_spec {n : Nat} (h0 : 0 < n) (hN : n ≤ 2147483647) : ∃ b : Bool, (b = true ↔ Prm n) ∧ Ev (fun k => r4IsPrime.f k (n : Int)) b := isPrime_loop n hN (n + 2) 2 (by omega) (by omega) (by omega) (fun _ hp _ => hp.1) h0
abbrev PrmI (p : Int) : Prop := 2 ≤ p ∧ p ≤ 65521 ∧ Prm p.toNat
noncomputable instance (p : Int) : Decidable (PrmI p) := Classical.propDecidable _
noncomputable def ckP (p : Int) (l : List Int) : Int := open Classical in
 if ¬ PrmI p then 7 else if l.length > 65 then 4 else if ∀ c ∈ l, 0 ≤ c ∧ c < p then (if Nz l then 0 else 1) else 1
theorem pm_prime_spec (p : Int) : Ev (fun k => pm_prime.f k p) (if PrmI p then 0 else 7) := by
 by_cases h : 2 ≤ p ∧ p ≤ 65521
 ·obtain ⟨n, rfl⟩ := Int.eq_ofNat_of_zero_le (show 0 ≤ p by omega)
  obtain ⟨b, hb, K, hK⟩ := IsPrime_prog (n := n) (by omega) (by omega)
  dsimp only at hK
  refine ⟨K + 1, fun k hk => ?_⟩
  obtain ⟨k', rfl, hk'⟩ := ex_succ hk
  simp only [pm_prime.f, pm_prime.j0]
  rw [if_neg (by omega), decide_eq_false (by omega), if_neg (by simp), hK k' hk', Option.bind_some, if_pos rfl]
  cases b with
  | true => rw [if_pos rfl, if_pos ⟨h.1, h.2, by simpa using hb.1 rfl⟩]
  | false => rw [if_neg (by simp), if_neg (fun h3 => by have := hb.2 (by simpa using h3.2.2); cases this)]
 ·refine ⟨1, fun k hk => ?_⟩
  obtain ⟨k', rfl, hk'⟩ := ex_succ hk
  simp only [pm_prime.f, pm_prime.j0]
  rw [if_neg (c := PrmI p) (fun h3 => h ⟨h3.1, h3.2.1⟩)]
  by_cases h2 : p < 2
  ·rw [if_pos h2, if_pos trivial]
  ·rw [if_neg h2, decide_eq_true (by omega), if_pos rfl]
theorem nz_iff {l : List Int} (h : 0 < l.length) : Nz l ↔ l.getD (l.length - 1) 0 ≠ 0 := ⟨fun e => by
 rcases e with e | e
 ·rw [e] at h; simp at h
 ·exact e, .inr⟩
theorem pm_Check_spec (p : Int) (l : List Int) : Ev (fun k => pm_Check.f k p l) (ckP p l) := by
 obtain ⟨K, hK⟩ := pm_prime_spec p
 dsimp only at hK
 refine ⟨K, fun k hk => ?_⟩
 simp only [pm_Check.f]
 rw [hK k hk, Option.bind_some]
 unfold ckP
 by_cases h : PrmI p
 ·rw [if_pos h, if_pos rfl, if_neg (not_not_intro h)]
  unfold pm_Check.g
  by_cases h65 : l.length > 65
  ·rw [if_pos h65, if_pos h65]
  ·rw [if_neg h65, if_neg h65]
   have hany : l.any (badC p) = true ↔ ¬ ∀ c ∈ l, 0 ≤ c ∧ c < p := by
    rw [List.any_eq_true]
    constructor
    ·rintro ⟨c, hc, hb⟩ h3
     have := h3 c hc
     simp only [badC, Bool.or_eq_true, decide_eq_true_eq] at hb
     omega
    ·intro h3
     apply Classical.byContradiction
     intro h4
     refine h3 fun c hc => ?_
     have h5 : ¬ (badC p c = true) := fun h6 => h4 ⟨c, hc, h6⟩
     simp only [badC, Bool.or_eq_true, decide_eq_true_eq] at h5
     omega
   by_cases hr : ∀ c ∈ l, 0 ≤ c ∧ c < p
   ·rw [if_neg (fun h3 => (hany.1 h3) hr), if_pos hr]
    by_cases h0 : 0 < l.length
    ·have e : wrap64 ((l.length : Int) - 1) = ((l.length - 1 : Nat) : Int) := by rw [wrap_id (by omega) (by omega)]; omega
     rw [if_pos (by omega), e, rd_nat]
     by_cases hz : l.getD (l.length - 1) 0 = 0
     ·rw [if_pos hz, if_neg (fun h3 => (nz_iff h0).1 h3 hz)]
     ·rw [if_neg hz, if_pos ((nz_iff h0).2 hz)]
    ·rw [if_neg (by omega), if_pos (.inl (List.eq_nil_of_length_eq_zero (by omega)))]
   ·rw [if_pos (hany.2 hr), if_neg hr]
 ·rw [if_neg h, if_neg (by omega), if_pos h]
theorem ref09_IsPrime_spec (p : Int) : Ev (fun k => r9IsPrime.f k p) (decide (PrmI p)) := by
 by_cases h : 2 ≤ p ∧ p ≤ 65521
 ·obtain ⟨n, rfl⟩ := Int.eq_ofNat_of_zero_le (show 0 ≤ p by omega)
  obtain ⟨b, hb, K, hK⟩ := ref_IsPrime_spec (n := n) (by omega) (by omega)
  dsimp only at hK
  refine ⟨K, fun k hk => ?_⟩
  simp only [r9IsPrime.f]
  rw [if_pos (by omega), if_pos (by omega), hK k hk, Option.bind_some]
  congr 1
  rw [Bool.eq_iff_iff, decide_eq_true_eq, hb]
  exact ⟨fun h3 => ⟨h.1, h.2, by rwa [Int.toNat_natCast]⟩, fun h3 => by simpa using h3.2.2⟩
 ·refine ⟨0, fun k _ => ?_⟩
  simp only [r9IsPrime.f]
  rw [decide_eq_false (fun h3 => h ⟨h3.1, h3.2.1⟩)]
  by_cases h2 : p ≥ 2
  ·rw [if_pos h2, if_neg (by omega)]
  ·rw [if_neg h2]
theorem ref_Check_loop (p : Int) (l : List Int) (hl : l.length ≤ 65) : ∀ (d i : Nat), i + d = l.length → (∀ j, j < i → 0 ≤ l.getD j 0 ∧ l.getD j 0 < p) → Ev (fun k => r9Check.l0 k p l (i : Int)) (open Classical in if ∀ c ∈ l, 0 ≤ c ∧ c < p then (if Nz l then 0 else 1) else 1)
 | 0, i, hi, h => by
  have hr : ∀ c ∈ l, 0 ≤ c ∧ c < p := fun c hc => by
   obtain ⟨j, hj, rfl⟩ := List.mem_iff_getElem.1 hc
   have := h j (by omega)
   rwa [List.getD_eq_getElem?_getD, List.getElem?_eq_getElem hj, Option.getD_some] at this
  refine ⟨1, fun k hk => ?_⟩
  obtain ⟨k', rfl, hk'⟩ := ex_succ hk
  simp only [r9Check.l0]
  rw [if_neg (by omega), if_pos hr]
  by_cases h0 : 0 < l.length
  ·have e : wrap64 ((l.length : Int) - 1) = ((l.length - 1 : Nat) : Int) := by rw [wrap_id (by omega) (by omega)]; omega
   rw [if_pos (by omega), e, if_pos (Int.natCast_nonneg _), if_pos (by omega), rd_nat]
   by_cases hz : l.getD (l.length - 1) 0 = 0
   ·rw [if_pos hz, if_neg (fun h3 => (nz_iff h0).1 h3 hz)]
   ·rw [if_neg hz, if_pos ((nz_iff h0).2 hz)]
  ·rw [if_neg (by omega), if_pos (.inl (List.eq_nil_of_length_eq_zero (by omega)))]
 | d + 1, i, hi, h => by
  have hm : l.getD i 0 ∈ l := by
   rw [List.getD_eq_getElem?_getD, List.getElem?_eq_getElem (by omega), Option.getD_some]
   exact List.getElem_mem _
  by_cases hc : 0 ≤ l.getD i 0 ∧ l.getD i 0 < p
  ·obtain ⟨K, hK⟩ := ref_Check_loop p l hl d (i + 1) (by omega) (fun j hj => by
    rcases Nat.lt_or_ge j i with h3 | h3
    ·exact h j h3
    ·obtain rfl : j = i := by omega
     exact hc)
   dsimp only at hK
   refine ⟨K + 1, fun k hk => ?_⟩
   obtain ⟨k', rfl, hk'⟩ := ex_succ hk
   simp only [r9Check.l0]
   rw [if_pos (by omega), if_pos (Int.natCast_nonneg _), rd_nat, if_neg (by omega), if_neg (by omega), succ_wrap (by omega)]
   exact hK k' hk'
  ·have hr : ¬ ∀ c ∈ l, 0 ≤ c ∧ c < p := fun h3 => hc (h3 _ hm)
   refine ⟨1, fun k hk => ?_⟩
   obtain ⟨k', rfl, hk'⟩ := ex_succ hk
   simp only [r9Check.l0]
   rw [if_pos (by omega), if_pos (Int.natCast_nonneg _), rd_nat, if_neg hr]
   by_cases h0 : l.getD i 0 < 0
   ·rw [if_pos h0]
   ·rw [if_neg h0, if_pos (by omega)]
theorem ref_Check_spec (p : Int) (l : List Int) : Ev (fun k => r9Check.f k p l) (ckP p l) := by
 obtain ⟨K, hK⟩ := ref09_IsPrime_spec p
 dsimp only at hK
 unfold ckP
 by_cases h : PrmI p
 ·rw [if_neg (not_not_intro h)]
  by_cases h65 : l.length > 65
  ·refine ⟨K, fun k hk => ?_⟩
   simp only [r9Check.f]
   rw [hK k hk, Option.bind_some, decide_eq_true h, if_pos rfl, if_pos (by omega), if_pos h65]
  ·obtain ⟨K2, hK2⟩ := ref_Check_loop p l (by omega) l.length 0 (by omega) (fun j hj => by omega)
   dsimp only at hK2
   refine ⟨K + K2, fun k hk => ?_⟩
   simp only [r9Check.f]
   rw [hK k (by omega), Option.bind_some, decide_eq_true h, if_pos rfl, if_neg (by omega), if_neg h65]
   exact hK2 k (by omega)
 ·refine ⟨K, fun k hk => ?_⟩
  simp only [r9Check.f]
  rw [hK k hk, Option.bind_some, decide_eq_false h, if_neg (by simp), if_pos h]
theorem ckP_zero {p : Int} {l : List Int} (h : ckP p l = 0) : ∃ q : Nat, p = q ∧ Prm q ∧ q ≤ 65521 ∧ NL q l ∧ l.length ≤ 65 := by
 unfold ckP at h
 split at h
 ·cases h
 ·rename_i h1
  have h1 := Classical.not_not.1 h1
  split at h
  ·cases h
  ·rename_i h2
   split at h
   ·rename_i h3
    split at h
    ·rename_i h4
     obtain ⟨q, rfl⟩ := Int.eq_ofNat_of_zero_le (show 0 ≤ p by omega)
     exact ⟨q, rfl, by simpa using h1.2.2, by omega, ⟨h3, h4⟩, by omega⟩
    ·cases h
   ·cases h
theorem ckP_of {q : Nat} {l : List Int} (hq : Prm q) (hQ : q ≤ 65521) (h : NL q l) (hl : l.length ≤ 65) : ckP q l = 0 := by
 have := hq.1
 unfold ckP
 rw [if_neg (not_not_intro ⟨by omega, by omega, by simpa using hq⟩), if_neg (by omega), if_pos h.1, if_pos h.2]
noncomputable def ckF (p : Int) (f : List Int) : Int := open Classical in
 if ckP p f ≠ 0 then ckP p f else if f.length > 17 then 4 else if f.length < 2 ∨ f.getD (f.length - 1) 0 ≠ 1 then 1 else if Dom p.toNat (P f) then 0 else 8
theorem field_Check_spec (p : Int) (f : List Int) : Ev (fun k => fi_Check.f k p f) (ckF p f) := by
 obtain ⟨K, hK⟩ := pm_Check_spec p f
 dsimp only at hK
 unfold ckF
 by_cases h0 : ckP p f = 0
 ·obtain ⟨q, rfl, hq, hQ, hf, hl⟩ := ckP_zero h0
  obtain ⟨b, hb, K2, hK2⟩ := fp_Irreducible_spec hq hQ hf (by omega)
  dsimp only at hK2
  have e : wrap64 ((f.length : Int) - 1) = (f.length : Int) - 1 := wrap_id (by omega) (by omega)
  refine ⟨K + K2 + 1, fun k hk => ?_⟩
  obtain ⟨k', rfl, hk'⟩ := ex_succ hk
  rw [if_neg (not_not_intro h0)]
  simp only [fi_Check.f, fi_Check.j0]
  rw [hK _ (by omega), Option.bind_some, if_pos h0, e]
  by_cases h17 : f.length > 17
  ·rw [if_pos (by omega), if_pos h17]
  ·rw [if_neg (by omega), if_neg h17]
   by_cases h2 : f.length < 2
   ·rw [if_pos (by omega), if_pos trivial, if_pos (.inl h2)]
   ·rw [if_neg (by omega), show (f.length : Int) - 1 = ((f.length - 1 : Nat) : Int) by omega, if_pos (Int.natCast_nonneg _), if_pos (by omega), rd_nat]
    by_cases h1 : f.getD (f.length - 1) 0 = 1
    ·rw [if_neg (by rw [h1]; simp), if_neg (c := f.length < 2 ∨ _) (by omega), hK2 k' (by omega), Option.bind_some]
     cases b with
     | true => rw [if_pos rfl, if_pos (by simpa using (hb.1 rfl).2)]
     | false => rw [if_neg (by simp), if_neg (fun h3 => by have := hb.2 ⟨by omega, by simpa using h3⟩; cases this)]
    ·rw [if_pos (bne_iff_ne.2 h1), if_pos (.inr h1)]
 ·refine ⟨K, fun k hk => ?_⟩
  simp only [fi_Check.f]
  rw [hK k hk, Option.bind_some, if_neg h0, if_pos h0]
theorem ref15_Check_spec (p : Int) (f : List Int) : Ev (fun k => r15Check.f k p f) (ckF p f) := by
 obtain ⟨K, hK⟩ := ref_Check_spec p f
 dsimp only at hK
 unfold ckF
 by_cases h0 : ckP p f = 0
 ·obtain ⟨q, rfl, hq, hQ, hf, hl⟩ := ckP_zero h0
  obtain ⟨b, hb, K2, hK2⟩ := ref_Irreducible_spec hq hQ hf (by omega)
  dsimp only at hK2
  have e : wrap64 ((f.length : Int) - 1) = (f.length : Int) - 1 := wrap_id (by omega) (by omega)
  refine ⟨K + K2 + 1, fun k hk => ?_⟩
  obtain ⟨k', rfl, hk'⟩ := ex_succ hk
  rw [if_neg (not_not_intro h0)]
  simp only [r15Check.f, r15Check.j0, r9Lead.f]
  rw [hK _ (by omega), Option.bind_some, if_pos h0, e]
  by_cases h17 : f.length > 17
  ·rw [if_pos (by omega), if_pos h17]
  ·rw [if_neg (by omega), if_neg h17]
   by_cases h2 : f.length < 2
   ·rw [if_pos (by omega), if_pos trivial, if_pos (.inl h2)]
   ·rw [if_neg (by omega), if_neg (by omega), show (f.length : Int) - 1 = ((f.length - 1 : Nat) : Int) by omega, if_pos (Int.natCast_nonneg _), if_pos (by omega), rd_nat, Option.bind_some]
    by_cases h1 : f.getD (f.length - 1) 0 = 1
    ·rw [if_neg (by rw [h1]; simp), if_neg (c := f.length < 2 ∨ _) (by omega), hK2 k' (by omega), Option.bind_some]
     cases b with
     | true => rw [if_pos rfl, if_pos (by simpa using (hb.1 rfl).2)]
     | false => rw [if_neg (by simp), if_neg (fun h3 => by have := hb.2 ⟨by omega, by simpa using h3⟩; cases this)]
    ·rw [if_pos (bne_iff_ne.2 h1), if_pos (.inr h1)]
 ·refine ⟨K, fun k hk => ?_⟩
  simp only [r15Check.f]
  rw [hK k hk, Option.bind_some, if_neg h0, if_pos h0]
structure Fld (q : Nat) (f : List Int) : Prop where
 prm : Prm q
 le : q ≤ 65521
 nl : NL q f
 len : f.length ≤ 17
 two : 2 ≤ f.length
 mon : f.getD (f.length - 1) 0 = 1
 dom : Dom q (P f)
theorem Fld.ne {q : Nat} {f : List Int} (h : Fld q f) : f ≠ [] := ne_of_two h.prm h.nl h.two
theorem ckF_zero {p : Int} {f : List Int} (h : ckF p f = 0) : ∃ q : Nat, p = q ∧ Fld q f := by
 unfold ckF at h
 split at h
 ·rename_i h1; exact absurd h h1
 ·rename_i h1
  obtain ⟨q, rfl, hq, hQ, hf, hl⟩ := ckP_zero (Classical.not_not.1 h1)
  split at h
  ·cases h
  ·rename_i h2
   split at h
   ·cases h
   ·rename_i h3
    split at h
    ·rename_i h4
     exact ⟨q, rfl, hq, hQ, hf, by omega, by omega, by omega, by simpa using h4⟩
    ·cases h
theorem ckF_of {q : Nat} {f : List Int} (h : Fld q f) : ckF q f = 0 := by
 unfold ckF
 have h1 := h.two
 have h2 := h.len
 have hn : ¬ (f.length < 2 ∨ f.getD (f.length - 1) 0 ≠ 1) := by
  rintro (h3 | h3)
  ·omega
  ·exact h3 h.mon
 rw [if_neg (not_not_intro (ckP_of h.prm h.le h.nl (by omega))), if_neg (by omega), if_neg hn, if_pos (by simpa using h.dom)]
noncomputable def ckE (p : Int) (f l : List Int) : Int := if ckP p l = 0 then (if l.length ≥ f.length then 3 else 0) else ckP p l
theorem element_spec (p : Int) (f l : List Int) : Ev (fun k => fi_element.f k p f l) (ckE p f l) := by
 obtain ⟨K, hK⟩ := pm_Check_spec p l
 dsimp only at hK
 unfold ckE
 refine ⟨K, fun k hk => ?_⟩
 simp only [fi_element.f]
 rw [hK k hk, Option.bind_some]
 by_cases h0 : ckP p l = 0
 ·rw [if_pos h0, if_pos h0]
  by_cases h1 : l.length ≥ f.length
  ·rw [if_pos (by omega), if_pos h1]
  ·rw [if_neg (by omega), if_neg h1]
 ·rw [if_neg h0, if_neg h0]
theorem Member_spec (p : Int) (f l : List Int) : Ev (fun k => r15Member.f k p f l) (ckE p f l) := by
 obtain ⟨K, hK⟩ := ref_Check_spec p l
 dsimp only at hK
 unfold ckE
 refine ⟨K, fun k hk => ?_⟩
 simp only [r15Member.f]
 rw [hK k hk, Option.bind_some]
 by_cases h0 : ckP p l = 0
 ·rw [if_pos h0, if_pos h0]
  by_cases h1 : l.length ≥ f.length
  ·rw [if_pos (by omega), if_pos h1]
  ·rw [if_neg (by omega), if_neg h1, h0]
 ·rw [if_neg h0, if_neg h0]
theorem ckE_zero {q : Nat} {f l : List Int} (h : ckE q f l = 0) : NL q l ∧ l.length < f.length := by
 unfold ckE at h
 split at h
 ·rename_i h0
  obtain ⟨q', e, _, _, h3, _⟩ := ckP_zero h0
  obtain rfl : q = q' := by omega
  split at h
  ·cases h
  ·exact ⟨h3, by omega⟩
 ·rename_i h0; exact absurd h h0
theorem ckE_of {q : Nat} {f l : List Int} (h : Fld q f) (hl : NL q l) (hlt : l.length < f.length) : ckE q f l = 0 := by
 have := h.len
 unfold ckE
 rw [if_pos (ckP_of h.prm h.le hl (by omega)), if_neg (by omega)]
noncomputable def ckL (p : Int) (f : List Int) : List (List Int) → Int
 | [] => 0
 | l :: ls => if ckE p f l = 0 then ckL p f ls else ckE p f l
theorem check_loop (p : Int) (f : List Int) (xs : List (List Int)) (hn : xs.length ≤ 1000) : ∀ (rest pre : List (List Int)), pre ++ rest = xs → Ev (fun k => fi_check.l0 k xs (xs.length : Int) (pre.length : Int) p f) (ckL p f rest)
 | [], pre, h => by
  refine ⟨1, fun k hk => ?_⟩
  obtain ⟨k', rfl, hk'⟩ := ex_succ hk
  simp only [fi_check.l0]
  rw [← h, List.append_nil, if_neg (by omega)]
  rfl
 | l :: rest, pre, h => by
  have hlen : pre.length < xs.length := by rw [← h]; simp
  obtain ⟨K, hK⟩ := element_spec p f l
  obtain ⟨K2, hK2⟩ := check_loop p f xs hn rest (pre ++ [l]) (by rw [← h]; simp)
  dsimp only at hK hK2
  refine ⟨K + K2 + 1, fun k hk => ?_⟩
  obtain ⟨k', rfl, hk'⟩ := ex_succ hk
  have hr : rd_L1 xs (pre.length : Int) = l := by
   unfold rd_L1
   rw [Int.toNat_natCast, ← h]
   simp
  simp only [fi_check.l0]
  rw [if_pos (by omega), if_pos (Int.natCast_nonneg _), if_pos (by omega), hr, hK k' (by omega), Option.bind_some, succ_wrap (by omega)]
  unfold ckL
  by_cases h0 : ckE p f l = 0
  ·rw [if_pos h0, if_pos h0]
   have := hK2 k' (by omega)
   rw [List.length_append, List.length_singleton] at this
   exact this
  ·rw [if_neg h0, if_neg h0]
theorem check_spec (p : Int) (f : List Int) (xs : List (List Int)) (hn : xs.length ≤ 1000) : Ev (fun k => fi_check.f k p f xs) (if ckF p f = 0 then ckL p f xs else ckF p f) := by
 obtain ⟨K, hK⟩ := field_Check_spec p f
 obtain ⟨K2, hK2⟩ := check_loop p f xs hn xs [] rfl
 dsimp only at hK hK2
 refine ⟨K + K2, fun k hk => ?_⟩
 simp only [fi_check.f]
 rw [hK k (by omega), Option.bind_some]
 by_cases h0 : ckF p f = 0
 ·rw [if_pos h0, if_pos h0]
  exact hK2 k (by omega)
 ·rw [if_neg h0, if_neg h0]
theorem Same_loop (a b : List Int) (h : a.length = b.length) (hl : a.length ≤ 1000000) : ∀ (d i : Nat), i + d = a.length → (∀ j, j < i → a.getD j 0 = b.getD j 0) → Ev (fun k => r9Same.l0 k a b (i : Int)) (decide (a = b))
 | 0, i, hi, he => by
  refine ⟨1, fun k hk => ?_⟩
  obtain ⟨k', rfl, hk'⟩ := ex_succ hk
  simp only [r9Same.l0]
  rw [if_neg (by omega), decide_eq_true]
  refine ext_getD h fun j => ?_
  rcases Nat.lt_or_ge j i with h3 | h3
  ·exact he j h3
  ·rw [getD_of_len (by omega), getD_of_len (by omega)]
 | d + 1, i, hi, he => by
  by_cases hc : a.getD i 0 = b.getD i 0
  ·obtain ⟨K, hK⟩ := Same_loop a b h hl d (i + 1) (by omega) (fun j hj => by
    rcases Nat.lt_or_ge j i with h3 | h3
    ·exact he j h3
    ·obtain rfl : j = i := by omega
     exact hc)
   dsimp only at hK
   refine ⟨K + 1, fun k hk => ?_⟩
   obtain ⟨k', rfl, hk'⟩ := ex_succ hk
   simp only [r9Same.l0]
   rw [if_pos (by omega), if_pos (Int.natCast_nonneg _), if_pos (by omega), rd_nat, rd_nat, if_pos hc, succ_wrap (by omega)]
   exact hK k' hk'
  ·refine ⟨1, fun k hk => ?_⟩
   obtain ⟨k', rfl, hk'⟩ := ex_succ hk
   simp only [r9Same.l0]
   rw [if_pos (by omega), if_pos (Int.natCast_nonneg _), if_pos (by omega), rd_nat, rd_nat, if_neg hc, decide_eq_false (fun e => hc (by rw [e]))]
theorem Same_spec (a b : List Int) (hl : a.length ≤ 1000000) : Ev (fun k => r9Same.f k a b) (decide (a = b)) := by
 by_cases h : a.length = b.length
 ·obtain ⟨K, hK⟩ := Same_loop a b h hl a.length 0 (by omega) (fun j hj => by omega)
  dsimp only at hK
  refine ⟨K, fun k hk => ?_⟩
  simp only [r9Same.f]
  rw [if_pos (by omega)]
  exact hK k hk
 ·refine ⟨0, fun k _ => ?_⟩
  simp only [r9Same.f]
  rw [if_neg (by omega), decide_eq_false (fun e => h (by rw [e]))]
end Go.Proofs.Ytalnaafmonmlmaa.Q
end
section
namespace Go.Proofs.Ytalnaafmonmlmaa.Q
open Go.RowKit Go.Proofs.YtalnaafmonmlmaaW.PrintWords Go.Proofs.YtalnaafmonmlmaaW.PrintLast Go.Proofs.YtalnaafmonmlmaaW.PrintMore Go.Proofs.Ytalnaafmonmlmaa.M Go.Proofs.Ytalnaafmonmlmaa.M.ZX
set_option linter.unusedVariables false
set_option linter.unusedSimpArgs false
def El (q : Nat) (f l : List Int) (x : ZX) : Prop := NL q l ∧ l.length < f.length ∧ Cg q (P f) (P l) x
section
variable {q : Nat} {f : List Int} (hF : Fld q f)
include hF
theorem El.eq {l m : List Int} {x y : ZX} (hl : El q f l x) (hm : El q f m y) (h : Cg q (P f) x y) : l = m :=
 nf_unique hF.prm hF.nl hF.ne hl.1 hm.1 hl.2.1 hm.2.1 (hl.2.2.trans (h.trans hm.2.2.symm))
theorem El.of {l : List Int} (h : NL q l) (hl : l.length < f.length) : El q f l (P l) := have _ := hF; ⟨h, hl, Cg.refl _⟩
theorem El.rm (x : ZX) : El q f (rm q f x) x := rm_spec hF.prm hF.nl hF.ne x
theorem El.nf {x : ZX} (h : Dg (f.length - 1) x) : El q f (nf q x) x := by
 have := hF.two
 exact ⟨(nf_spec (prm_pos hF.prm) x).1, by have := nf_dg (prm_pos hF.prm) h; omega, (nf_spec (prm_pos hF.prm) x).2.mono⟩
theorem El.dg {l : List Int} {x : ZX} (h : El q f l x) : Dg (f.length - 1) (P l) := have _ := hF; Dg.of_P (by have := h.2.1; omega)
theorem El.zero : El q f [] 0 := ⟨NL.nil, by have := hF.two; simp; omega, Cg.refl _⟩
theorem El.nil_iff {l : List Int} {x : ZX} (h : El q f l x) : l = [] ↔ In q (P f) x := by
 constructor
 ·rintro rfl
  have := h.2.2.symm
  rw [P_nil] at this
  exact Cg.in_of this
 ·intro hx
  exact El.eq hF h (El.zero hF) (Cg.of_in hx)
theorem El.one : El q f [1] 1 := ⟨NL.one hF.prm.1, by have := hF.two; simp; omega, Cg.of_eq P_one⟩
end
end Go.Proofs.Ytalnaafmonmlmaa.Q
end
section
namespace Go.Proofs.Ytalnaafmonmlmaa.Q
open Go.RowKit Go.Proofs.YtalnaafmonmlmaaW.PrintWords Go.Proofs.YtalnaafmonmlmaaW.PrintLast Go.Proofs.YtalnaafmonmlmaaW.PrintMore Go.Proofs.Ytalnaafmonmlmaa.M Go.Proofs.Ytalnaafmonmlmaa.M.ZX
set_option linter.unusedVariables false
set_option linter.unusedSimpArgs false
def ckN (e : ByteArray) : Int := if 0 < e.size ∧ bt e 0 = 0 then 1 else if e.size > 1024 then 4 else 0
theorem natural_Check_ok (e : ByteArray) : Ev (fun k => natural_Check.f k e) (ckN e) := by
 refine ⟨1, fun k hk => ?_⟩
 obtain ⟨k', rfl, hk'⟩ := ex_succ hk
 simp only [natural_Check.f]
 unfold ckN
 by_cases h0 : 0 < e.size
 ·rw [if_pos (by omega), if_pos (by omega)]
  by_cases h1 : bt e 0 = 0
  ·rw [if_pos ⟨h0, h1⟩, h1]; simp only [natural_Check.j0]; rw [if_pos (by rfl)]
  ·rw [if_neg (fun h => h1 h.2), beq_eq_false_iff_ne.2 h1]
   simp only [natural_Check.j0]
   rw [if_neg (by simp)]
   by_cases h2 : e.size > 1024
   ·rw [if_pos (by omega), if_pos h2]
   ·rw [if_neg (by omega), if_neg h2]
 ·rw [if_neg (by omega), if_neg (fun h => h0 h.1)]
  simp only [natural_Check.j0]
  rw [if_neg (by simp), if_neg (by omega), if_neg (by omega)]
end Go.Proofs.Ytalnaafmonmlmaa.Q
end
section
namespace Go.Proofs.Ytalnaafmonmlmaa.Q
open Go.RowKit Go.Proofs.YtalnaafmonmlmaaW.PrintWords Go.Proofs.YtalnaafmonmlmaaW.PrintLast Go.Proofs.YtalnaafmonmlmaaW.PrintMore Go.Proofs.Ytalnaafmonmlmaa.M Go.Proofs.Ytalnaafmonmlmaa.M.ZX
set_option linter.unusedVariables false
set_option linter.unusedSimpArgs false
theorem Same_ok {a b : List Int} (h : a = b) (hl : a.length ≤ 1000000) : Ev (fun k => r9Same.f k a b) true := by
 have := Same_spec a b hl
 rwa [decide_eq_true h] at this
section
variable {q : Nat} {f : List Int} (hF : Fld q f)
include hF
theorem ckL_of : ∀ {xs : List (List Int)}, (∀ x ∈ xs, NL q x ∧ x.length < f.length) → ckL q f xs = 0
 | [], _ => rfl
 | x :: xs, h => by
  have h1 := h x (List.mem_cons_self ..)
  have e : ckE q f x = 0 := ckE_of hF h1.1 h1.2
  show (if ckE q f x = 0 then ckL q f xs else ckE q f x) = 0
  rw [if_pos e]
  exact ckL_of fun y hy => h y (List.mem_cons_of_mem _ hy)
theorem check_ok {xs : List (List Int)} (h : ∀ x ∈ xs, NL q x ∧ x.length < f.length) (hn : xs.length ≤ 1000) : Ev (fun k => fi_check.f k q f xs) 0 := by
 have := check_spec q f xs hn
 rwa [if_pos (ckF_of hF), ckL_of hF h] at this
theorem check_one {a : List Int} {x : ZX} (ha : El q f a x) : Ev (fun k => fi_check.f k q f [a]) 0 :=
 check_ok hF (by intro z hz; rw [List.mem_singleton] at hz; subst hz; exact ⟨ha.1, ha.2.1⟩) (by simp)
theorem check_two {a b : List Int} {x y : ZX} (ha : El q f a x) (hb : El q f b y) : Ev (fun k => fi_check.f k q f [a, b]) 0 :=
 check_ok hF (by intro z hz; simp only [List.mem_cons, List.not_mem_nil, or_false] at hz; exact hz.elim (fun e => e ▸ ⟨ha.1, ha.2.1⟩) (fun e => e ▸ ⟨hb.1, hb.2.1⟩)) (by simp)
theorem gf_Mul_ok {a b : List Int} {x y : ZX} (ha : El q f a x) (hb : El q f b y) : ∃ c, El q f c (x * y) ∧ Ev (fun k => gFMul.f k q f a b) c := by
 have := hF.len
 obtain ⟨K2, hK2⟩ := fp_MulMod_spec hF.prm hF.le ha.1 hb.1 hF.nl hF.ne (by have := ha.2.1; omega) (by have := hb.2.1; omega) (by omega)
 have h := El.rm hF (P a * P b)
 dsimp only at hK2
 refine ⟨_, ⟨h.1, h.2.1, h.2.2.trans (ha.2.2.mul hb.2.2)⟩, K2, fun k hk => ?_⟩
 simp only [gFMul.f]
 rw [hK2 k (by omega), Option.bind_some]
theorem Mul_ok {a b : List Int} {x y : ZX} (ha : El q f a x) (hb : El q f b y) : ∃ c, El q f c (x * y) ∧ Ev (fun k => fi_Mul.f k q f a b) (c, 0) := by
 obtain ⟨K, hK⟩ := check_two hF ha hb
 obtain ⟨c, hc, K2, hK2⟩ := gf_Mul_ok hF ha hb
 dsimp only at hK hK2
 refine ⟨c, hc, K + K2, fun k hk => ?_⟩
 simp only [fi_Mul.f]
 rw [hK k (by omega), Option.bind_some, if_pos rfl, hK2 k (by omega), Option.bind_some]
theorem El.small {l : List Int} {x : ZX} (h : El q f l x) : l.length ≤ 1000000 := by
 have := h.2.1
 have := hF.len
 omega
end
end Go.Proofs.Ytalnaafmonmlmaa.Q
end
section
namespace Go.Proofs.Ytalnaafmonmlmaa.Q
open Go.RowKit Go.Proofs.YtalnaafmonmlmaaW.PrintWords Go.Proofs.YtalnaafmonmlmaaW.PrintLast Go.Proofs.YtalnaafmonmlmaaW.PrintMore Go.Proofs.Ytalnaafmonmlmaa.M Go.Proofs.Ytalnaafmonmlmaa.M.ZX
set_option linter.unusedVariables false
set_option linter.unusedSimpArgs false
theorem and_one64 {x : Int} (h0 : 0 ≤ x) (h1 : x ≤ 4611686018427387904) : Go.bits .and .i64 x 1 = x % 2 := by
 have := bits_mask .i64 63 (by decide) (fun n h0 h1 => by unfold IntKind.wrap; simp [IntKind.bits, IntKind.signed]; omega) 1 (by decide) x h0 (by omega)
 simpa using this
theorem wrap_nat {n : Nat} (h : n ≤ 9223372036854775807) : wrap64 (n : Int) = (n : Int) := wrap_id (by omega) (by omega)
theorem tdiv_nat (a b : Nat) : Int.tdiv (a : Int) (b : Int) = ((a / b : Nat) : Int) := rfl
theorem tmod_nat (a b : Nat) : Int.tmod (a : Int) (b : Int) = ((a % b : Nat) : Int) := rfl
theorem div_nat2 (a : Nat) : (a : Int) / 2 = ((a / 2 : Nat) : Int) := rfl
section
variable {q : Nat} {f : List Int} (hF : Fld q f)
include hF
theorem pow_loop : ∀ (e : Nat) (a b : List Int) (x y : ZX), e ≤ 4611686018427387904 → El q f a x → El q f b y → ∃ c, El q f c (y * x ^ e) ∧ Ev (fun k => gFPow.l0 k a e b q f) c := by
 intro e
 induction e using Nat.strongRecOn with
 | _ e ih =>
  intro a b x y he ha hb
  by_cases h0 : e = 0
  ·subst h0
   refine ⟨b, ⟨hb.1, hb.2.1, hb.2.2.trans (Cg.of_eq (by rw [pow_zero]; exact ZX.zr))⟩, 1, fun k hk => ?_⟩
   obtain ⟨k', rfl, hk'⟩ := ex_succ hk
   simp only [gFPow.l0]
   rw [if_neg (by omega)]
  ·obtain ⟨s, hs, K1, h1⟩ := gf_Mul_ok hF ha ha
   dsimp only at h1
   by_cases h2 : e % 2 = 1
   ·obtain ⟨t, ht, K2, h2'⟩ := gf_Mul_ok hF hb ha
    obtain ⟨c, hc, K3, h3⟩ := ih (e / 2) (by omega) s t (x * x) (y * x) (by omega) hs ht
    dsimp only at h2' h3
    refine ⟨c, ⟨hc.1, hc.2.1, hc.2.2.trans (Cg.of_eq ?_)⟩, K1 + K2 + K3 + 1, fun k hk => ?_⟩
    ·have : x ^ e = (x * x) ^ (e / 2) * x := by
      rw [mul_pow, ← pow_add, ← pow_succ, show e / 2 + e / 2 + 1 = e by omega]
     rw [this]
     exact ZX.zr
    ·obtain ⟨k', rfl, hk'⟩ := ex_succ hk
     simp only [gFPow.l0]
     rw [if_pos (by omega), and_one64 (by omega) (by omega), if_pos (by omega), h2' k' (by omega), Option.bind_some, h1 k' (by omega), Option.bind_some, div_nat2]
     exact h3 k' (by omega)
   ·obtain ⟨c, hc, K3, h3⟩ := ih (e / 2) (by omega) s b (x * x) y (by omega) hs hb
    dsimp only at h3
    refine ⟨c, ⟨hc.1, hc.2.1, hc.2.2.trans (Cg.of_eq ?_)⟩, K1 + K3 + 1, fun k hk => ?_⟩
    ·have : x ^ e = (x * x) ^ (e / 2) := by
      rw [mul_pow, ← pow_add, show e / 2 + e / 2 = e by omega]
     rw [this]
    ·obtain ⟨k', rfl, hk'⟩ := ex_succ hk
     simp only [gFPow.l0]
     rw [if_pos (by omega), and_one64 (by omega) (by omega), if_neg (by omega), h1 k' (by omega), Option.bind_some, div_nat2]
     exact h3 k' (by omega)
theorem gf_Pow_ok {a : List Int} {x : ZX} (ha : El q f a x) {e : Nat} (he : e ≤ 4611686018427387904) : ∃ c, El q f c (x ^ e) ∧ Ev (fun k => gFPow.f k q f a e) c := by
 obtain ⟨c, hc, K, hK⟩ := pow_loop hF e a [1] x 1 he ha (El.one hF)
 dsimp only at hK
 refine ⟨c, ⟨hc.1, hc.2.1, hc.2.2.trans (Cg.of_eq ZX.zr)⟩, K, fun k hk => ?_⟩
 simp only [gFPow.f, gFOne.f]
 rw [Option.bind_some]
 exact hK k hk
theorem El.one_iff {l : List Int} {x : ZX} (h : El q f l x) : l = [1] ↔ Cg q (P f) x 1 := by
 constructor
 ·rintro rfl
  exact h.2.2.symm.trans (Cg.of_eq P_one)
 ·intro hx
  exact El.eq hF h (El.one hF) hx
end
theorem gf_IsOne_ok (t : List Int) : gf_IsOne.f t = some (decide (t = [1])) := by
 simp only [gf_IsOne.f]
 by_cases h : t.length = 1
 ·obtain ⟨c, rfl⟩ := List.length_eq_one_iff.1 h
  rw [if_pos (by omega), if_pos (by omega)]
  simp [rd, beq_iff_eq]
  by_cases hc : c = 1
  ·subst hc; simp
  ·simp [hc]
 ·rw [if_neg (by omega), decide_eq_false (fun e => h (by rw [e]; rfl))]
abbrev Qn (q : Nat) (f : List Int) : Nat := q ^ (f.length - 1)
section
variable {q : Nat} {f : List Int} (hF : Fld q f)
include hF
theorem Qn_pos : 2 ≤ Qn q f := by
 have := hF.two
 have h1 : q ^ 1 ≤ q ^ (f.length - 1) := Nat.pow_le_pow_right (prm_pos hF.prm) (by omega)
 have := hF.prm.1
 rw [Nat.pow_one] at h1
 show 2 ≤ q ^ (f.length - 1)
 omega
theorem size_loop (n : Nat) (hn : n ≤ 16) : ∀ (d i : Nat), i + d = n → q ^ i ≤ 2147483647 → Ev (fun k => gFSize.l0 k ((q ^ i : Nat) : Int) n i q f) (if q ^ n ≤ 2147483647 then (((q ^ n : Nat) : Int), true) else (0, false)) := by
 have hle := hF.le
 intro d
 induction d with
 | zero =>
  intro i hi hq
  have e : i = n := by omega
  subst e
  refine ⟨1, fun k hk => ?_⟩
  obtain ⟨k', rfl, hk'⟩ := ex_succ hk
  simp only [gFSize.l0]
  rw [if_neg (by omega), if_pos hq]
 | succ d ih =>
  intro i hi hq
  have hw : wrap64 (((q ^ i : Nat) : Int) * (q : Int)) = ((q ^ (i + 1) : Nat) : Int) := by
   have h1 : q ^ i * q ≤ 2147483647 * 65521 := Nat.mul_le_mul hq hle
   rw [show ((q ^ i : Nat) : Int) * (q : Int) = ((q ^ i * q : Nat) : Int) from (Int.natCast_mul ..).symm, wrap_id (by omega) (by omega), Nat.pow_succ]
  by_cases h : q ^ (i + 1) ≤ 2147483647
  ·obtain ⟨K, hK⟩ := ih (i + 1) (by omega) h
   dsimp only at hK
   refine ⟨K + 1, fun k hk => ?_⟩
   obtain ⟨k', rfl, hk'⟩ := ex_succ hk
   simp only [gFSize.l0]
   rw [if_pos (by omega), hw, if_neg (by omega), succ_wrap (by omega)]
   exact hK k' hk'
  ·refine ⟨1, fun k hk => ?_⟩
   obtain ⟨k', rfl, hk'⟩ := ex_succ hk
   have h2 : q ^ (i + 1) ≤ q ^ n := Nat.pow_le_pow_right (prm_pos hF.prm) (by omega)
   simp only [gFSize.l0]
   rw [if_pos (by omega), hw, if_pos (by omega), if_neg (by omega)]
theorem len_wrap : wrap64 ((f.length : Int) - 1) = ((f.length - 1 : Nat) : Int) := by
 have := hF.two
 have := hF.len
 rw [wrap_id (by omega) (by omega)]; omega
theorem gf_Size_ok : Ev (fun k => gFSize.f k q f) (if Qn q f ≤ 2147483647 then ((Qn q f : Int), true) else (0, false)) := by
 have := hF.len
 obtain ⟨K, hK⟩ := size_loop hF (f.length - 1) (by omega) (f.length - 1) 0 (by omega) (by simp)
 dsimp only at hK
 refine ⟨K, fun k hk => ?_⟩
 simp only [gFSize.f, gFDegree.f]
 rw [Option.bind_some, len_wrap hF]
 exact hK k hk
theorem size_ok (h : Qn q f ≤ 2147483647) : Ev (fun k => fi_size.f k q f 2147483647) ((Qn q f : Int), 0) := by
 obtain ⟨K, hK⟩ := gf_Size_ok hF
 rw [if_pos h] at hK
 dsimp only at hK
 refine ⟨K, fun k hk => ?_⟩
 simp only [fi_size.f]
 rw [hK k hk, Option.bind_some, if_pos rfl, if_neg (by omega)]
theorem ref_size_loop (n : Nat) (hn : n = f.length - 1) : ∀ (d i : Nat), i + d = n → q ^ i ≤ 2147483647 → Ev (fun k => r15Size.l0 k ((q ^ i : Nat) : Int) i q f) (if q ^ n ≤ 2147483647 then ((q ^ n : Nat) : Int) else 0) := by
 have hle := hF.le
 have hl := hF.len
 have hq0 := prm_pos hF.prm
 intro d
 induction d with
 | zero =>
  intro i hi hq
  have e : i = n := by omega
  subst e
  refine ⟨1, fun k hk => ?_⟩
  obtain ⟨k', rfl, hk'⟩ := ex_succ hk
  simp only [r15Size.l0, r15Degree.f]
  rw [Option.bind_some, len_wrap hF, if_neg (by omega), if_pos hq]
 | succ d ih =>
  intro i hi hq
  have hw : wrap64 (((q ^ i : Nat) : Int) * (q : Int)) = ((q ^ (i + 1) : Nat) : Int) := by
   have h1 : q ^ i * q ≤ 2147483647 * 65521 := Nat.mul_le_mul hq hle
   rw [show ((q ^ i : Nat) : Int) * (q : Int) = ((q ^ i * q : Nat) : Int) from (Int.natCast_mul ..).symm, wrap_id (by omega) (by omega), Nat.pow_succ]
  have ht : wrap64 (Int.tdiv (2147483647 : Int) (q : Int)) = ((2147483647 / q : Nat) : Int) := by
   have h1 : 2147483647 / q ≤ 2147483647 := Nat.div_le_self _ _
   rw [show Int.tdiv (2147483647 : Int) (q : Int) = ((2147483647 / q : Nat) : Int) from rfl, wrap_nat (Nat.le_trans h1 (by decide))]
  have hiff : q ^ i ≤ 2147483647 / q ↔ q ^ (i + 1) ≤ 2147483647 := by rw [Nat.le_div_iff_mul_le hq0, Nat.pow_succ]
  by_cases h : q ^ (i + 1) ≤ 2147483647
  ·obtain ⟨K, hK⟩ := ih (i + 1) (by omega) h
   dsimp only at hK
   have h3 := hiff.2 h
   refine ⟨K + 1, fun k hk => ?_⟩
   obtain ⟨k', rfl, hk'⟩ := ex_succ hk
   simp only [r15Size.l0, r15Degree.f]
   rw [Option.bind_some, len_wrap hF, if_pos (by omega), if_neg (by omega), ht, if_neg (by omega), hw, succ_wrap (by omega)]
   exact hK k' hk'
  ·refine ⟨1, fun k hk => ?_⟩
   obtain ⟨k', rfl, hk'⟩ := ex_succ hk
   have h2 : q ^ (i + 1) ≤ q ^ n := Nat.pow_le_pow_right hq0 (by omega)
   have h3 : ¬ q ^ i ≤ 2147483647 / q := fun h3 => h (hiff.1 h3)
   simp only [r15Size.l0, r15Degree.f]
   rw [Option.bind_some, len_wrap hF, if_pos (by omega), if_neg (by omega), ht, if_pos (by omega), if_neg (by omega)]
theorem ref_Size_ok : Ev (fun k => r15Size.f k q f) (if Qn q f ≤ 2147483647 then (Qn q f : Int) else 0) := by
 obtain ⟨K, hK⟩ := ref_size_loop hF (f.length - 1) rfl (f.length - 1) 0 (by omega) (by simp)
 exact ⟨K, hK⟩
theorem element_loop {n : Nat} : ∀ (k m : Nat) (acc : List Int), m ≤ k → k ≤ 2147483647 → acc.length + m ≤ 4294967296 → Ev (fun j => gFElement.l0 j (m : Int) acc q f) (acc ++ dgt q k m)
 | 0, m, acc, hm, _, _ => by
  have e : m = 0 := by omega
  subst e
  refine ⟨1, fun k hk => ?_⟩
  obtain ⟨k', rfl, hk'⟩ := ex_succ hk
  simp only [gFElement.l0]
  rw [if_neg (by omega)]
  simp [dgt]
 | k + 1, m, acc, hm, hk, hl => by
  have h2 := hF.prm.1
  by_cases h0 : m = 0
  ·subst h0
   refine ⟨1, fun k hk => ?_⟩
   obtain ⟨k', rfl, hk'⟩ := ex_succ hk
   simp only [gFElement.l0]
   rw [if_neg (by omega)]
   simp [dgt]
  ·have hlt : m / q < m := Nat.div_lt_self (by omega) h2
   obtain ⟨K, hK⟩ := element_loop (n := n) k (m / q) (acc ++ [((m % q : Nat) : Int)]) (by omega) (by omega) (by simp; omega)
   dsimp only at hK
   refine ⟨K + 1, fun j hj => ?_⟩
   obtain ⟨j', rfl, hj'⟩ := ex_succ hj
   simp only [gFElement.l0]
   rw [if_pos (by omega), if_neg (by omega), if_pos (by omega), tdiv_nat, tmod_nat, wrap_nat (Nat.le_trans (Nat.le_of_lt hlt) (by omega)), hK j' hj', List.append_assoc]
   simp [dgt, h0]
theorem gf_Element_ok {m : Nat} (hm : m ≤ 2147483647) : Ev (fun k => gFElement.f k q f m) (dg q m) := by
 obtain ⟨K, hK⟩ := element_loop hF (n := 0) m m [] (Nat.le_refl _) hm (by simp; omega)
 rw [List.nil_append] at hK
 exact ⟨K, hK⟩
theorem dg_el {m : Nat} (hm : m < Qn q f) : El q f (dg q m) (P (dg q m)) := ⟨dg_nl hF.prm.1 m, by have := dg_len hF.prm.1 hm; have := hF.two; omega, Cg.refl _⟩
theorem Check_ok : Ev (fun k => fi_Check.f k q f) 0 := by
 have := field_Check_spec q f
 rwa [ckF_of hF] at this
end
theorem Few_spec (p : Int) (f : List Int) (most : Nat) : ∃ b : Bool, (b = true ↔ ∃ q : Nat, p = q ∧ Fld q f ∧ Qn q f ≤ 2147483647 ∧ Qn q f ≤ most) ∧ Ev (fun k => r15Few.f k p f most) b := by
 obtain ⟨K1, h1⟩ := ref15_Check_spec p f
 dsimp only at h1
 by_cases hl : f.length ≤ 17
 ·by_cases h0 : ckF p f = 0
  ·obtain ⟨q, rfl, hF⟩ := ckF_zero h0
   obtain ⟨K2, h2⟩ := ref_Size_ok hF
   dsimp only at h2
   have hpos := Qn_pos hF
   by_cases hQ : Qn q f ≤ 2147483647
   ·refine ⟨decide (Qn q f ≤ most), ⟨fun h => ⟨q, rfl, hF, hQ, of_decide_eq_true h⟩, fun ⟨q', e, _, _, h⟩ => ?_⟩, K1 + K2, fun k hk => ?_⟩
    ·obtain rfl : q = q' := by omega
     exact decide_eq_true h
    ·simp only [r15Few.f]
     rw [if_pos (by omega), h1 k (by omega), Option.bind_some, if_pos h0, h2 k (by omega), Option.bind_some, if_pos hQ, if_pos (by omega)]
     by_cases hm : Qn q f ≤ most
     ·rw [decide_eq_true hm, decide_eq_true (by omega)]
     ·rw [decide_eq_false hm, decide_eq_false (by omega)]
   ·refine ⟨false, ⟨fun h => by simp at h, fun ⟨q', e, _, h, _⟩ => ?_⟩, K1 + K2, fun k hk => ?_⟩
    ·obtain rfl : q = q' := by omega
     exact absurd h hQ
    ·simp only [r15Few.f]
     rw [if_pos (by omega), h1 k (by omega), Option.bind_some, if_pos h0, h2 k (by omega), Option.bind_some, if_neg hQ, if_neg (by omega)]
  ·refine ⟨false, ⟨fun h => by simp at h, fun ⟨q', e, h, _, _⟩ => ?_⟩, K1, fun k hk => ?_⟩
   ·subst e; exact absurd (ckF_of h) h0
   ·simp only [r15Few.f]
    rw [if_pos (by omega), h1 k (by omega), Option.bind_some, if_neg h0]
 ·refine ⟨false, ⟨fun h => by simp at h, fun ⟨q', e, h, _, _⟩ => absurd h.len (by omega)⟩, 0, fun k hk => ?_⟩
  simp only [r15Few.f]
  rw [if_neg (by omega)]
end Go.Proofs.Ytalnaafmonmlmaa.Q
end
section
namespace Go.Proofs.Ytalnaafmonmlmaa.Q
open Go.RowKit Go.Proofs.YtalnaafmonmlmaaW.PrintWords Go.Proofs.YtalnaafmonmlmaaW.PrintLast Go.Proofs.YtalnaafmonmlmaaW.PrintMore Go.Proofs.Ytalnaafmonmlmaa.M Go.Proofs.Ytalnaafmonmlmaa.M.ZX
set_option linter.unusedVariables false
set_option linter.unusedSimpArgs false
theorem Factor_ok {n : Nat} (h0 : 0 < n) (hN : n ≤ 2147483647) : Ev (fun k => rs_Factor.f k (n : Int)) (facS n, 0) := by
 obtain ⟨K, hK⟩ := factor_spec h0 hN
 dsimp only at hK
 refine ⟨K, fun k hk => ?_⟩
 simp only [rs_Factor.f]
 rw [bad_one (by omega) (by omega), Option.bind_some, if_neg (by simp), hK k hk, Option.bind_some]
theorem facS_at {n i : Nat} (hi : i < (fac n).length) : rd_T107 (facS n) (i : Int) = toS ((fac n)[i]) := by
 unfold rd_T107 facS
 rw [Int.toNat_natCast, List.getD_eq_getElem?_getD, List.getElem?_map, List.getElem?_eq_getElem hi]
 rfl
theorem prime_at {n r : Nat} (h0 : 0 < n) (hr : Prm r) (hd : r ∣ n) : ∃ i, ∃ h : i < (fac n).length, ((fac n)[i]).1 = r := by
 have hs := fac_spec h0
 obtain ⟨x, hx, e⟩ := prm_dvd_prodL hr hs.prm (by rw [hs.prod]; exact hd)
 obtain ⟨i, hi, hxi⟩ := List.getElem_of_mem hx
 exact ⟨i, hi, by rw [hxi, e]⟩
theorem prm_at {n i : Nat} (h0 : 0 < n) (hi : i < (fac n).length) : Prm ((fac n)[i]).1 := ((fac_spec h0).prm _ (List.getElem_mem hi)).1
theorem dvd_prodL : ∀ {l : List (Nat × Nat)} {x : Nat × Nat}, x ∈ l → 1 ≤ x.2 → x.1 ∣ prodL l
 | y :: l, x, hx, h1 => by
  rcases List.mem_cons.1 hx with rfl | hx
  ·show x.1 ∣ x.1 ^ x.2 * prodL l
   have h3 := Nat.pow_dvd_pow x.1 h1
   rw [Nat.pow_one] at h3
   exact Nat.dvd_trans h3 (Nat.dvd_mul_right _ _)
  ·show x.1 ∣ y.1 ^ y.2 * prodL l
   exact Nat.dvd_trans (dvd_prodL hx h1) (Nat.dvd_mul_left _ _)
theorem fac_dvd {n i : Nat} (h0 : 0 < n) (hi : i < (fac n).length) : ((fac n)[i]).1 ∣ n := by
 have hs := fac_spec h0
 have := dvd_prodL (List.getElem_mem hi) (hs.prm _ (List.getElem_mem hi)).2
 rwa [hs.prod] at this
section
variable {q : Nat} {f : List Int} (hF : Fld q f)
include hF
structure OrdI (q : Nat) (f : List Int) (A : ZX) (N n i : Nat) : Prop where
 pos : 1 ≤ n
 dvd : n ∣ N
 one : Cg q (P f) (A ^ n) 1
 tried : ∀ j, j < i → ∀ h : j < (fac N).length, ((fac N)[j]).1 ∣ n → ¬ Cg q (P f) (A ^ (n / ((fac N)[j]).1)) 1
theorem order_inner {a : List Int} {A : ZX} (ha : El q f a A) {N : Nat} (hN : 1 ≤ N) (hN2 : N ≤ 2147483647) {i : Nat} (hi : i < (fac N).length) (r : Int)
  (H : ∀ n, OrdI q f A N n (i + 1) → Ev (fun k => gFOrder.l0 k a (n : Int) (facS N) ((facS N).length : Int) ((i + 1 : Nat) : Int) q f) r) :
  ∀ n, OrdI q f A N n i → Ev (fun k => gFOrder.l1 k a (n : Int) (facS N) ((facS N).length : Int) (i : Int) q f (((fac N)[i]).1 : Int) (((fac N)[i]).2 : Int)) r := by
 have hpr := prm_at hN hi
 have hp2 := hpr.1
 have hlen : (fac N).length < N := fac_len hN
 have ew : wrap64 ((i : Int) + 1) = ((i + 1 : Nat) : Int) := by rw [show (i : Int) + 1 = ((i + 1 : Nat) : Int) from rfl, wrap_nat (by omega)]
 intro n
 induction n using Nat.strongRecOn with
 | _ n ih =>
  intro hI
  have hnN := Nat.le_of_dvd (by omega) hI.dvd
  have hpos := hI.pos
  by_cases hd : ((fac N)[i]).1 ∣ n
  ·obtain ⟨c, hc⟩ := hd
   have hdiv : n / ((fac N)[i]).1 = c := by rw [hc, Nat.mul_div_cancel_left _ (by omega)]
   have hc1 : 1 ≤ c := Nat.pos_of_ne_zero (by rintro rfl; omega)
   have hcn : c < n := by have := Nat.mul_lt_mul_of_pos_right (show 1 < ((fac N)[i]).1 by omega) hc1; omega
   obtain ⟨t, ht, K1, h1⟩ := gf_Pow_ok hF ha (e := c) (by omega)
   have ed : wrap64 (Int.tdiv (n : Int) (((fac N)[i]).1 : Int)) = (c : Int) := by rw [tdiv_nat, hdiv, wrap_nat (by omega)]
   have em : Int.tmod (n : Int) (((fac N)[i]).1 : Int) = 0 := by rw [tmod_nat, Nat.mod_eq_zero_of_dvd ⟨c, hc⟩]; rfl
   by_cases h1' : t = [1]
   ·have hone := (ht.one_iff hF).1 h1'
    have hI2 : OrdI q f A N c i := ⟨hc1, Nat.dvd_trans ⟨((fac N)[i]).1, by rw [hc, Nat.mul_comm]⟩ hI.dvd, hone, fun j hj hjl hdj h3 => by
     obtain ⟨e, he⟩ := hdj
     have hpj := (prm_at hN hjl).1
     have e1 : c / ((fac N)[j]).1 = e := by rw [he, Nat.mul_div_cancel_left _ (by omega)]
     have e2 : n / ((fac N)[j]).1 = e * ((fac N)[i]).1 := by rw [hc, he, Nat.mul_left_comm, Nat.mul_div_cancel_left _ (by omega), Nat.mul_comm]
     refine hI.tried j hj hjl ⟨e * ((fac N)[i]).1, by rw [hc, he, Nat.mul_left_comm, Nat.mul_comm ((fac N)[i]).1 e]⟩ ?_
     rw [e2, pow_mul]
     rw [e1] at h3
     exact Cg.one_pow h3 _⟩
    obtain ⟨K2, h2⟩ := ih c hcn hI2
    dsimp only at h1 h2
    refine ⟨K1 + K2 + 1, fun k hk => ?_⟩
    obtain ⟨k', rfl, hk'⟩ := ex_succ hk
    simp only [gFOrder.l1]
    rw [if_neg (by omega), if_pos em, ed, h1 k' (by omega), Option.bind_some, gf_IsOne_ok, decide_eq_true h1', Option.bind_some, if_pos rfl]
    exact h2 k' (by omega)
   ·obtain ⟨K2, h2⟩ := H n ⟨hI.pos, hI.dvd, hI.one, fun j hj hjl hdj => by
     by_cases e : j = i
     ·subst e
      rw [hdiv]
      exact fun h => h1' ((ht.one_iff hF).2 h)
     ·exact hI.tried j (by omega) hjl hdj⟩
    dsimp only at h1 h2
    refine ⟨K1 + K2 + 1, fun k hk => ?_⟩
    obtain ⟨k', rfl, hk'⟩ := ex_succ hk
    simp only [gFOrder.l1]
    rw [if_neg (by omega), if_pos em, ed, h1 k' (by omega), Option.bind_some, gf_IsOne_ok, decide_eq_false h1', Option.bind_some, if_neg (by simp), ew]
    exact h2 k' (by omega)
  ·obtain ⟨K2, h2⟩ := H n ⟨hI.pos, hI.dvd, hI.one, fun j hj hjl hdj => by
    by_cases e : j = i
    ·subst e; exact absurd hdj hd
    ·exact hI.tried j (by omega) hjl hdj⟩
   dsimp only at h2
   have em : ¬ Int.tmod (n : Int) (((fac N)[i]).1 : Int) = 0 := by
    rw [tmod_nat]
    intro h
    exact hd (Nat.dvd_of_mod_eq_zero (by omega))
   refine ⟨K2 + 1, fun k hk => ?_⟩
   obtain ⟨k', rfl, hk'⟩ := ex_succ hk
   simp only [gFOrder.l1]
   rw [if_neg (by omega), if_neg em, ew]
   exact h2 k' (by omega)
theorem order_outer {a : List Int} {A : ZX} (ha : El q f a A) {N : Nat} (hN : 1 ≤ N) (hN2 : N ≤ 2147483647) {k0 : Nat} (hk0 : IsOrd q (P f) A k0) : ∀ (d i n : Nat), i + d = (fac N).length → OrdI q f A N n i → Ev (fun k => gFOrder.l0 k a (n : Int) (facS N) ((facS N).length : Int) (i : Int) q f) (k0 : Int) := by
 have hl : (facS N).length = (fac N).length := List.length_map _
 intro d
 induction d with
 | zero =>
  intro i n hi hI
  have hOrd : IsOrd q (P f) A n := ord_of_primes hI.pos hI.one (fun r hr hd => by
   obtain ⟨j, hj, e⟩ := prime_at hN hr (Nat.dvd_trans hd hI.dvd)
   have := hI.tried j (by omega) hj (by rw [e]; exact hd)
   rwa [e] at this)
  have e := hOrd.unique hk0
  subst e
  refine ⟨1, fun k hk => ?_⟩
  obtain ⟨k', rfl, hk'⟩ := ex_succ hk
  simp only [gFOrder.l0]
  rw [if_neg (by omega)]
 | succ d ih =>
  intro i n hi hI
  obtain ⟨K1, h1⟩ := order_inner hF ha hN hN2 (i := i) (by omega) (k0 : Int) (fun n hn => ih (i + 1) n (by omega) hn) n hI
  dsimp only at h1
  refine ⟨K1 + 1, fun k hk => ?_⟩
  obtain ⟨k', rfl, hk'⟩ := ex_succ hk
  simp only [gFOrder.l0]
  rw [if_pos (by omega), if_pos (by omega), if_pos (by omega), facS_at (by omega), toS_f0, toS_f1]
  exact h1 k' (by omega)
theorem gf_Order_ok (hQ : Qn q f ≤ 2147483647) {a : List Int} {A : ZX} (ha : El q f a A) (hne : a ≠ []) : ∃ k0 : Nat, IsOrd q (P f) A k0 ∧ k0 ≤ Qn q f ∧ Ev (fun k => gFOrder.f k q f a (Qn q f : Int)) (k0 : Int) := by
 have hpos := Qn_pos hF
 have hone : Cg q (P f) (A ^ (Qn q f - 1)) 1 := field_fermat hF.prm hF.nl hF.two hF.dom (fun h => hne ((ha.nil_iff hF).2 h))
 obtain ⟨k0, hk0⟩ := exists_ord (by omega) hone
 have hle := Nat.le_of_dvd (by omega) ((hk0.dvd_iff _).1 hone)
 obtain ⟨K1, h1⟩ := Factor_ok (n := Qn q f - 1) (by omega) (by omega)
 obtain ⟨K2, h2⟩ := order_outer hF ha (N := Qn q f - 1) (by omega) (by omega) hk0 (fac (Qn q f - 1)).length 0 (Qn q f - 1) (by omega) ⟨by omega, Nat.dvd_refl _, hone, fun j hj => by omega⟩
 dsimp only at h1 h2
 refine ⟨k0, hk0, by omega, K1 + K2, fun k hk => ?_⟩
 simp only [gFOrder.f]
 rw [show (Qn q f : Int) - 1 = ((Qn q f - 1 : Nat) : Int) by omega, wrap_nat (by omega), h1 k (by omega), Option.bind_some]
 exact h2 k (by omega)
theorem generates_loop {a : List Int} {A : ZX} (ha : El q f a A) (hQ : Qn q f ≤ 2147483647) : ∀ (d i : Nat), i + d = (fac (Qn q f - 1)).length → (∀ j, j < i → ∀ h : j < (fac (Qn q f - 1)).length, ¬ Cg q (P f) (A ^ ((Qn q f - 1) / ((fac (Qn q f - 1))[j]).1)) 1) →
  ∃ b : Bool, (b = true ↔ a ≠ [] ∧ IsOrd q (P f) A (Qn q f - 1)) ∧ Ev (fun k => gFGenerates.l0 k a (Qn q f : Int) (facS (Qn q f - 1)) ((facS (Qn q f - 1)).length : Int) (i : Int) q f) b := by
 have hpos := Qn_pos hF
 have hl : (facS (Qn q f - 1)).length = (fac (Qn q f - 1)).length := List.length_map _
 have hlen : (fac (Qn q f - 1)).length < Qn q f - 1 := fac_len (by omega)
 intro d
 induction d with
 | zero =>
  intro i hi htried
  refine ⟨decide ((a.length : Int) > 0), ⟨fun h => ?_, fun h => decide_eq_true (by have := List.length_pos_iff.2 h.1; omega)⟩, 1, fun k hk => ?_⟩
  ·have hne : a ≠ [] := fun e => by have := of_decide_eq_true h; rw [e] at this; simp at this
   refine ⟨hne, ord_of_primes (by omega) (field_fermat hF.prm hF.nl hF.two hF.dom (fun h => hne ((ha.nil_iff hF).2 h))) (fun r hr hd => ?_)⟩
   obtain ⟨j, hj, e⟩ := prime_at (by omega) hr hd
   have := htried j (by omega) hj
   rwa [e] at this
  ·obtain ⟨k', rfl, hk'⟩ := ex_succ hk
   simp only [gFGenerates.l0]
   rw [if_neg (by omega)]
 | succ d ih =>
  intro i hi htried
  have hil : i < (fac (Qn q f - 1)).length := by omega
  have hpr := prm_at (by omega) hil
  have hp2 := hpr.1
  have hle : (Qn q f - 1) / ((fac (Qn q f - 1))[i]).1 ≤ Qn q f - 1 := Nat.div_le_self _ _
  obtain ⟨t, ht, K1, h1⟩ := gf_Pow_ok hF ha (e := (Qn q f - 1) / ((fac (Qn q f - 1))[i]).1) (by omega)
  have hdv : ((fac (Qn q f - 1))[i]).1 ∣ Qn q f - 1 := fac_dvd (by omega) hil
  have ed : wrap64 (Int.tdiv (wrap64 ((Qn q f : Int) - 1)) (((fac (Qn q f - 1))[i]).1 : Int)) = (((Qn q f - 1) / ((fac (Qn q f - 1))[i]).1 : Nat) : Int) := by
   rw [show (Qn q f : Int) - 1 = ((Qn q f - 1 : Nat) : Int) by omega, wrap_nat (by omega), tdiv_nat, wrap_nat (by omega)]
  dsimp only at h1
  by_cases h1' : t = [1]
  ·have hone := (ht.one_iff hF).1 h1'
   refine ⟨false, ⟨fun h => by simp at h, fun h => ?_⟩, K1 + 1, fun k hk => ?_⟩
   ·obtain ⟨c, hc⟩ := hdv
    have e1 : (Qn q f - 1) / ((fac (Qn q f - 1))[i]).1 = c := Nat.div_eq_of_eq_mul_right (by omega) hc
    rw [e1] at hone
    have hc1 : 1 ≤ c := Nat.pos_of_ne_zero (by rintro rfl; omega)
    have := Nat.mul_lt_mul_of_pos_right (show 1 < ((fac (Qn q f - 1))[i]).1 by omega) hc1
    exact absurd hone (h.2.2.2 c hc1 (by omega))
   ·obtain ⟨k', rfl, hk'⟩ := ex_succ hk
    simp only [gFGenerates.l0]
    rw [if_pos (by omega), if_pos (by omega), if_pos (by omega), facS_at hil, toS_f0, if_neg (by omega), ed, h1 k' (by omega), Option.bind_some, gf_IsOne_ok, decide_eq_true h1', Option.bind_some, if_pos rfl]
  ·obtain ⟨b, hb, K2, h2⟩ := ih (i + 1) (by omega) (fun j hj hjl => by
    by_cases e : j = i
    ·subst e; exact fun h => h1' ((ht.one_iff hF).2 h)
    ·exact htried j (by omega) hjl)
   dsimp only at h2
   refine ⟨b, hb, K1 + K2 + 1, fun k hk => ?_⟩
   obtain ⟨k', rfl, hk'⟩ := ex_succ hk
   simp only [gFGenerates.l0]
   rw [if_pos (by omega), if_pos (by omega), if_pos (by omega), facS_at hil, toS_f0, if_neg (by omega), ed, h1 k' (by omega), Option.bind_some, gf_IsOne_ok, decide_eq_false h1', Option.bind_some, if_neg (by simp), show (i : Int) + 1 = ((i + 1 : Nat) : Int) from rfl, wrap_nat (by omega)]
   exact h2 k' (by omega)
theorem gf_Generates_ok (hQ : Qn q f ≤ 2147483647) {a : List Int} {A : ZX} (ha : El q f a A) : ∃ b : Bool, (b = true ↔ a ≠ [] ∧ IsOrd q (P f) A (Qn q f - 1)) ∧ Ev (fun k => gFGenerates.f k q f a (Qn q f : Int)) b := by
 have hpos := Qn_pos hF
 obtain ⟨K1, h1⟩ := Factor_ok (n := Qn q f - 1) (by omega) (by omega)
 obtain ⟨b, hb, K2, h2⟩ := generates_loop hF ha hQ (fac (Qn q f - 1)).length 0 (by omega) (fun j hj => by omega)
 dsimp only at h1 h2
 refine ⟨b, hb, K1 + K2, fun k hk => ?_⟩
 simp only [gFGenerates.f]
 rw [show (Qn q f : Int) - 1 = ((Qn q f - 1 : Nat) : Int) by omega, wrap_nat (by omega), h1 k (by omega), Option.bind_some]
 exact h2 k (by omega)
end
end Go.Proofs.Ytalnaafmonmlmaa.Q
end
section
namespace Go.Proofs.Ytalnaafmonmlmaa.Q
open Go.RowKit Go.Proofs.YtalnaafmonmlmaaW.PrintWords Go.Proofs.YtalnaafmonmlmaaW.PrintLast Go.Proofs.YtalnaafmonmlmaaW.PrintMore Go.Proofs.Ytalnaafmonmlmaa.M Go.Proofs.Ytalnaafmonmlmaa.M.ZX
set_option linter.unusedVariables false
set_option linter.unusedSimpArgs false
theorem least_of8 {R : Nat → Prop} : ∀ N, R N → ∃ k, k ≤ N ∧ R k ∧ ∀ j, j < k → ¬ R j := by
 intro N
 induction N using Nat.strongRecOn with
 | _ N ih =>
  intro hN
  by_cases h : ∃ j, j < N ∧ R j
  ·obtain ⟨j, hj, hR⟩ := h
   obtain ⟨k, h1, h2, h3⟩ := ih j hj hR
   exact ⟨k, by omega, h2, h3⟩
  ·exact ⟨N, Nat.le_refl _, hN, fun j hj hR => h ⟨j, hj, hR⟩⟩
section
variable {q : Nat} {f : List Int} (hF : Fld q f)
include hF
def isGen (q : Nat) (f : List Int) (n : Nat) : Prop := n ≠ 0 ∧ IsOrd q (P f) (P (dg q n)) (Qn q f - 1)
theorem ord_cg {A B : ZX} {k : Nat} (h : IsOrd q (P f) A k) (hAB : Cg q (P f) A B) : IsOrd q (P f) B k := by
 have _ := hF
 exact ⟨h.1, (hAB.symm.pow k).trans h.2.1, fun j h1 h2 hj => h.2.2 j h1 h2 ((hAB.pow j).trans hj)⟩
theorem exists_gen : ∃ n, n < Qn q f ∧ isGen q f n ∧ ∀ m, m < n → ¬ isGen q f m := by
 have hpos := Qn_pos hF
 have hp2 := hF.prm.1
 obtain ⟨A, hA⟩ := exists_order hF.prm hF.nl hF.two hF.dom (Qn q f - 1) (by omega) (Nat.dvd_refl _)
 obtain ⟨a, ha⟩ : ∃ a, El q f a A := ⟨_, El.rm hF A⟩
 have hN := num_lt hp2 ha.1 (d := f.length - 1) (by have := ha.2.1; omega)
 have hdg := dg_num hp2 ha.1
 have hgen : isGen q f (hv a q).toNat := by
  refine ⟨fun h0 => ?_, ?_⟩
  ·have hnil : a = [] := by rw [← hdg, h0]; rfl
   have hz : In q (P f) A := (ha.nil_iff hF).1 hnil
   have h1 : In q (P f) (A ^ (Qn q f - 1)) := by
    rw [show Qn q f - 1 = (Qn q f - 2) + 1 by omega, pow_succ]
    exact hz.mul' _
   exact not_in_one hF.prm hF.nl hF.two (hA.2.1.in_iff.1 h1)
  ·rw [hdg]
   exact ord_cg hF hA ha.2.2.symm
 obtain ⟨n, h1, h2, h3⟩ := least_of8 (R := isGen q f) (hv a q).toNat hgen
 exact ⟨n, by show n < q ^ (f.length - 1); omega, h2, h3⟩
theorem gen_loop (hQ : Qn q f ≤ 2147483647) {n : Nat} (hn : n < Qn q f) (hg : isGen q f n) (hmin : ∀ m, m < n → ¬ isGen q f m) : ∀ (d i : Nat), i + d = n → ∃ K, ∀ kk k, K ≤ kk → K ≤ k → fi_Generator.l0 kk k q f (Qn q f : Int) i = some (dg q n, 0) := by
 have hp2 := hF.prm.1
 intro d
 induction d with
 | zero =>
  intro i hi
  have e : i = n := by omega
  subst e
  have hel := dg_el hF hn
  obtain ⟨K1, h1⟩ := gf_Element_ok hF (m := i) (by omega)
  obtain ⟨b, hb, K2, h2⟩ := gf_Generates_ok hF hQ hel
  have eb : b = true := hb.2 ⟨fun e => hg.1 ((dg_zero_iff hF.prm hF.nl hF.two hn).1 ((hel.nil_iff hF).1 e)), hg.2⟩
  subst eb
  dsimp only at h1 h2
  refine ⟨K1 + K2 + 1, fun kk k hkk hk => ?_⟩
  obtain ⟨k', rfl, hk'⟩ := ex_succ hk
  simp only [fi_Generator.l0]
  rw [if_pos (by omega), h1 kk (by omega), Option.bind_some, h2 kk (by omega), Option.bind_some, if_pos rfl]
 | succ d ih =>
  intro i hi
  have hil : i < Qn q f := by omega
  have hel := dg_el hF hil
  obtain ⟨K1, h1⟩ := gf_Element_ok hF (m := i) (by omega)
  obtain ⟨b, hb, K2, h2⟩ := gf_Generates_ok hF hQ hel
  have eb : b = false := Bool.eq_false_iff.2 fun e => hmin i (by omega) ⟨fun e0 => (hb.1 e).1 (by rw [e0]; rfl), (hb.1 e).2⟩
  subst eb
  obtain ⟨K3, h3⟩ := ih (i + 1) (by omega)
  dsimp only at h1 h2
  refine ⟨K1 + K2 + K3 + 1, fun kk k hkk hk => ?_⟩
  obtain ⟨k', rfl, hk'⟩ := ex_succ hk
  simp only [fi_Generator.l0]
  rw [if_pos (by omega), h1 kk (by omega), Option.bind_some, h2 kk (by omega), Option.bind_some, if_neg (by simp)]
  exact h3 kk k' (by omega) (by omega)
theorem Generator_ok (hQ : Qn q f ≤ 2147483647) {n : Nat} (hn : n < Qn q f) (hg : isGen q f n) (hmin : ∀ m, m < n → ¬ isGen q f m) : Ev (fun k => fi_Generator.f k q f) (dg q n, 0) := by
 obtain ⟨K1, h1⟩ := Check_ok hF
 obtain ⟨K2, h2⟩ := size_ok hF hQ
 obtain ⟨K3, h3⟩ := gen_loop hF hQ hn hg hmin n 0 (by omega)
 dsimp only at h1 h2
 refine ⟨K1 + K2 + K3, fun k hk => ?_⟩
 simp only [fi_Generator.f]
 rw [h1 k (by omega), Option.bind_some, if_pos rfl, h2 k (by omega), Option.bind_some, if_pos rfl, if_pos (by omega)]
 exact h3 k k (by omega) (by omega)
end
end Go.Proofs.Ytalnaafmonmlmaa.Q
end
section
namespace Go.Proofs.Ytalnaafmonmlmaa.Pure
open Go.RowKit Go.Proofs.YtalnaafmonmlmaaW.PrintWords Go.Proofs.YtalnaafmonmlmaaW.PrintLast Go.Proofs.YtalnaafmonmlmaaW.PrintMore Go.Proofs.Ytalnaafmonmlmaa.M Go.Proofs.Ytalnaafmonmlmaa.M.ZX Go.Proofs.Ytalnaafmonmlmaa.Q
set_option linter.unusedVariables false
set_option linter.unusedSimpArgs false
theorem ord_inj {p : Nat} {f A : ZX} {k i j : Nat} (h : IsOrd p f A k) (hij : i < j) (hj : j < k) : ¬ Cg p f (A ^ i) (A ^ j) := by
 intro hc
 have h1 : Cg p f (A ^ (i + (k - j))) 1 := by
  rw [pow_add]
  refine (hc.mul (Cg.refl _)).trans ?_
  rw [← pow_add, show j + (k - j) = k by omega]
  exact h.2.1
 have := Nat.le_of_dvd (by omega) ((h.dvd_iff _).1 h1)
 omega
section
variable {q : Nat} {f : List Int} (hF : Fld q f)
include hF
theorem pow_le_Q {n : Nat} (h : n < f.length) : q ^ n ≤ Qn q f := Nat.pow_le_pow_right (by have := hF.prm.1; omega) (by omega)
theorem number_loop {l : List Int} (hl : NL q l) (hlt : l.length < f.length) (hQ : Qn q f ≤ 2147483647) : ∀ (i : Nat) (y : Int), i ≤ l.length → y = (i : Int) - 1 → Ev (fun k => gFNumber.l0 k l (hv (l.drop i) q) y q f) (hv l q) := by
 intro i
 induction i with
 | zero =>
  intro y _ hy
  subst hy
  refine ⟨1, fun k hk => ?_⟩
  obtain ⟨k', rfl, hk'⟩ := ex_succ hk
  simp only [gFNumber.l0]
  rw [if_neg (by omega), List.drop_zero]
 | succ i ih =>
  intro y hi hy
  obtain rfl : y = (i : Int) := by omega
  obtain ⟨K, hK⟩ := ih ((i : Int) - 1) (by omega) rfl
  have e : hv (l.drop i) q = l.getD i 0 + q * hv (l.drop (i + 1)) q := by
   rw [List.drop_eq_getElem_cons (by omega), List.getD_eq_getElem?_getD, List.getElem?_eq_getElem (by omega)]
   rfl
  have hb : ∀ j, 0 ≤ hv (l.drop j) q ∧ hv (l.drop j) q < 2147483648 := fun j => by
   have h1 := nl_num (p := q) (l := l.drop j) (fun c hc => hl.1 c (List.mem_of_mem_drop hc))
   have h2 := pow_le_Q hF (n := (l.drop j).length) (by rw [List.length_drop]; omega)
   omega
  have hd := hl.getD (by have := hF.prm.1; omega) i
  have h0 := hb i
  have h1 := hb (i + 1)
  have hm : 0 ≤ (q : Int) * hv (l.drop (i + 1)) q := Int.mul_nonneg (by omega) h1.1
  dsimp only at hK
  refine ⟨K + 1, fun k hk => ?_⟩
  obtain ⟨k', rfl, hk'⟩ := ex_succ hk
  simp only [gFNumber.l0]
  have hlen := hF.len
  rw [if_pos (by omega), if_pos (by omega), if_pos (by omega), rd_nat, Int.mul_comm, wrap_id (x := (q : Int) * hv (l.drop (i + 1)) q) (by omega) (by omega), wrap_id (by omega) (by omega), wrap_id (x := (i : Int) - 1) (by omega) (by omega), Int.add_comm, ← e]
  exact hK k' (by omega)
theorem Number_ok (hQ : Qn q f ≤ 2147483647) {l : List Int} {x : ZX} (hl : El q f l x) : Ev (fun k => fi_Number.f k q f l) (hv l q, 0) := by
 obtain ⟨K1, h1⟩ := check_one hF hl
 obtain ⟨K2, h2⟩ := size_ok hF hQ
 obtain ⟨K3, h3⟩ := number_loop hF hl.1 hl.2.1 hQ l.length _ (Nat.le_refl _) rfl
 have hlen := hF.len
 have h4 := hl.2.1
 rw [List.drop_length] at h3
 dsimp only at h1 h2 h3
 refine ⟨K1 + K2 + K3, fun k hk => ?_⟩
 simp only [fi_Number.f, gFNumber.f]
 rw [h1 k (by omega), Option.bind_some, if_pos rfl, h2 k (by omega), Option.bind_some, if_pos rfl, wrap_id (by omega) (by omega)]
 have e : gFNumber.l0 k l 0 ((l.length : Int) - 1) q f = some (hv l q) := h3 k (by omega)
 rw [e, Option.bind_some]
theorem num_bound {l : List Int} {x : ZX} (hl : El q f l x) : 0 ≤ hv l q ∧ hv l q < Qn q f := by
 have h1 := nl_num (p := q) hl.1.1
 have h2 := pow_le_Q hF hl.2.1
 omega
theorem Pow_nat {a : List Int} {x : ZX} (ha : El q f a x) {m : Nat} (h1 : 1 ≤ m) (hm : m ≤ 65521) : ∃ c e, El q f c (x ^ m) ∧ Ev (fun k => r1FromInt.f k m) e ∧ Ev (fun k => fi_Pow.f k q f a e) (c, 0) := by
 have := hF.len
 obtain ⟨e, ⟨he, hb⟩, hV, H1⟩ := FromInt_bt h1 hm
 obtain ⟨K2, h2⟩ := fp_PowMod_spec hF.prm hF.le e ha.1 hF.nl hF.ne (by have := ha.2.1; omega) (by omega) (by omega)
 rw [hV] at h2
 obtain ⟨K3, h3⟩ := check_one hF ha
 obtain ⟨K7, h7⟩ := natural_Check_ok e
 have hN : ckN e = 0 := by
  unfold ckN
  rw [if_neg (fun h => hb h.2), if_neg (by omega)]
 rw [hN] at h7
 have h := El.rm hF (P a ^ m)
 dsimp only at h2 h3 h7
 refine ⟨_, e, ⟨h.1, h.2.1, h.2.2.trans (ha.2.2.pow m)⟩, H1, K2 + K3 + K7, fun k hk => ?_⟩
 simp only [fi_Pow.f, gFPowNat.f]
 rw [h3 k (by omega), Option.bind_some, if_pos rfl, h7 k (by omega), Option.bind_some, if_pos rfl, h2 k (by omega), Option.bind_some, Option.bind_some]
theorem fermat_loop (hQ : Qn q f ≤ 256) {g : List Int} {G : ZX} (hg : El q f g G) (ho : IsOrd q (P f) G (Qn q f - 1)) : ∀ (d i : Nat) (x : List Int) (s : List Bool), i + d = Qn q f → 1 ≤ i → El q f x (G ^ (i - 1)) → s.length = Qn q f →
  (∀ n, s.getD n false = true → ∃ j y, j + 1 < i ∧ El q f y (G ^ j) ∧ (hv y q).toNat = n) → Ev (fun k => lw.l0 k (Qn q f : Int) g s x (i : Int) q f) true := by
 have hp2 := hF.prm.1
 intro d
 induction d with
 | zero =>
  intro i x s hi h1 hx hs hseen
  have e : x = [1] := hx.eq hF (El.one hF) (by rw [show i - 1 = Qn q f - 1 by omega]; exact ho.2.1)
  obtain ⟨K, hK⟩ := Same_ok e (hx.small hF)
  dsimp only at hK
  refine ⟨K + 1, fun k hk => ?_⟩
  obtain ⟨k', rfl, hk'⟩ := ex_succ hk
  simp only [lw.l0]
  rw [if_neg (by omega), hK k' (by omega), Option.bind_some]
 | succ d ih =>
  intro i x s hi h1 hx hs hseen
  have hne : x ≠ [] := by
   intro e
   have h0 : In q (P f) (G ^ (i - 1)) := (hx.nil_iff hF).1 e
   have h2 : In q (P f) (G ^ (Qn q f - 1)) := by
    rw [show Qn q f - 1 = (Qn q f - i) + (i - 1) by omega, pow_add]
    exact h0.mul' _
   exact not_in_one hF.prm hF.nl hF.two (ho.2.1.in_iff.1 h2)
  have hb := num_bound hF hx
  have hpos : 1 ≤ hv x q := by
   rcases Int.lt_or_le 0 (hv x q) with h | h
   ·exact h
   ·exact absurd (nl_num_zero hx.1.1 hx.1.2 (by omega)) hne
  obtain ⟨N, hN⟩ : ∃ N : Nat, hv x q = N := ⟨(hv x q).toNat, by omega⟩
  have hfalse : s.getD N false = false := by
   cases hc : s.getD N false with
   | false => rfl
   | true =>
    obtain ⟨j, y, hj, hy, hyn⟩ := hseen N hc
    have e : y = x := by
     rw [← dg_num hp2 hy.1, ← dg_num hp2 hx.1, hyn, hN]
     rfl
    subst e
    exact absurd (hy.2.2.symm.trans hx.2.2) (ord_inj ho (show j < i - 1 by omega) (by omega))
  obtain ⟨K1, k1⟩ := Number_ok hF (by omega) hx
  obtain ⟨c, hc, K2, k2⟩ := Mul_ok hF hx hg
  have hc' : El q f c (G ^ (i + 1 - 1)) := by
   have e : G ^ (i + 1 - 1) = G ^ (i - 1) * G := by rw [← pow_succ, show i - 1 + 1 = i by omega]; rfl
   rw [e]; exact hc
  obtain ⟨K3, k3⟩ := ih (i + 1) c (s.set N true) (by omega) (by omega) hc' (by rw [List.length_set]; exact hs) (by
   intro n hn
   by_cases e : n = N
   ·exact ⟨i - 1, x, by omega, hx, by rw [hN]; exact e.symm⟩
   ·obtain ⟨j, y, hj, hy⟩ := hseen n (by
     rw [List.getD_eq_getElem?_getD, List.getElem?_set, if_neg (fun h => e h.symm), ← List.getD_eq_getElem?_getD] at hn
     exact hn)
    exact ⟨j, y, by omega, hy⟩)
  rw [hN] at k1 hb hpos
  dsimp only at k1 k2 k3
  refine ⟨K1 + K2 + K3 + 2, fun k hk => ?_⟩
  obtain ⟨m1, rfl, hm1⟩ := ex_succ hk
  obtain ⟨m2, rfl, hm2⟩ := ex_succ (K := K1 + K2 + K3) (k := m1) (by omega)
  simp only [lw.l0]
  have er : rdOf false s (N : Int) = false := by
   unfold rdOf
   rw [Int.toNat_natCast]; exact hfalse
  rw [if_pos (by omega), k1 _ (by omega), Option.bind_some, if_pos rfl, if_neg (by omega), if_neg (by omega), if_pos (by omega), if_pos (by omega), er]
  simp only [lw.j5]
  rw [if_neg (by simp), if_pos (by omega), if_pos (by omega), k2 _ (by omega), Option.bind_some, if_pos rfl, Int.toNat_natCast, show (i : Int) + 1 = ((i + 1 : Nat) : Int) from rfl, wrap_nat (by omega)]
  exact k3 _ (by omega)
theorem fermat_j3 (hQ : Qn q f ≤ 256) {g : List Int} {G : ZX} (hg : El q f g G) (ho : IsOrd q (P f) G (Qn q f - 1)) : Ev (fun k => lw.j3 k (Qn q f : Int) g q f) true := by
 have hpos := Qn_pos hF
 obtain ⟨K, hK⟩ := fermat_loop hF hQ hg ho (Qn q f - 1) 1 [1] (List.replicate (Qn q f) false) (by omega) (Nat.le_refl _) (by rw [show 1 - 1 = 0 from rfl, pow_zero]; exact El.one hF) (by simp) (by
  intro n hn
  rw [List.getD_eq_getElem?_getD, List.getElem?_replicate] at hn
  split at hn <;> cases hn)
 dsimp only at hK
 refine ⟨K + 1, fun k hk => ?_⟩
 obtain ⟨k', rfl, hk'⟩ := ex_succ hk
 simp only [lw.j3]
 rw [if_pos (by omega), if_pos (by omega), Int.toNat_natCast]
 exact hK k' (by omega)
theorem fermat_good (hQ : Qn q f ≤ 256) {a : List Int} {A : ZX} (ha : El q f a A) : Ev (fun k => lw.j0 k a false q f) true := by
 have hlen := hF.len
 have hpos := Qn_pos hF
 obtain ⟨n, hn, hgen, hmin⟩ := exists_gen hF
 have hg := dg_el hF hn
 obtain ⟨K1, h1⟩ := ref_Size_ok hF
 rw [if_pos (by omega)] at h1
 obtain ⟨c, e, hc, ⟨K2, h2⟩, K3, h3⟩ := Pow_nat hF ha (m := Qn q f) (by omega) (by omega)
 obtain ⟨K4, h4⟩ := Generator_ok hF (by omega) hn hgen hmin
 have ec : c = a := hc.eq hF ha (field_frob hF.prm hF.nl hF.two hF.dom A)
 obtain ⟨K5, h5⟩ := Same_ok ec (hc.small hF)
 obtain ⟨K6, h6⟩ := fermat_j3 hF hQ hg hgen.2
 obtain ⟨K7, h7⟩ : Ev (fun k => lw.j1 k a (Qn q f : Int) (dg q n) false q f) true := by
  by_cases hne : a = []
  ·subst hne
   dsimp only at h6
   refine ⟨K6 + 1, fun k hk => ?_⟩
   obtain ⟨k', rfl, hk'⟩ := ex_succ hk
   simp only [lw.j1]
   rw [if_neg (by simp), if_neg (by simp)]
   exact h6 k' (by omega)
  ·have hl := List.length_pos_iff.2 hne
   obtain ⟨k0, hk0, hle, K13, h13⟩ := gf_Order_ok hF (by omega) ha hne
   obtain ⟨K9, h9⟩ := check_one hF ha
   obtain ⟨K10, h10⟩ := size_ok hF (show Qn q f ≤ 2147483647 by omega)
   have hk1 := hk0.1
   obtain ⟨c1, e1, hc1, ⟨K14, h14⟩, K15, h15⟩ := Pow_nat hF ha (m := k0) hk1 (by omega)
   have ec1 : c1 = [1] := hc1.eq hF (El.one hF) hk0.2.1
   obtain ⟨K16, h16⟩ := Same_ok ec1 (hc1.small hF)
   have hdvd : k0 ∣ Qn q f - 1 := (hk0.dvd_iff _).1 (field_fermat hF.prm hF.nl hF.two hF.dom fun h => hne ((ha.nil_iff hF).2 h))
   have em : Int.tmod (wrap64 ((Qn q f : Int) - 1)) (k0 : Int) = 0 := by
    rw [show (Qn q f : Int) - 1 = ((Qn q f - 1 : Nat) : Int) by omega, wrap_nat (by omega), tmod_nat, Nat.mod_eq_zero_of_dvd hdvd]
    rfl
   dsimp only at h6 h9 h10 h13 h14 h15 h16
   refine ⟨K6 + K9 + K10 + K13 + K14 + K15 + K16 + 2, fun k hk => ?_⟩
   obtain ⟨m1, rfl, hm1⟩ := ex_succ hk
   obtain ⟨m2, rfl, hm2⟩ := ex_succ (K := K6 + K9 + K10 + K13 + K14 + K15 + K16) (k := m1) (by omega)
   have hO : fi_Order.f (m2 + 1) q f a = some ((k0 : Int), 0) := by
    simp only [fi_Order.f]
    rw [h9 _ (by omega), Option.bind_some, if_pos rfl, h10 _ (by omega), Option.bind_some, if_pos rfl, if_neg (by omega), h13 _ (by omega), Option.bind_some]
   simp only [lw.j1]
   rw [if_neg (by simp), if_pos (by omega), hO, Option.bind_some, if_pos rfl, if_neg (by omega), if_neg (by omega), if_neg (by omega), em]
   simp only [lw.j2]
   rw [if_neg (by simp), h14 _ (by omega), Option.bind_some, h15 _ (by omega), Option.bind_some, if_pos rfl, h16 _ (by omega), Option.bind_some, if_pos rfl]
   exact h6 _ (by omega)
 dsimp only at h1 h2 h3 h4 h5 h7
 refine ⟨K1 + K2 + K3 + K4 + K5 + K7 + 1, fun k hk => ?_⟩
 obtain ⟨k', rfl, hk'⟩ := ex_succ hk
 simp only [lw.j0]
 rw [if_neg (by simp), h1 k' (by omega), Option.bind_some, h2 k' (by omega), Option.bind_some, h3 k' (by omega), Option.bind_some, h4 k' (by omega), Option.bind_some, if_pos rfl, if_pos rfl, h5 k' (by omega), Option.bind_some, Bool.not_true]
 exact h7 k' (by omega)
end
theorem FinitefieldFermat : lw.Pure := by
 intro p f a _ _ _ _ _ _ _
 obtain ⟨Ka, ha⟩ := awake_ev
 obtain ⟨b, hb, K1, h1⟩ := Few_spec p f 256
 have out : ∀ k, Ka ≤ k → lw.j0 (k + 1) a true p f = some true := fun k hk => by
  simp only [lw.j0]
  rw [if_pos trivial, ha k hk, Option.bind_some]
 dsimp only at h1
 cases b with
 | false =>
  refine ⟨Ka + K1 + 1, ?_⟩
  simp only [lw.f]
  rw [ha _ (by omega), Option.bind_some, if_pos rfl, show (256 : Int) = ((256 : Nat) : Int) from rfl, h1 _ (by omega), Option.bind_some, if_neg (by simp)]
  exact out _ (by omega)
 | true =>
  obtain ⟨q, rfl, hF, hQ, hQ2⟩ := hb.1 rfl
  obtain ⟨K2, h2⟩ := Member_spec (q : Int) f a
  dsimp only at h2
  by_cases h0 : ckE q f a = 0
  ·obtain ⟨K3, h3⟩ := fermat_good hF hQ2 (El.of hF (ckE_zero h0).1 (ckE_zero h0).2)
   dsimp only at h3
   refine ⟨Ka + K1 + K2 + K3, ?_⟩
   simp only [lw.f]
   rw [ha _ (by omega), Option.bind_some, if_pos rfl, show (256 : Int) = ((256 : Nat) : Int) from rfl, h1 _ (by omega), Option.bind_some, if_pos rfl, h2 _ (by omega), Option.bind_some, h0]
   exact h3 _ (by omega)
  ·refine ⟨Ka + K1 + K2 + 1, ?_⟩
   simp only [lw.f]
   rw [ha _ (by omega), Option.bind_some, if_pos rfl, show (256 : Int) = ((256 : Nat) : Int) from rfl, h1 _ (by omega), Option.bind_some, if_pos rfl, h2 _ (by omega), Option.bind_some, bne_iff_ne.2 h0]
   exact out _ (by omega)
end Go.Proofs.Ytalnaafmonmlmaa.Pure
end

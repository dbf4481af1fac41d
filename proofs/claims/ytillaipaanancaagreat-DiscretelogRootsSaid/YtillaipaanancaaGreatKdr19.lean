/- Machine side and arithmetic of the law, put together by a program of the session. No conditions. -/
import Derived.WalkKit
import Derived.WalkSmall
import Derived.Test.YtillaipaanancaaGreatKdr0
import Derived.Test.YtillaipaanancaaGreatKdr17
section
namespace Go.Proofs.YtillaipaanancaaGreat.Q
open Go.RowKit Go.Proofs.YtillaipaanancaaGreatW.PrintWords Go.Proofs.YtillaipaanancaaGreatW.PrintLast Go.Proofs.YtillaipaanancaaGreatW.PrintMore Go.Proofs.YtillaipaanancaaGreat.M Go.Proofs.YtillaipaanancaaGreat.M.ZX
set_option linter.unusedVariables false
set_option linter.unusedSimpArgs false
theorem wrap_id {x : Int} (h0 : -9223372036854775808 ≤ x) (h1 : x ≤ 9223372036854775807) : wrap64 x = x := by unfold wrap64; omega
theorem ex_succ {K k : Nat} (h : K + 1 ≤ k) : ∃ j, k = j + 1 ∧ K ≤ j := ⟨k - 1, by omega, by omega⟩
theorem mul_lt_w {a b : Int} (ha0 : 0 ≤ a) (ha : a ≤ 2147483647) (hb0 : 0 ≤ b) (hb : b ≤ 2147483647) : 0 ≤ a * b ∧ a * b ≤ 4611686014132420609 :=
 ⟨Int.mul_nonneg ha0 hb0, Int.mul_le_mul ha hb hb0 (by omega)⟩
theorem mod_spec {a m : Int} (hm : 0 < m) (hM : m ≤ 2147483647) : fp_Mod.f m a = some (a % m) := by
 unfold fp_Mod.f
 rw [if_neg (by omega)]
 have h1 := Int.tmod_eq_emod (a := a) (b := m)
 have h2 := Int.emod_nonneg a (b := m) (by omega)
 have h3 := Int.emod_lt_of_pos a hm
 by_cases hc : 0 ≤ a ∨ m ∣ a
 ·rw [if_pos hc] at h1
  rw [if_neg (by omega), h1]
  simp
 ·rw [if_neg hc] at h1
  have h0 : a % m ≠ 0 := fun h => hc (.inr (Int.dvd_of_emod_eq_zero h))
  rw [if_pos (by omega), h1, wrap_id (by omega) (by omega)]
  congr 1
  omega
theorem Mod_spec {a m : Int} (hm : 0 < m) (hM : m ≤ 2147483647) : r4Mod.f a m = some (a % m) := by
 unfold r4Mod.f
 rw [if_neg (by omega)]
 have h1 := Int.tmod_eq_emod (a := a) (b := m)
 have h2 := Int.emod_nonneg a (b := m) (by omega)
 have h3 := Int.emod_lt_of_pos a hm
 have h4 : 0 ≤ Int.tmod a m + m := by split at h1 <;> omega
 rw [wrap_id (by omega) (by split at h1 <;> omega), Int.tmod_eq_emod_of_nonneg h4]
 congr 1
 rw [h1, Int.add_emod_right]
 split
 ·simp
 ·rw [Int.natAbs_of_nonneg (by omega), Int.sub_emod_right, Int.emod_emod]
theorem rd_nat (l : List Int) (i : Nat) : rd l (i : Int) = l.getD i 0 := by unfold rd; rw [Int.toNat_natCast]
theorem mx_nat (a b : Nat) : mx (a : Int) (b : Int) = ((max a b : Nat) : Int) := by unfold mx; split <;> omega
theorem take_snoc {l : List Int} {n : Nat} (h : n < l.length) : l.take (n + 1) = l.take n ++ [l.getD n 0] := by
 rw [List.take_succ_eq_append_getElem h, List.getD_eq_getElem?_getD, List.getElem?_eq_getElem h, Option.getD_some]
theorem succ_wrap {i : Nat} (h : i ≤ 2147483647) : wrap64 ((i : Int) + 1) = ((i + 1 : Nat) : Int) := by rw [wrap_id (by omega) (by omega)]; omega
theorem dvd_emod_sub (p : Nat) (x : Int) : (p : Int) ∣ x % p - x := by
 have h := Int.mul_ediv_add_emod x p
 exact ⟨- (x / p), by rw [Int.mul_neg]; omega⟩
theorem fp_Trim_loop (l : List Int) (hl : l.length ≤ 1000000) : ∀ n : Nat, n ≤ l.length → Ev (fun k => fp_Trim.l0 k l (n : Int)) (tr (l.take n))
 | 0, _ => ⟨1, fun k hk => by
   obtain ⟨j, rfl, _⟩ := ex_succ hk
   simp only [fp_Trim.l0]
   rw [if_neg (by omega), if_pos (by omega), if_pos (by omega)]
   simp [tr]⟩
 | n + 1, h => by
  obtain ⟨K, ih⟩ := fp_Trim_loop l hl n (by omega)
  dsimp only at ih
  refine ⟨K + 1, fun k hk => ?_⟩
  obtain ⟨j, rfl, hj⟩ := ex_succ hk
  have e : wrap64 (((n + 1 : Nat) : Int) - 1) = (n : Int) := by rw [wrap_id (by omega) (by omega)]; omega
  simp only [fp_Trim.l0]
  rw [if_pos (by omega), e, if_pos (by omega), if_pos (by omega), rd_nat]
  by_cases hc : l.getD n 0 = 0
  ·rw [if_pos hc, ih j hj, take_snoc (by omega), hc, tr_snoc_zero]
  ·rw [if_neg hc, if_pos (by omega), if_pos (by omega), Int.toNat_natCast, take_snoc (by omega), tr_snoc_ne _ hc]
theorem fp_Trim_spec (l : List Int) (hl : l.length ≤ 1000000) : Ev (fun k => fp_Trim.f k l) (tr l) := by
 have := fp_Trim_loop l hl l.length (Nat.le_refl _)
 rwa [List.take_length] at this
theorem ref_Trim_spec : ∀ (n : Nat) (l : List Int), l.length = n → l.length ≤ 1000000 → Ev (fun k => r9Trim.f k l) (tr l)
 | 0, l, h, _ => ⟨1, fun k hk => by
   obtain ⟨j, rfl, _⟩ := ex_succ hk
   simp only [r9Trim.f, r9Trim.l0]
   rw [if_neg (by omega), List.eq_nil_of_length_eq_zero h]
   rfl⟩
 | n + 1, l, h, hl => by
  obtain ⟨K, ih⟩ := ref_Trim_spec n (l.take n) (by rw [List.length_take]; omega) (by rw [List.length_take]; omega)
  dsimp only [r9Trim.f] at ih
  refine ⟨K + 1, fun k hk => ?_⟩
  obtain ⟨j, rfl, hj⟩ := ex_succ hk
  have e : wrap64 ((l.length : Int) - 1) = (n : Int) := by rw [wrap_id (by omega) (by omega)]; omega
  have hs : l = l.take n ++ [l.getD n 0] := by rw [← take_snoc (by omega), ← h, List.take_length]
  simp only [r9Trim.f, r9Trim.l0]
  rw [if_pos (by omega), e, if_pos (by omega), if_pos (by omega), rd_nat]
  by_cases hc : l.getD n 0 = 0
  ·rw [if_pos hc, if_pos (by omega), Int.toNat_natCast, ih j hj]
   conv => rhs; rw [hs, hc, tr_snoc_zero]
  ·rw [if_neg hc, hs, tr_snoc_ne _ hc]
theorem tr_eq_nf {p : Nat} (hp : 0 < p) {l : List Int} {x : ZX} (h : ∀ j, j < l.length → 0 ≤ l.getD j 0 ∧ l.getD j 0 < p) (h2 : Cg p 0 (P l) x) : tr l = nf p x :=
 nf_eq hp (tr_nl h) (by rw [P_tr]; exact h2)
theorem cg_lin {p : Nat} {f : ZX} {l a b : List Int} (s t : Int) (h : ∀ j, (p : Int) ∣ l.getD j 0 - (s * a.getD j 0 + t * b.getD j 0)) : Cg p f (P l) (C s * P a + C t * P b) := by
 rw [← P_scale, ← P_scale, ← P_ladd]
 refine cg_of_getD fun i => ?_
 rw [getD_ladd]
 have e : ∀ (c : Int) (m : List Int), (m.map (c * ·)).getD i 0 = c * m.getD i 0 := by
  intro c m
  rw [List.getD_eq_getElem?_getD, List.getD_eq_getElem?_getD, List.getElem?_map]
  cases m[i]? <;> simp
 rw [e, e]
 exact h i
theorem lin_nf {p : Nat} (hp : 0 < p) {l a b : List Int} (s t : Int) (h : ∀ j, l.getD j 0 = (s * a.getD j 0 + t * b.getD j 0) % p) : tr l = nf p (C s * P a + C t * P b) := by
 refine tr_eq_nf hp (fun j hj => ?_) (cg_lin s t fun j => ?_)
 ·rw [h]; exact ⟨Int.emod_nonneg _ (by omega), Int.emod_lt_of_pos _ (by omega)⟩
 ·rw [h]; exact dvd_emod_sub _ _
theorem at_nat (l : List Int) (i : Nat) : fp_at.f l (i : Int) = some (l.getD i 0) := by
 unfold fp_at.f
 by_cases h : i < l.length
 ·rw [if_pos (by omega), if_pos (by omega), rd_nat]
 ·rw [if_neg (by omega), getD_of_len (by omega)]
theorem full {p : Nat} {l a b : List Int} {n : Nat} {s t : Int} (hl : l.length = n) (ha : a.length ≤ n) (hb : b.length ≤ n) (h : ∀ j, j < n → l.getD j 0 = (s * a.getD j 0 + t * b.getD j 0) % p) : ∀ j, l.getD j 0 = (s * a.getD j 0 + t * b.getD j 0) % p := fun j => by
 rcases Nat.lt_or_ge j n with h1 | h1
 ·exact h j h1
 ·rw [getD_of_len (l := l) (by omega), getD_of_len (l := a) (by omega), getD_of_len (l := b) (by omega)]; simp
theorem set_step {p : Nat} {l a b : List Int} {i : Nat} {s t : Int} (hi : i < l.length) (h : ∀ j, j < i → l.getD j 0 = (s * a.getD j 0 + t * b.getD j 0) % p) : ∀ j, j < i + 1 → (l.set i ((s * a.getD i 0 + t * b.getD i 0) % p)).getD j 0 = (s * a.getD j 0 + t * b.getD j 0) % p := fun j hj => by
 rw [getD_set _ _ _ _ hi]
 split
 ·rename_i e; rw [e]
 ·exact h j (by omega)
theorem ref_Copy_spec (l : List Int) (h : l.length ≤ 1000000) : r9Copy.f l = some l := by
 unfold r9Copy.f
 rw [Option.bind_some, if_pos (by simp; omega), List.nil_append]
section
variable {p : Nat} (hp : 0 < p) (hP : p ≤ 65521)
include hp hP
theorem fp_Sub_loop (a b : List Int) (ha : NL p a) (hb : NL p b) (n : Nat) (hn : n ≤ 1000000) : ∀ (d i : Nat) (l : List Int), i + d = n → l.length = n → (∀ j, j < i → l.getD j 0 = (1 * a.getD j 0 + (-1) * b.getD j 0) % p) →
  ∃ l', l'.length = n ∧ (∀ j, j < n → l'.getD j 0 = (1 * a.getD j 0 + (-1) * b.getD j 0) % p) ∧ Ev (fun k => fp_Sub.l0 k p a b l (n : Int) (i : Int)) (tr l')
 | 0, i, l, hi, hl, h => by
  obtain ⟨K, hK⟩ := fp_Trim_spec l (by omega)
  dsimp only at hK
  refine ⟨l, hl, fun j hj => h j (by omega), K + 1, fun k hk => ?_⟩
  obtain ⟨j, rfl, hj⟩ := ex_succ hk
  simp only [fp_Sub.l0]
  rw [if_neg (by omega), hK j hj]
  rfl
 | d + 1, i, l, hi, hl, h => by
  have h1 := ha.getD hp i
  have h2 := hb.getD hp i
  obtain ⟨l', e1, e2, K, hK⟩ := fp_Sub_loop a b ha hb n hn d (i + 1) (l.set i ((1 * a.getD i 0 + (-1) * b.getD i 0) % p)) (by omega) (by rw [List.length_set]; exact hl) (set_step (by omega) h)
  dsimp only at hK
  refine ⟨l', e1, e2, K + 1, fun k hk => ?_⟩
  obtain ⟨j, rfl, hj⟩ := ex_succ hk
  have e3 : (a.getD i 0 + (p : Int) - b.getD i 0) % p = (1 * a.getD i 0 + (-1) * b.getD i 0) % p := by
   rw [show a.getD i 0 + (p : Int) - b.getD i 0 = (1 * a.getD i 0 + (-1) * b.getD i 0) + p by omega, Int.add_emod_right]
  simp only [fp_Sub.l0]
  rw [if_pos (by omega), at_nat, at_nat, Option.bind_some, Option.bind_some, if_neg (by omega), if_pos (by omega), if_pos (by omega), Int.toNat_natCast, succ_wrap (by omega), wrap_id (x := a.getD i 0 + (p : Int)) (by omega) (by omega), wrap_id (by omega) (by omega), Int.tmod_eq_emod_of_nonneg (by omega), e3]
  exact hK j hj
theorem fp_Sub_spec {a b : List Int} (ha : NL p a) (hb : NL p b) (hla : a.length ≤ 1000000) (hlb : b.length ≤ 1000000) : Ev (fun k => fp_Sub.f k p a b) (nf p (P a - P b)) := by
 obtain ⟨l', e1, e2, K, hK⟩ := fp_Sub_loop hp hP a b ha hb (max a.length b.length) (by omega) (max a.length b.length) 0 (List.replicate (max a.length b.length) 0) (by omega) (by rw [List.length_replicate]) (fun j hj => by omega)
 dsimp only at hK
 refine ⟨K, fun k hk => ?_⟩
 simp only [fp_Sub.f]
 rw [mx_nat, if_pos (by omega), Int.toNat_natCast, if_pos (by omega), Option.bind_some, List.length_replicate]
 refine (hK k hk).trans ?_
 rw [lin_nf hp 1 (-1) (full e1 (by omega) (by omega) e2)]
 congr 2
 exact ZX.zr
theorem fp_Scale_loop (a : List Int) (c : Int) (ha : NL p a) (hc : 0 ≤ c ∧ c ≤ 2147483647) (hn : a.length ≤ 1000000) : ∀ (d i : Nat) (l : List Int), i + d = a.length → l.length = a.length → (∀ j, j < i → l.getD j 0 = (c * a.getD j 0 + 0 * a.getD j 0) % p) →
  ∃ l', l'.length = a.length ∧ (∀ j, j < a.length → l'.getD j 0 = (c * a.getD j 0 + 0 * a.getD j 0) % p) ∧ Ev (fun k => fp_Scale.l0 k p c l a (a.length : Int) (i : Int)) (tr l')
 | 0, i, l, hi, hl, h => by
  obtain ⟨K, hK⟩ := fp_Trim_spec l (by omega)
  dsimp only at hK
  refine ⟨l, hl, fun j hj => h j (by omega), K + 1, fun k hk => ?_⟩
  obtain ⟨j, rfl, hj⟩ := ex_succ hk
  simp only [fp_Scale.l0]
  rw [if_neg (by omega), hK j hj]
  rfl
 | d + 1, i, l, hi, hl, h => by
  have h1 := ha.getD hp i
  have h2 := mul_lt_w (a := a.getD i 0) (b := c) (by omega) (by omega) (by omega) (by omega)
  obtain ⟨l', e1, e2, K, hK⟩ := fp_Scale_loop a c ha hc hn d (i + 1) (l.set i ((c * a.getD i 0 + 0 * a.getD i 0) % p)) (by omega) (by rw [List.length_set]; exact hl) (set_step (by omega) h)
  dsimp only at hK
  refine ⟨l', e1, e2, K + 1, fun k hk => ?_⟩
  obtain ⟨j, rfl, hj⟩ := ex_succ hk
  have e3 : a.getD i 0 * c % p = (c * a.getD i 0 + 0 * a.getD i 0) % p := by rw [Int.zero_mul, Int.add_zero, Int.mul_comm]
  simp only [fp_Scale.l0]
  rw [if_pos (by omega), if_pos (by omega), if_pos (by omega), if_neg (by omega), if_pos (by omega), rd_nat, Int.toNat_natCast, succ_wrap (by omega), wrap_id (by omega) (by omega), Int.tmod_eq_emod_of_nonneg (by omega), e3]
  exact hK j hj
theorem fp_Scale_spec {a : List Int} {c : Int} (ha : NL p a) (hc : 0 ≤ c ∧ c ≤ 2147483647) (hla : a.length ≤ 1000000) : Ev (fun k => fp_Scale.f k p a c) (nf p (C c * P a)) := by
 obtain ⟨l', e1, e2, K, hK⟩ := fp_Scale_loop hp hP a c ha hc hla a.length 0 (List.replicate a.length 0) (by omega) (by rw [List.length_replicate]) (fun j hj => by omega)
 dsimp only at hK
 refine ⟨K, fun k hk => ?_⟩
 simp only [fp_Scale.f]
 rw [if_pos (by omega), Int.toNat_natCast, if_pos (by omega)]
 refine (hK k hk).trans ?_
 rw [lin_nf hp c 0 (full e1 (by omega) (by omega) e2)]
 congr 2
 exact ZX.zr
theorem ref_Add_loop (a b : List Int) (ha : NL p a) (hb : NL p b) (n : Nat) (hn : n ≤ 1000000) (hna : a.length ≤ n) (hnb : b.length ≤ n) : ∀ (d i : Nat) (l : List Int), i + d = n → l.length = n → (∀ j, i ≤ j → l.getD j 0 = 0) → (∀ j, j < i → l.getD j 0 = (1 * a.getD j 0 + 1 * b.getD j 0) % p) →
  ∃ l', l'.length = n ∧ (∀ j, j < n → l'.getD j 0 = (1 * a.getD j 0 + 1 * b.getD j 0) % p) ∧ Ev (fun k => r9Add.l0 k p a b l (i : Int)) (tr l')
 | 0, i, l, hi, hl, hz, h => by
  obtain ⟨K, hK⟩ := ref_Trim_spec _ l rfl (by omega)
  dsimp only at hK
  refine ⟨l, hl, fun j hj => h j (by omega), K + 1, fun k hk => ?_⟩
  obtain ⟨j, rfl, hj⟩ := ex_succ hk
  simp only [r9Add.l0]
  rw [if_neg (by omega), hK j hj]
  rfl
 | d + 1, i, l, hi, hl, hz, h => by
  have h1 := ha.getD hp i
  have h2 := hb.getD hp i
  have h0 := hz i (Nat.le_refl _)
  obtain ⟨l', e1, e2, K, hK⟩ := ref_Add_loop a b ha hb n hn hna hnb d (i + 1) (l.set i ((1 * a.getD i 0 + 1 * b.getD i 0) % p)) (by omega) (by rw [List.length_set]; exact hl) (fun j hj => by
   rw [getD_set _ _ _ _ (by omega), if_neg (by omega)]; exact hz j (by omega)) (set_step (by omega) h)
  dsimp only at hK
  refine ⟨l', e1, e2, K + 1, fun k hk => ?_⟩
  obtain ⟨j, rfl, hj⟩ := ex_succ hk
  have hKj := hK j hj
  have hset : ∀ x y : Int, ((l.set i x).set i y) = l.set i y := fun x y => List.set_set x
  have hrd : ∀ x : Int, rd (l.set i x) (i : Int) = x := fun x => by rw [rd_nat, getD_set _ _ _ _ (by omega), if_pos rfl]
  simp only [r9Add.l0]
  rw [if_pos (by omega), rd_nat, h0, succ_wrap (by omega), Int.toNat_natCast]
  simp only [rd_nat l, h0, Int.one_mul] at hKj ⊢
  by_cases ca : i < a.length
  ·rw [if_pos (by omega), if_pos (by omega), Option.bind_some, rd_nat, wrap_id (x := (0 : Int) + a.getD i 0) (by omega) (by omega), Int.zero_add]
   by_cases cb : i < b.length
   ·rw [if_pos (by omega), Option.bind_some, hrd, rd_nat, wrap_id (by omega) (by omega), if_neg (by omega), hset, hrd, hset, Int.tmod_eq_emod_of_nonneg (by omega)]
    exact hKj
   ·rw [getD_of_len (l := b) (by omega), Int.add_zero] at hKj
    rw [if_neg (by omega), if_neg (by omega), hrd, hset, Int.tmod_eq_emod_of_nonneg (by omega)]
    exact hKj
  ·rw [getD_of_len (l := a) (by omega)] at hKj
   rw [if_neg (by omega)]
   by_cases cb : i < b.length
   ·rw [if_pos (by omega), if_pos (by omega), Option.bind_some, rd_nat, wrap_id (x := (0 : Int) + b.getD i 0) (by omega) (by omega), if_neg (by omega), hrd, hset, Int.tmod_eq_emod_of_nonneg (by omega)]
    exact hKj
   ·rw [getD_of_len (l := b) (by omega)] at hKj
    rw [if_neg (by omega), if_pos (by omega), if_neg (by omega)]
    exact hKj
theorem ref_Add_spec {a b : List Int} (ha : NL p a) (hb : NL p b) (hla : a.length ≤ 1000000) (hlb : b.length ≤ 1000000) : Ev (fun k => r9Add.f k p a b) (nf p (P a + P b)) := by
 obtain ⟨l', e1, e2, K, hK⟩ := ref_Add_loop hp hP a b ha hb (max a.length b.length) (by omega) (by omega) (by omega) (max a.length b.length) 0 (List.replicate (max a.length b.length) 0) (by omega) (by rw [List.length_replicate]) (fun j _ => getD_zeros _ _) (fun j hj => by omega)
 dsimp only at hK
 refine ⟨K, fun k hk => ?_⟩
 simp only [r9Add.f]
 rw [mx_nat, if_pos (by omega), Int.toNat_natCast, if_pos (by omega)]
 refine (hK k hk).trans ?_
 rw [lin_nf hp 1 1 (full e1 (by omega) (by omega) e2)]
 congr 2
 exact ZX.zr
theorem ref_Scale_loop (a : List Int) (c : Int) (ha : NL p a) (hc : 0 ≤ c ∧ c < p) (hn : a.length ≤ 1000000) : ∀ (d i : Nat) (l : List Int), i + d = a.length → l.length = a.length → (∀ j, i ≤ j → l.getD j 0 = a.getD j 0) → (∀ j, j < i → l.getD j 0 = (c * a.getD j 0 + 0 * a.getD j 0) % p) →
  ∃ l', l'.length = a.length ∧ (∀ j, j < a.length → l'.getD j 0 = (c * a.getD j 0 + 0 * a.getD j 0) % p) ∧ Ev (fun k => r9Scale.l0 k p c l (i : Int)) (tr l')
 | 0, i, l, hi, hl, hz, h => by
  obtain ⟨K, hK⟩ := ref_Trim_spec _ l rfl (by omega)
  dsimp only at hK
  refine ⟨l, hl, fun j hj => h j (by omega), K + 1, fun k hk => ?_⟩
  obtain ⟨j, rfl, hj⟩ := ex_succ hk
  simp only [r9Scale.l0]
  rw [if_neg (by omega), hK j hj]
  rfl
 | d + 1, i, l, hi, hl, hz, h => by
  have h1 := ha.getD hp i
  have h2 := mul_lt_w (a := a.getD i 0) (b := c) (by omega) (by omega) (by omega) (by omega)
  obtain ⟨l', e1, e2, K, hK⟩ := ref_Scale_loop a c ha hc hn d (i + 1) (l.set i ((c * a.getD i 0 + 0 * a.getD i 0) % p)) (by omega) (by rw [List.length_set]; exact hl) (fun j hj => by
   rw [getD_set _ _ _ _ (by omega), if_neg (by omega)]; exact hz j (by omega)) (set_step (by omega) h)
  dsimp only at hK
  refine ⟨l', e1, e2, K + 1, fun k hk => ?_⟩
  obtain ⟨j, rfl, hj⟩ := ex_succ hk
  have e3 : a.getD i 0 * c % p = (c * a.getD i 0 + 0 * a.getD i 0) % p := by rw [Int.zero_mul, Int.add_zero, Int.mul_comm]
  simp only [r9Scale.l0]
  rw [if_pos (by omega), if_pos (by omega), if_neg (by omega), rd_nat, hz i (Nat.le_refl _), Int.toNat_natCast, succ_wrap (by omega), wrap_id (by omega) (by omega), Int.tmod_eq_emod_of_nonneg (by omega), e3]
  exact hK j hj
theorem ref_Scale_spec {a : List Int} (c : Int) (ha : NL p a) (hla : a.length ≤ 1000000) : Ev (fun k => r9Scale.f k p a c) (nf p (C c * P a)) := by
 have h1 := Int.emod_nonneg c (b := (p : Int)) (by omega)
 have h2 := Int.emod_lt_of_pos c (b := (p : Int)) (by omega)
 obtain ⟨l', e1, e2, K, hK⟩ := ref_Scale_loop hp hP a (c % p) ha ⟨h1, h2⟩ hla a.length 0 a (by omega) rfl (fun j _ => rfl) (fun j hj => by omega)
 dsimp only at hK
 refine ⟨K, fun k hk => ?_⟩
 simp only [r9Scale.f]
 rw [Mod_spec (by omega) (by omega), Option.bind_some, ref_Copy_spec a hla, Option.bind_some]
 refine (hK k hk).trans ?_
 rw [lin_nf hp (c % p) 0 (full e1 (by omega) (by omega) e2)]
 congr 1
 refine nf_cg hp (Cg.trans (Cg.of_eq ZX.zr) ((Cg.num_mod c).symm.mul (Cg.refl (P a))))
theorem ref_Sub_spec {a b : List Int} (ha : NL p a) (hb : NL p b) (hla : a.length ≤ 1000000) (hlb : b.length ≤ 1000000) : Ev (fun k => r9Sub.f k p a b) (nf p (P a - P b)) := by
 have hn := nf_spec hp (C (-1) * P b)
 have hl : (nf p (C (-1) * P b)).length ≤ 1000000 := nf_dg hp ((Dg.of_P hlb).scale _)
 obtain ⟨K, h⟩ := ref_Scale_spec hp hP (-1) hb hlb
 obtain ⟨K2, h2⟩ := ref_Add_spec hp hP ha hn.1 hla hl
 dsimp only at h h2
 refine ⟨K + K2, fun k hk => ?_⟩
 simp only [r9Sub.f]
 rw [h k (by omega), Option.bind_some, h2 k (by omega), Option.bind_some]
 congr 1
 refine nf_cg hp (Cg.trans ((Cg.refl _).add hn.2) (Cg.of_eq ZX.zr))
end
end Go.Proofs.YtillaipaanancaaGreat.Q
end
section
namespace Go.Proofs.YtillaipaanancaaGreat.Q
open Go.RowKit Go.Proofs.YtillaipaanancaaGreatW.PrintWords Go.Proofs.YtillaipaanancaaGreatW.PrintLast Go.Proofs.YtillaipaanancaaGreatW.PrintMore Go.Proofs.YtillaipaanancaaGreat.M Go.Proofs.YtillaipaanancaaGreat.M.ZX
set_option linter.unusedVariables false
set_option linter.unusedSimpArgs false
def res (a : Int) (m : Nat) : Nat := (a % (m : Int)).toNat
theorem res_cast (a : Int) {m : Nat} (hm : 0 < m) : ((res a m : Nat) : Int) = a % (m : Int) := Int.toNat_of_nonneg (Int.emod_nonneg _ (by omega))
theorem res_lt (a : Int) {m : Nat} (hm : 0 < m) : res a m < m := by
 have := res_cast a hm
 have := Int.emod_lt_of_pos a (b := (m : Int)) (by omega)
 omega
theorem mod_nat {a : Int} {m : Nat} (hm : 0 < m) (hM : m ≤ 2147483647) : fp_Mod.f (m : Int) a = some (res a m : Int) := by rw [mod_spec (by omega) (by omega), res_cast a hm]
theorem Mod_nat {a : Int} {m : Nat} (hm : 0 < m) (hM : m ≤ 2147483647) : r4Mod.f a (m : Int) = some (res a m : Int) := by rw [Mod_spec (by omega) (by omega), res_cast a hm]
structure Eu (m a r s : Nat) (x y : Int) : Prop where
 size : ∃ (X Y : Nat), r * Y + s * X = m ∧ ((x = X ∧ y = -(Y : Int)) ∨ (x = -(X : Int) ∧ y = Y))
 hx : (m : Int) ∣ x * a - r
 hy : (m : Int) ∣ y * a - s
 gcd : Nat.gcd r s = Nat.gcd m a
 le : r ≤ m
 les : s ≤ m
theorem Eu.start (m a : Nat) (ha : a ≤ m) : Eu m a m a 0 1 :=
 ⟨⟨0, 1, by simp, Or.inr ⟨by simp, rfl⟩⟩, ⟨-1, by simp⟩, ⟨0, by simp⟩, rfl, Nat.le_refl _, ha⟩
theorem Eu.step {m a r s : Nat} {x y : Int} (h : Eu m a r s x y) (hs : 0 < s) : Eu m a s (r % s) y (x - (r / s : Nat) * y) ∧ (-(m : Int) ≤ x ∧ x ≤ m ∧ -(m : Int) ≤ (r / s : Nat) * y ∧ (r / s : Nat) * y ≤ m ∧ -(m : Int) ≤ x - (r / s : Nat) * y ∧ x - (r / s : Nat) * y ≤ m) := by
 obtain ⟨⟨X, Y, hm, hxy⟩, hx, hy, hg, hle, hles⟩ := h
 have e1 : s * (X + r / s * Y) + r % s * Y = m := by
  have h1 := Nat.div_add_mod r s
  have h2 : r * Y = s * (r / s) * Y + r % s * Y := by rw [← Nat.add_mul, h1]
  rw [Nat.mul_add, ← Nat.mul_assoc]
  omega
 have e2 : X + r / s * Y ≤ m := by
  have : 1 * (X + r / s * Y) ≤ s * (X + r / s * Y) := Nat.mul_le_mul_right _ hs
  omega
 have hdx : (m : Int) ∣ (x - (r / s : Nat) * y) * a - (r % s : Nat) := by
  have h1 : (x - (r / s : Nat) * y) * a - (r % s : Nat) = (x * a - r) - (r / s : Nat) * (y * a - s) := by
   have h2 := Nat.div_add_mod r s
   have h3 : (r : Int) = (s : Int) * (r / s : Nat) + (r % s : Nat) := by rw [← Int.natCast_mul, ← Int.natCast_add, h2]
   rw [Int.sub_mul, Int.mul_sub, Int.mul_assoc, Int.mul_comm (s : Int)] at *
   omega
  rw [h1]
  exact Int.dvd_sub hx (Int.dvd_trans hy ⟨_, Int.mul_comm _ _⟩)
 have hq : ((r / s * Y : Nat) : Int) = (r / s : Nat) * (Y : Int) := Int.natCast_mul _ _
 refine ⟨⟨⟨Y, X + r / s * Y, e1, ?_⟩, hy, hdx, ?_, hles, Nat.le_trans (Nat.le_of_lt (Nat.mod_lt _ hs)) hles⟩, ?_⟩
 ·rcases hxy with ⟨rfl, rfl⟩ | ⟨rfl, rfl⟩
  ·right
   refine ⟨rfl, ?_⟩
   rw [Int.mul_neg, ← hq]
   omega
  ·left
   refine ⟨rfl, ?_⟩
   rw [← hq]
   omega
 ·rw [← hg, Nat.gcd_comm r s, Nat.gcd_rec s r, Nat.gcd_comm]
 ·rcases hxy with ⟨rfl, rfl⟩ | ⟨rfl, rfl⟩
  ·rw [Int.mul_neg, ← hq]
   omega
  ·rw [← hq]
   omega
theorem Eu.done {m a r : Nat} {x y : Int} (hm : 0 < m) (h : Eu m a r 0 x y) (hc : Nat.Coprime m a) : res x m < m ∧ a * res x m % m = 1 % m := by
 refine ⟨res_lt x hm, ?_⟩
 have hr : r = 1 := by
  have := h.gcd
  rw [Nat.gcd_zero_right] at this
  rw [this]
  exact hc
 have h1 := h.hx
 subst hr
 rw [one_mod_iff]
 have h2 : (m : Int) ∣ x - (res x m : Int) := by
  rw [res_cast x hm]
  exact ⟨x / m, by have := Int.mul_ediv_add_emod x m; omega⟩
 have h3 : ((a * res x m : Nat) : Int) - 1 = (x * a - (1 : Nat)) - (x - (res x m : Int)) * a := by
  rw [Int.natCast_mul, Int.sub_mul, Int.mul_comm (a : Int)]
  simp
  omega
 rw [h3]
 exact Int.dvd_sub h1 (Int.dvd_trans h2 ⟨_, rfl⟩)
theorem fp_Inv_loop {m a : Nat} (hm : 0 < m) (hM : m ≤ 2147483647) (hc : Nat.Coprime m a) : ∀ (s r : Nat) (x y : Int), Eu m a r s x y → ∃ v : Nat, v < m ∧ a * v % m = 1 % m ∧ Ev (fun k => fp_Inv.l0 k (m : Int) (r : Int) (s : Int) x y) (v : Int) := by
 intro s
 induction s using Nat.strongRecOn with
 | ind s ih =>
  intro r x y h
  rcases Nat.eq_zero_or_pos s with rfl | hs
  ·obtain ⟨h1, h2⟩ := h.done hm hc
   refine ⟨_, h1, h2, 1, fun k hk => ?_⟩
   obtain ⟨j, rfl, hj⟩ := ex_succ hk
   simp only [fp_Inv.l0]
   rw [if_neg (by omega), mod_nat hm hM]
   rfl
  ·obtain ⟨h1, b⟩ := h.step hs
   obtain ⟨v, hv1, hv2, K, hK⟩ := ih (r % s) (Nat.mod_lt _ hs) s _ _ h1
   dsimp only at hK
   refine ⟨v, hv1, hv2, K + 1, fun k hk => ?_⟩
   obtain ⟨j, rfl, hj⟩ := ex_succ hk
   have hle := h.le
   have hq0 : (0 : Int) ≤ ((r / s : Nat) : Int) := Int.natCast_nonneg _
   have hq : ((r / s : Nat) : Int) ≤ r := Int.ofNat_le.2 (Nat.div_le_self r s)
   have hKj := hK j hj
   have e1 : ((r / s : Nat) : Int) * s = (r : Int) - ((r % s : Nat) : Int) := by
    have h2 := Nat.div_add_mod r s
    have h3 : (s : Int) * (r / s : Nat) + (r % s : Nat) = r := by rw [← Int.natCast_mul, ← Int.natCast_add, h2]
    rw [Int.mul_comm] at h3
    omega
   have hlt := Nat.mod_lt r hs
   simp only [fp_Inv.l0]
   have hlt0 : (0 : Int) ≤ ((r % s : Nat) : Int) := Int.natCast_nonneg _
   have hlt1 : ((r % s : Nat) : Int) ≤ r := Int.ofNat_le.2 (Nat.mod_le r s)
   rw [if_pos (by omega), if_neg (by omega), Int.tdiv_eq_ediv_of_nonneg (by omega : (0 : Int) ≤ r), show (r : Int) / s = ((r / s : Nat) : Int) by simp]
   clear h h1 hK hlt
   generalize ((r / s : Nat) : Int) = q at *
   generalize ((r % s : Nat) : Int) = t at *
   rw [wrap_id (x := q) (by omega) (by omega), e1, wrap_id (x := (r : Int) - t) (by omega) (by omega), show (r : Int) - ((r : Int) - t) = t by omega, wrap_id (x := t) (by omega) (by omega), wrap_id (x := q * y) (by omega) (by omega), wrap_id (by omega) (by omega)]
   exact hKj
theorem Inverse_loop {m a : Nat} (hm : 0 < m) (hM : m ≤ 2147483647) (hc : Nat.Coprime m a) : ∀ (s r : Nat) (x y : Int), Eu m a r s x y → ∃ v : Nat, v < m ∧ a * v % m = 1 % m ∧ Ev (fun k => r4Inverse.l0 k (m : Int) (r : Int) (s : Int) x y) (v : Int) := by
 intro s
 induction s using Nat.strongRecOn with
 | ind s ih =>
  intro r x y h
  rcases Nat.eq_zero_or_pos s with rfl | hs
  ·obtain ⟨h1, h2⟩ := h.done hm hc
   refine ⟨_, h1, h2, 1, fun k hk => ?_⟩
   obtain ⟨j, rfl, hj⟩ := ex_succ hk
   simp only [r4Inverse.l0]
   rw [if_neg (by omega), Mod_nat hm hM]
   rfl
  ·obtain ⟨h1, b⟩ := h.step hs
   obtain ⟨v, hv1, hv2, K, hK⟩ := ih (r % s) (Nat.mod_lt _ hs) s _ _ h1
   dsimp only at hK
   refine ⟨v, hv1, hv2, K + 1, fun k hk => ?_⟩
   obtain ⟨j, rfl, hj⟩ := ex_succ hk
   have hle := h.le
   have hq0 : (0 : Int) ≤ ((r / s : Nat) : Int) := Int.natCast_nonneg _
   have hq : ((r / s : Nat) : Int) ≤ r := Int.ofNat_le.2 (Nat.div_le_self r s)
   have hKj := hK j hj
   have e1 : ((r / s : Nat) : Int) * s = (r : Int) - ((r % s : Nat) : Int) := by
    have h2 := Nat.div_add_mod r s
    have h3 : (s : Int) * (r / s : Nat) + (r % s : Nat) = r := by rw [← Int.natCast_mul, ← Int.natCast_add, h2]
    rw [Int.mul_comm] at h3
    omega
   have hlt := Nat.mod_lt r hs
   simp only [r4Inverse.l0]
   have hlt0 : (0 : Int) ≤ ((r % s : Nat) : Int) := Int.natCast_nonneg _
   have hlt1 : ((r % s : Nat) : Int) ≤ r := Int.ofNat_le.2 (Nat.mod_le r s)
   rw [if_pos (by omega), if_neg (by omega), Int.tdiv_eq_ediv_of_nonneg (by omega : (0 : Int) ≤ r), show (r : Int) / s = ((r / s : Nat) : Int) by simp]
   clear h h1 hK hlt
   generalize ((r / s : Nat) : Int) = q at *
   generalize ((r % s : Nat) : Int) = t at *
   rw [wrap_id (x := q) (by omega) (by omega), e1, wrap_id (x := (r : Int) - t) (by omega) (by omega), show (r : Int) - ((r : Int) - t) = t by omega, wrap_id (x := t) (by omega) (by omega), wrap_id (x := q * y) (by omega) (by omega), wrap_id (by omega) (by omega)]
   exact hKj
theorem prm_gcd {p : Nat} (hp : Prm p) {c : Int} (h0 : 0 < c) (h1 : c < p) : ∃ n : Nat, c = n ∧ Nat.Coprime p n ∧ n ≤ p := by
 obtain ⟨n, rfl⟩ := Int.eq_ofNat_of_zero_le (Int.le_of_lt h0)
 refine ⟨n, rfl, prm_cop hp fun h => ?_, by omega⟩
 have := Nat.le_of_dvd (by omega) h
 omega
theorem inv_dvd {p n v : Nat} (hp : Prm p) (h : n * v % p = 1 % p) : (p : Int) ∣ (v : Int) * n - 1 := by
 have := (one_mod_iff (m := p) (n * v)).1 h
 rwa [Int.natCast_mul, Int.mul_comm] at this
theorem fp_Inv_spec {p : Nat} (hp : Prm p) (hP : p ≤ 65521) {c : Int} (h0 : 0 < c) (h1 : c < p) : ∃ v : Int, 0 ≤ v ∧ v < p ∧ (p : Int) ∣ v * c - 1 ∧ Ev (fun k => fp_Inv.f k p c) v := by
 obtain ⟨n, rfl, hc, hn⟩ := prm_gcd hp h0 h1
 obtain ⟨v, e1, e2, e3⟩ := fp_Inv_loop (prm_pos hp) (by omega) hc n p 0 1 (Eu.start p n hn)
 exact ⟨v, by omega, by omega, inv_dvd hp e2, e3⟩
theorem ref_Inv_spec {p : Nat} (hp : Prm p) (hP : p ≤ 65521) {c : Int} (h0 : 0 < c) (h1 : c < p) : ∃ v : Int, 0 ≤ v ∧ v < p ∧ (p : Int) ∣ v * c - 1 ∧ Ev (fun k => r4Inverse.f k c p) v := by
 obtain ⟨n, rfl, hc, hn⟩ := prm_gcd hp h0 h1
 obtain ⟨v, e1, e2, K, e3⟩ := Inverse_loop (prm_pos hp) (by omega) hc n p 0 1 (Eu.start p n hn)
 dsimp only at e3
 refine ⟨v, by omega, by omega, inv_dvd hp e2, K, fun k hk => ?_⟩
 simp only [r4Inverse.f]
 rw [Mod_spec (by omega) (by omega), Option.bind_some, Int.emod_eq_of_lt (by omega) (by omega), e3 k hk]
section
variable {p : Nat} (hp : 0 < p) (hP : p ≤ 65521)
include hp hP
theorem fp_Mul_inner (a b : List Int) (ha : NL p a) (hb : NL p b) (i : Nat) (hi : i < a.length) (hla : a.length ≤ 1000000) (hlb : b.length ≤ 1000000) (r : List Int)
  (H : ∀ l, l.length + 1 = a.length + b.length → Res p l → Cg p 0 (P l) (P (a.take (i + 1)) * P b) → Ev (fun k => fp_Mul.l0 k p b l a (a.length : Int) ((i + 1 : Nat) : Int)) r) :
  ∀ (d j : Nat) (l : List Int), j + d = b.length → l.length + 1 = a.length + b.length → Res p l → Cg p 0 (P l) (P (a.take i) * P b + X ^ i * (C (a.getD i 0) * P (b.take j))) → Ev (fun k => fp_Mul.l1 k p b l (i : Int) (a.getD i 0) a (a.length : Int) (i : Int) b (b.length : Int) (j : Int)) r
 | 0, j, l, hj, hl, hr, hc => by
  obtain ⟨K, hK⟩ := H l hl hr (mul_next hi (by rwa [show j = b.length by omega] at hc))
  dsimp only at hK
  refine ⟨K + 1, fun k hk => ?_⟩
  obtain ⟨k', rfl, hk'⟩ := ex_succ hk
  simp only [fp_Mul.l1]
  rw [if_neg (by omega), succ_wrap (by omega)]
  exact hK k' hk'
 | d + 1, j, l, hj, hl, hr, hc => by
  have h1 := hr (i + j)
  have h2 := ha.getD hp i
  have h3 := hb.getD hp j
  have h4 := mul_lt_w (a := a.getD i 0) (b := b.getD j 0) (by omega) (by omega) (by omega) (by omega)
  obtain ⟨K, hK⟩ := fp_Mul_inner a b ha hb i hi hla hlb r H d (j + 1) (l.set (i + j) ((l.getD (i + j) 0 + a.getD i 0 * b.getD j 0) % p)) (by omega) (by rw [List.length_set]; exact hl) (hr.set (by omega) (Int.emod_nonneg _ (by omega)) (Int.emod_lt_of_pos _ (by omega))) (mul_step (by omega) (by omega) hc)
  dsimp only at hK
  refine ⟨K + 1, fun k hk => ?_⟩
  obtain ⟨k', rfl, hk'⟩ := ex_succ hk
  have hlt : i + j < l.length := by omega
  have e : wrap64 ((i : Int) + (j : Int)) = ((i + j : Nat) : Int) := by rw [wrap_id (by omega) (by omega)]; omega
  simp only [fp_Mul.l1]
  rw [e, if_pos (by omega), if_pos (by omega), if_pos (by omega), if_pos (Int.natCast_nonneg _), if_pos (Int.ofNat_lt.2 hlt), if_neg (by omega), rd_nat, rd_nat, Int.toNat_natCast, succ_wrap (by omega), wrap_id (x := a.getD i 0 * b.getD j 0) (by omega) (by omega), wrap_id (by omega) (by omega), Int.tmod_eq_emod_of_nonneg (by omega)]
  exact hK k' hk'
theorem fp_Mul_outer (a b : List Int) (ha : NL p a) (hb : NL p b) (hla : a.length ≤ 1000000) (hlb : b.length ≤ 1000000) (hb0 : 0 < b.length) : ∀ (d i : Nat) (l : List Int), i + d = a.length → l.length + 1 = a.length + b.length → l.length ≤ 1000000 → Res p l → Cg p 0 (P l) (P (a.take i) * P b) → Ev (fun k => fp_Mul.l0 k p b l a (a.length : Int) (i : Int)) (nf p (P a * P b))
 | 0, i, l, hi, hl, hll, hr, hc => by
  obtain ⟨K, hK⟩ := fp_Trim_spec l hll
  dsimp only at hK
  refine ⟨K + 1, fun k hk => ?_⟩
  obtain ⟨k', rfl, hk'⟩ := ex_succ hk
  simp only [fp_Mul.l0]
  rw [if_neg (by omega), hK k' hk', Option.bind_some, tr_eq_nf hp (fun j _ => hr j)]
  rwa [show i = a.length by omega, List.take_length] at hc
 | d + 1, i, l, hi, hl, hll, hr, hc => by
  obtain ⟨K, hK⟩ := fp_Mul_inner hp hP a b ha hb i (by omega) hla hlb (nf p (P a * P b)) (fun l' h1 h2 h3 => fp_Mul_outer a b ha hb hla hlb hb0 d (i + 1) l' (by omega) h1 (by omega) h2 h3) b.length 0 l (by omega) hl hr (by
   rw [List.take_zero, P_nil]
   exact hc.trans (Cg.of_eq ZX.zr))
  dsimp only at hK
  refine ⟨K + 1, fun k hk => ?_⟩
  obtain ⟨k', rfl, hk'⟩ := ex_succ hk
  simp only [fp_Mul.l0]
  rw [if_pos (by omega), if_pos (by omega), if_pos (by omega), rd_nat]
  exact hK k' hk'
theorem fp_Mul_spec {a b : List Int} (ha : NL p a) (hb : NL p b) (hla : a.length ≤ 500000) (hlb : b.length ≤ 500000) : Ev (fun k => fp_Mul.f k p a b) (nf p (P a * P b)) := by
 by_cases h0 : a.length = 0 ∨ b.length = 0
 ·have e : nf p (P a * P b) = [] := by
   refine (nf_eq hp NL.nil (Cg.of_eq ?_)).symm
   rcases h0 with h | h
   ·rw [List.eq_nil_of_length_eq_zero h, P_nil]; exact ZX.zr
   ·rw [List.eq_nil_of_length_eq_zero h, P_nil]; exact ZX.zr
  refine ⟨1, fun k hk => ?_⟩
  obtain ⟨k', rfl, _⟩ := ex_succ hk
  simp only [fp_Mul.f, fp_Mul.j0, e]
  by_cases h : a.length = 0
  ·rw [if_pos (by omega), if_pos trivial]
  ·rw [if_neg (by omega), if_pos (by simp; exact List.eq_nil_of_length_eq_zero (h0.resolve_left h))]
 ·obtain ⟨K, hK⟩ := fp_Mul_outer hp hP a b ha hb (by omega) (by omega) (by omega) a.length 0 (List.replicate (a.length + b.length - 1) 0) (by omega) (by rw [List.length_replicate]; omega) (by rw [List.length_replicate]; omega) (Res.zeros hp _) (by
   rw [P_zeros, List.take_zero, P_nil]
   exact Cg.of_eq ZX.zr)
  dsimp only at hK
  refine ⟨K + 1, fun k hk => ?_⟩
  obtain ⟨k', rfl, hk'⟩ := ex_succ hk
  have e : wrap64 (wrap64 ((a.length : Int) + (b.length : Int)) - 1) = ((a.length + b.length - 1 : Nat) : Int) := by
   rw [wrap_id (x := (a.length : Int) + (b.length : Int)) (by omega) (by omega), wrap_id (by omega) (by omega)]; omega
  simp only [fp_Mul.f, fp_Mul.j0]
  rw [if_neg (by omega), if_neg (by simp; intro h; exact h0 (.inr (by rw [h]; rfl))), e, if_pos (by omega), Int.toNat_natCast, if_pos (by omega)]
  exact hK k' hk'
theorem ref_Mul_inner (a b : List Int) (ha : NL p a) (hb : NL p b) (i : Nat) (hi : i < a.length) (hla : a.length ≤ 1000000) (hlb : b.length ≤ 1000000) (r : List Int)
  (H : ∀ l, l.length + 1 = a.length + b.length → Res p l → Cg p 0 (P l) (P (a.take (i + 1)) * P b) → Ev (fun k => r9Mul.l0 k p a b l ((i + 1 : Nat) : Int)) r) :
  ∀ (d j : Nat) (l : List Int), j + d = b.length → l.length + 1 = a.length + b.length → Res p l → Cg p 0 (P l) (P (a.take i) * P b + X ^ i * (C (a.getD i 0) * P (b.take j))) → Ev (fun k => r9Mul.l1 k p a b l (i : Int) (j : Int)) r
 | 0, j, l, hj, hl, hr, hc => by
  obtain ⟨K, hK⟩ := H l hl hr (mul_next hi (by rwa [show j = b.length by omega] at hc))
  dsimp only at hK
  refine ⟨K + 1, fun k hk => ?_⟩
  obtain ⟨k', rfl, hk'⟩ := ex_succ hk
  simp only [r9Mul.l1]
  rw [if_neg (by omega), succ_wrap (by omega)]
  exact hK k' hk'
 | d + 1, j, l, hj, hl, hr, hc => by
  have h1 := hr (i + j)
  have h2 := ha.getD hp i
  have h3 := hb.getD hp j
  have h4 := mul_lt_w (a := a.getD i 0) (b := b.getD j 0) (by omega) (by omega) (by omega) (by omega)
  obtain ⟨K, hK⟩ := ref_Mul_inner a b ha hb i hi hla hlb r H d (j + 1) (l.set (i + j) ((l.getD (i + j) 0 + a.getD i 0 * b.getD j 0) % p)) (by omega) (by rw [List.length_set]; exact hl) (hr.set (by omega) (Int.emod_nonneg _ (by omega)) (Int.emod_lt_of_pos _ (by omega))) (mul_step (by omega) (by omega) hc)
  dsimp only at hK
  refine ⟨K + 1, fun k hk => ?_⟩
  obtain ⟨k', rfl, hk'⟩ := ex_succ hk
  have hlt : i + j < l.length := by omega
  have e : wrap64 ((i : Int) + (j : Int)) = ((i + j : Nat) : Int) := by rw [wrap_id (by omega) (by omega)]; omega
  simp only [r9Mul.l1]
  rw [e, if_pos (by omega), if_pos (Int.natCast_nonneg _), if_pos (Int.ofNat_lt.2 hlt), if_pos (Int.natCast_nonneg _), if_pos (Int.ofNat_lt.2 hi), if_pos (Int.natCast_nonneg _), if_neg (by omega), rd_nat, rd_nat, rd_nat, Int.toNat_natCast, succ_wrap (by omega), wrap_id (x := a.getD i 0 * b.getD j 0) (by omega) (by omega), wrap_id (by omega) (by omega), Int.tmod_eq_emod_of_nonneg (by omega)]
  exact hK k' hk'
theorem ref_Mul_outer (a b : List Int) (ha : NL p a) (hb : NL p b) (hla : a.length ≤ 1000000) (hlb : b.length ≤ 1000000) (hb0 : 0 < b.length) : ∀ (d i : Nat) (l : List Int), i + d = a.length → l.length + 1 = a.length + b.length → l.length ≤ 1000000 → Res p l → Cg p 0 (P l) (P (a.take i) * P b) → Ev (fun k => r9Mul.l0 k p a b l (i : Int)) (nf p (P a * P b))
 | 0, i, l, hi, hl, hll, hr, hc => by
  obtain ⟨K, hK⟩ := ref_Trim_spec _ l rfl hll
  dsimp only at hK
  refine ⟨K + 1, fun k hk => ?_⟩
  obtain ⟨k', rfl, hk'⟩ := ex_succ hk
  simp only [r9Mul.l0]
  rw [if_neg (by omega), hK k' hk', Option.bind_some, tr_eq_nf hp (fun j _ => hr j)]
  rwa [show i = a.length by omega, List.take_length] at hc
 | d + 1, i, l, hi, hl, hll, hr, hc => by
  obtain ⟨K, hK⟩ := ref_Mul_inner hp hP a b ha hb i (by omega) hla hlb (nf p (P a * P b)) (fun l' h1 h2 h3 => ref_Mul_outer a b ha hb hla hlb hb0 d (i + 1) l' (by omega) h1 (by omega) h2 h3) b.length 0 l (by omega) hl hr (by
   rw [List.take_zero, P_nil]
   exact hc.trans (Cg.of_eq ZX.zr))
  dsimp only at hK
  refine ⟨K + 1, fun k hk => ?_⟩
  obtain ⟨k', rfl, hk'⟩ := ex_succ hk
  simp only [r9Mul.l0]
  rw [if_pos (by omega)]
  exact hK k' hk'
theorem ref_Mul_spec {a b : List Int} (ha : NL p a) (hb : NL p b) (hla : a.length ≤ 500000) (hlb : b.length ≤ 500000) : Ev (fun k => r9Mul.f k p a b) (nf p (P a * P b)) := by
 by_cases h0 : a.length = 0 ∨ b.length = 0
 ·have e : nf p (P a * P b) = [] := by
   refine (nf_eq hp NL.nil (Cg.of_eq ?_)).symm
   rcases h0 with h | h
   ·rw [List.eq_nil_of_length_eq_zero h, P_nil]; exact ZX.zr
   ·rw [List.eq_nil_of_length_eq_zero h, P_nil]; exact ZX.zr
  refine ⟨1, fun k hk => ?_⟩
  obtain ⟨k', rfl, _⟩ := ex_succ hk
  simp only [r9Mul.f, r9Mul.j0, e]
  by_cases h : a.length = 0
  ·rw [if_pos (by omega), if_pos trivial]
  ·rw [if_neg (by omega), if_pos (by simp; exact List.eq_nil_of_length_eq_zero (h0.resolve_left h))]
 ·obtain ⟨K, hK⟩ := ref_Mul_outer hp hP a b ha hb (by omega) (by omega) (by omega) a.length 0 (List.replicate (a.length + b.length - 1) 0) (by omega) (by rw [List.length_replicate]; omega) (by rw [List.length_replicate]; omega) (Res.zeros hp _) (by
   rw [P_zeros, List.take_zero, P_nil]
   exact Cg.of_eq ZX.zr)
  dsimp only at hK
  refine ⟨K + 1, fun k hk => ?_⟩
  obtain ⟨k', rfl, hk'⟩ := ex_succ hk
  have e : wrap64 (wrap64 ((a.length : Int) + (b.length : Int)) - 1) = ((a.length + b.length - 1 : Nat) : Int) := by
   rw [wrap_id (x := (a.length : Int) + (b.length : Int)) (by omega) (by omega), wrap_id (by omega) (by omega)]; omega
  simp only [r9Mul.f, r9Mul.j0]
  rw [if_neg (by omega), if_neg (by simp; intro h; exact h0 (.inr (by rw [h]; rfl))), e, if_pos (by omega), Int.toNat_natCast, if_pos (by omega)]
  exact hK k' hk'
end
end Go.Proofs.YtillaipaanancaaGreat.Q
end
section
namespace Go.Proofs.YtillaipaanancaaGreat.Q
open Go.RowKit Go.Proofs.YtillaipaanancaaGreatW.PrintWords Go.Proofs.YtillaipaanancaaGreatW.PrintLast Go.Proofs.YtillaipaanancaaGreatW.PrintMore Go.Proofs.YtillaipaanancaaGreat.M Go.Proofs.YtillaipaanancaaGreat.M.ZX
set_option linter.unusedVariables false
set_option linter.unusedSimpArgs false
section
variable {p : Nat} (hp : Prm p) (hP : p ≤ 65521)
include hp hP
theorem fp_div_inner (a g q r0 : List Int) (hg : NL p g) (h0 : 0 < g.length) (hlg : g.length ≤ 1000000) (hla : r0.length ≤ 1000000) (s : Nat) (c v : Int) (hc0 : 0 ≤ c) (hc1 : c < p) (hs : s + g.length ≤ r0.length) (hc : (p : Int) ∣ r0.getD (s + g.length - 1) 0 - c * g.getD (g.length - 1) 0)
  (H : ∀ r, DivJ p g r0 r s c g.length → ∃ o, DivR p a g o ∧ Ev (fun k => fp_DivMod.l0 k p g r (g.length : Int) q v ((s : Int) - 1)) o) :
  ∀ (d j : Nat) (r : List Int), j + d = g.length → DivJ p g r0 r s c j → ∃ o, DivR p a g o ∧ Ev (fun k => fp_DivMod.l1 k p g r (g.length : Int) q v (s : Int) c g (g.length : Int) (j : Int)) o
 | 0, j, r, hj, h => by
  obtain ⟨o, e1, K, hK⟩ := H r (by rwa [show j = g.length by omega] at h)
  dsimp only at hK
  refine ⟨o, e1, K + 1, fun k hk => ?_⟩
  obtain ⟨k', rfl, hk'⟩ := ex_succ hk
  simp only [fp_DivMod.l1]
  rw [if_neg (by omega), wrap_id (x := (s : Int) - 1) (by omega) (by omega)]
  exact hK k' hk'
 | d + 1, j, r, hj, h => by
  have h1 := h.res (s + j)
  have h3 := hg.getD (prm_pos hp) j
  have h4 := mul_lt_w (a := c) (b := g.getD j 0) (by omega) (by omega) (by omega) (by omega)
  have hlt : s + j < r.length := by rw [h.len]; omega
  obtain ⟨o, e1, K, hK⟩ := fp_div_inner a g q r0 hg h0 hlg hla s c v hc0 hc1 hs hc H d (j + 1) (r.set (s + j) ((r.getD (s + j) 0 - c * g.getD j 0) % p)) (by omega) (h.step (prm_pos hp) (by omega) (by omega) hc)
  dsimp only at hK
  refine ⟨o, e1, K + 1, fun k hk => ?_⟩
  obtain ⟨k', rfl, hk'⟩ := ex_succ hk
  have e : wrap64 ((s : Int) + (j : Int)) = ((s + j : Nat) : Int) := by rw [wrap_id (by omega) (by omega)]; omega
  simp only [fp_DivMod.l1]
  rw [e, if_pos (by omega), if_pos (Int.natCast_nonneg _), if_pos (by omega), if_pos (Int.natCast_nonneg _), if_pos (Int.ofNat_lt.2 hlt), rd_nat, rd_nat, Int.toNat_natCast, succ_wrap (by omega), wrap_id (x := c * g.getD j 0) (by omega) (by omega), wrap_id (by omega) (by omega), mod_spec (by omega) (by omega), Option.bind_some]
  exact hK k' hk'
theorem fp_div_outer (a g : List Int) (hg : NL p g) (h0 : 0 < g.length) (hla : a.length ≤ 500000) (v : Int) (hv0 : 0 ≤ v) (hv1 : v < p) (hv : (p : Int) ∣ v * g.getD (g.length - 1) 0 - 1) (hga : g.length ≤ a.length) :
  ∀ (t : Nat) (q r : List Int), t + g.length ≤ a.length + 1 → DivI p a g q r t → ∃ o, DivR p a g o ∧ Ev (fun k => fp_DivMod.l0 k p g r (g.length : Int) q v ((t : Int) - 1)) o
 | 0, q, r, ht, h => by
  have hlq := h.lenq
  have hlr := h.lenr
  obtain ⟨K, hK⟩ := fp_Trim_spec q (by omega)
  obtain ⟨K2, hK2⟩ := fp_Trim_spec (r.take (g.length - 1)) (by rw [List.length_take]; omega)
  dsimp only at hK hK2
  rw [h.cut h0] at hK2
  refine ⟨_, h.done (prm_pos hp) h0, K + K2 + 1, fun k hk => ?_⟩
  obtain ⟨k', rfl, hk'⟩ := ex_succ hk
  have e : wrap64 ((g.length : Int) - 1) = ((g.length - 1 : Nat) : Int) := by rw [wrap_id (by omega) (by omega)]; omega
  simp only [fp_DivMod.l0]
  rw [if_neg (by omega), hK k' (by omega), Option.bind_some, e, if_pos (Int.natCast_nonneg _), if_pos (by omega), Int.toNat_natCast, hK2 k' (by omega), Option.bind_some]
 | t + 1, q, r, ht, h => by
  have hlq := h.lenq
  have hlr := h.lenr
  have h1 := h.resr (t + g.length - 1)
  have h4 := mul_lt_w (a := r.getD (t + g.length - 1) 0) (b := v) (by omega) (by omega) (by omega) (by omega)
  have hc0 := Int.emod_nonneg (r.getD (t + g.length - 1) 0 * v) (b := (p : Int)) (by omega)
  have hc1 := Int.emod_lt_of_pos (r.getD (t + g.length - 1) 0 * v) (b := (p : Int)) (by omega)
  obtain ⟨o, e1, K, hK⟩ := fp_div_inner hp hP a g (q.set t (r.getD (t + g.length - 1) 0 * v % p)) r hg h0 (by omega) (by omega) t (r.getD (t + g.length - 1) 0 * v % p) v hc0 hc1 (by omega) (top_inv rfl hv)
   (fun r' h' => fp_div_outer a g hg h0 hla v hv0 hv1 hv hga t _ r' (by omega) (h.next (prm_pos hp) h0 (by omega) hc0 hc1 h')) g.length 0 r (by omega) (DivJ.start t _ h0 h.resr)
  dsimp only at hK
  refine ⟨o, e1, K + 1, fun k hk => ?_⟩
  obtain ⟨k', rfl, hk'⟩ := ex_succ hk
  have e2 : ((t + 1 : Nat) : Int) - 1 = (t : Int) := by omega
  have e : wrap64 (wrap64 ((t : Int) + (g.length : Int)) - 1) = ((t + g.length - 1 : Nat) : Int) := by
   rw [wrap_id (x := (t : Int) + (g.length : Int)) (by omega) (by omega), wrap_id (by omega) (by omega)]; omega
  have hlt : t + g.length - 1 < r.length := by omega
  have hlt2 : t < q.length := by omega
  rw [e2]
  simp only [fp_DivMod.l0]
  rw [e, if_pos (by omega), if_pos (Int.natCast_nonneg _), if_pos (Int.ofNat_lt.2 hlt), if_neg (by omega), if_pos (Int.natCast_nonneg _), if_pos (Int.ofNat_lt.2 hlt2), rd_nat, Int.toNat_natCast, wrap_id (x := r.getD (t + g.length - 1) 0 * v) (by omega) (by omega), Int.tmod_eq_emod_of_nonneg (by omega)]
  exact hK k' hk'
theorem fp_DivMod_spec {a g : List Int} (ha : NL p a) (hg : NL p g) (hne : g ≠ []) (hla : a.length ≤ 500000) (hlg : g.length ≤ 500000) : ∃ o, DivR p a g o ∧ Ev (fun k => fp_DivMod.f k p a g) o := by
 have h0 : 0 < g.length := List.length_pos_iff.2 hne
 by_cases hs : a.length < g.length
 ·refine ⟨_, DivR.short ha hs, 0, fun k _ => ?_⟩
  simp only [fp_DivMod.f]
  rw [Option.bind_some, if_pos (by simp; omega), Option.bind_some, List.nil_append, if_pos (by omega)]
 ·obtain ⟨hl0, hl1⟩ := hg.lead hp hne
  obtain ⟨v, hv0, hv1, hv, K, hK⟩ := fp_Inv_spec hp hP hl0 hl1
  obtain ⟨o, e1, K2, hK2⟩ := fp_div_outer hp hP a g hg h0 hla v hv0 hv1 hv (by omega) (a.length - g.length + 1) (List.replicate (a.length - g.length + 1) 0) a (by omega) (DivI.start (prm_pos hp) ha h0 (by omega))
  dsimp only at hK hK2
  refine ⟨o, e1, K + K2, fun k hk => ?_⟩
  have e2 : wrap64 ((a.length : Int) - (g.length : Int)) = ((a.length - g.length + 1 : Nat) : Int) - 1 := by rw [wrap_id (by omega) (by omega)]; omega
  have e3 : wrap64 (wrap64 ((a.length : Int) - (g.length : Int)) + 1) = ((a.length - g.length + 1 : Nat) : Int) := by rw [e2, wrap_id (by omega) (by omega)]; omega
  have e : wrap64 ((g.length : Int) - 1) = ((g.length - 1 : Nat) : Int) := by rw [wrap_id (by omega) (by omega)]; omega
  simp only [fp_DivMod.f]
  rw [Option.bind_some, if_pos (by simp; omega), Option.bind_some, List.nil_append, if_neg (by omega), e3, e2, e, if_pos (Int.natCast_nonneg _), Int.toNat_natCast, if_pos (by omega), if_pos (Int.natCast_nonneg _), if_pos (by omega), rd_nat, hK k (by omega), Option.bind_some]
  exact hK2 k (by omega)
theorem ref_div_inner (a g q r0 : List Int) (hg : NL p g) (h0 : 0 < g.length) (hlg : g.length ≤ 1000000) (hla : r0.length ≤ 1000000) (s : Nat) (c v : Int) (hc0 : 0 ≤ c) (hc1 : c < p) (hs : s + g.length ≤ r0.length) (hc : (p : Int) ∣ r0.getD (s + g.length - 1) 0 - c * g.getD (g.length - 1) 0)
  (H : ∀ r, DivJ p g r0 r s c g.length → ∃ o, DivR p a g o ∧ Ev (fun k => r9DivMod.l0 k p g r ((g.length - 1 : Nat) : Int) q v ((s : Int) - 1)) o) :
  ∀ (d j : Nat) (r : List Int), j + d = g.length → DivJ p g r0 r s c j → ∃ o, DivR p a g o ∧ Ev (fun k => r9DivMod.l1 k p g r ((g.length - 1 : Nat) : Int) q v (s : Int) c (j : Int)) o
 | 0, j, r, hj, h => by
  obtain ⟨o, e1, K, hK⟩ := H r (by rwa [show j = g.length by omega] at h)
  dsimp only at hK
  refine ⟨o, e1, K + 1, fun k hk => ?_⟩
  obtain ⟨k', rfl, hk'⟩ := ex_succ hk
  simp only [r9DivMod.l1]
  rw [if_neg (by omega), wrap_id (x := (s : Int) - 1) (by omega) (by omega)]
  exact hK k' hk'
 | d + 1, j, r, hj, h => by
  have h1 := h.res (s + j)
  have h3 := hg.getD (prm_pos hp) j
  have h4 := mul_lt_w (a := (p : Int) - c) (b := g.getD j 0) (by omega) (by omega) (by omega) (by omega)
  have hlt : s + j < r.length := by rw [h.len]; omega
  have hlt2 : j < g.length := by omega
  obtain ⟨o, e1, K, hK⟩ := ref_div_inner a g q r0 hg h0 hlg hla s c v hc0 hc1 hs hc H d (j + 1) (r.set (s + j) ((r.getD (s + j) 0 - c * g.getD j 0) % p)) (by omega) (h.step (prm_pos hp) (by omega) (by omega) hc)
  dsimp only at hK
  refine ⟨o, e1, K + 1, fun k hk => ?_⟩
  obtain ⟨k', rfl, hk'⟩ := ex_succ hk
  have e3 : (r.getD (s + j) 0 + ((p : Int) - c) * g.getD j 0) % p = (r.getD (s + j) 0 - c * g.getD j 0) % p := by
   rw [show r.getD (s + j) 0 + ((p : Int) - c) * g.getD j 0 = (r.getD (s + j) 0 - c * g.getD j 0) + p * g.getD j 0 by rw [Int.sub_mul]; omega, Int.add_mul_emod_self_left]
  have e : wrap64 ((s : Int) + (j : Int)) = ((s + j : Nat) : Int) := by rw [wrap_id (by omega) (by omega)]; omega
  simp only [r9DivMod.l1]
  rw [e, if_pos (by omega), if_pos (Int.natCast_nonneg _), if_pos (Int.ofNat_lt.2 hlt), if_pos (Int.natCast_nonneg _), if_pos (Int.ofNat_lt.2 hlt2), if_neg (by omega), rd_nat, rd_nat, Int.toNat_natCast, succ_wrap (by omega), wrap_id (x := (p : Int) - c) (by omega) (by omega), wrap_id (x := ((p : Int) - c) * g.getD j 0) (by omega) (by omega), wrap_id (by omega) (by omega), Int.tmod_eq_emod_of_nonneg (by omega), e3]
  exact hK k' hk'
theorem ref_div_outer (a g : List Int) (hg : NL p g) (h0 : 0 < g.length) (hla : a.length ≤ 500000) (v : Int) (hv0 : 0 ≤ v) (hv1 : v < p) (hv : (p : Int) ∣ v * g.getD (g.length - 1) 0 - 1) (hga : g.length ≤ a.length) :
  ∀ (t : Nat) (q r : List Int), t + g.length ≤ a.length + 1 → DivI p a g q r t → ∃ o, DivR p a g o ∧ Ev (fun k => r9DivMod.l0 k p g r ((g.length - 1 : Nat) : Int) q v ((t : Int) - 1)) o
 | 0, q, r, ht, h => by
  have hlq := h.lenq
  have hlr := h.lenr
  obtain ⟨K, hK⟩ := ref_Trim_spec _ q rfl (by omega)
  obtain ⟨K2, hK2⟩ := ref_Trim_spec _ r rfl (by omega)
  dsimp only at hK hK2
  refine ⟨_, h.done (prm_pos hp) h0, K + K2 + 1, fun k hk => ?_⟩
  obtain ⟨k', rfl, hk'⟩ := ex_succ hk
  simp only [r9DivMod.l0]
  rw [if_neg (by omega), hK k' (by omega), Option.bind_some, hK2 k' (by omega), Option.bind_some]
 | t + 1, q, r, ht, h => by
  have hlq := h.lenq
  have hlr := h.lenr
  have h1 := h.resr (t + g.length - 1)
  have h4 := mul_lt_w (a := r.getD (t + g.length - 1) 0) (b := v) (by omega) (by omega) (by omega) (by omega)
  have hc0 := Int.emod_nonneg (r.getD (t + g.length - 1) 0 * v) (b := (p : Int)) (by omega)
  have hc1 := Int.emod_lt_of_pos (r.getD (t + g.length - 1) 0 * v) (b := (p : Int)) (by omega)
  obtain ⟨o, e1, K, hK⟩ := ref_div_inner hp hP a g (q.set t (r.getD (t + g.length - 1) 0 * v % p)) r hg h0 (by omega) (by omega) t (r.getD (t + g.length - 1) 0 * v % p) v hc0 hc1 (by omega) (top_inv rfl hv)
   (fun r' h' => ref_div_outer a g hg h0 hla v hv0 hv1 hv hga t _ r' (by omega) (h.next (prm_pos hp) h0 (by omega) hc0 hc1 h')) g.length 0 r (by omega) (DivJ.start t _ h0 h.resr)
  dsimp only at hK
  refine ⟨o, e1, K + 1, fun k hk => ?_⟩
  obtain ⟨k', rfl, hk'⟩ := ex_succ hk
  have e2 : ((t + 1 : Nat) : Int) - 1 = (t : Int) := by omega
  have e : wrap64 ((t : Int) + ((g.length - 1 : Nat) : Int)) = ((t + g.length - 1 : Nat) : Int) := by
   rw [wrap_id (by omega) (by omega)]; omega
  have hlt : t + g.length - 1 < r.length := by omega
  have hlt2 : t < q.length := by omega
  rw [e2]
  simp only [r9DivMod.l0]
  rw [e, if_pos (by omega), if_pos (Int.natCast_nonneg _), if_pos (Int.ofNat_lt.2 hlt), if_neg (by omega), if_pos (Int.natCast_nonneg _), if_pos (Int.ofNat_lt.2 hlt2), rd_nat, Int.toNat_natCast, wrap_id (x := r.getD (t + g.length - 1) 0 * v) (by omega) (by omega), Int.tmod_eq_emod_of_nonneg (by omega)]
  exact hK k' hk'
theorem ref_DivMod_spec {a g : List Int} (ha : NL p a) (hg : NL p g) (hne : g ≠ []) (hla : a.length ≤ 500000) (hlg : g.length ≤ 500000) : ∃ o, DivR p a g o ∧ Ev (fun k => r9DivMod.f k p a g) o := by
 have h0 : 0 < g.length := List.length_pos_iff.2 hne
 obtain ⟨hl0, hl1⟩ := hg.lead hp hne
 obtain ⟨v, hv0, hv1, hv, K, hK⟩ := ref_Inv_spec hp hP hl0 hl1
 have e : wrap64 ((g.length : Int) - 1) = ((g.length - 1 : Nat) : Int) := by rw [wrap_id (by omega) (by omega)]; omega
 have e2 : mx 0 (wrap64 ((a.length : Int) - ((g.length - 1 : Nat) : Int))) = ((a.length + 1 - g.length : Nat) : Int) := by
  rw [wrap_id (by omega) (by omega)]
  unfold mx
  split <;> omega
 have e4 : wrap64 (((a.length + 1 - g.length : Nat) : Int) - 1) = ((a.length + 1 - g.length : Nat) : Int) - 1 := wrap_id (by omega) (by omega)
 dsimp only at hK
 have key : ∃ o, DivR p a g o ∧ Ev (fun k => r9DivMod.l0 k p g a ((g.length - 1 : Nat) : Int) (List.replicate (a.length + 1 - g.length) 0) v (((a.length + 1 - g.length : Nat) : Int) - 1)) o := by
  by_cases hs : a.length < g.length
  ·have e3 : a.length + 1 - g.length = 0 := by omega
   obtain ⟨K2, hK2⟩ := ref_Trim_spec _ a rfl (by omega)
   obtain ⟨K3, hK3⟩ := ref_Trim_spec _ [] rfl (by simp)
   dsimp only at hK2 hK3
   refine ⟨_, DivR.short ha hs, K2 + K3 + 1, fun k hk => ?_⟩
   obtain ⟨k', rfl, hk'⟩ := ex_succ hk
   simp only [e3, r9DivMod.l0, List.replicate_zero]
   rw [if_neg (by omega), hK3 k' (by omega), Option.bind_some, hK2 k' (by omega), Option.bind_some, tr_of_nz ha.2]
   rfl
  ·have e3 : a.length + 1 - g.length = a.length - g.length + 1 := by omega
   rw [e3]
   exact ref_div_outer hp hP a g hg h0 hla v hv0 hv1 hv (by omega) _ _ a (by omega) (DivI.start (prm_pos hp) ha h0 (by omega))
 obtain ⟨o, e1, K2, hK2⟩ := key
 dsimp only at hK2
 refine ⟨o, e1, K + K2, fun k hk => ?_⟩
 simp only [r9DivMod.f]
 rw [ref_Copy_spec a (by omega), Option.bind_some, e, e2, if_pos (Int.natCast_nonneg _), Int.toNat_natCast, if_pos (by omega), Option.bind_some, if_pos (Int.natCast_nonneg _), if_pos (by omega), rd_nat, hK k (by omega), Option.bind_some, List.length_replicate, e4]
 exact hK2 k (by omega)
theorem fp_Rem_spec {a g : List Int} (ha : NL p a) (hg : NL p g) (hne : g ≠ []) (hla : a.length ≤ 500000) (hlg : g.length ≤ 500000) : Ev (fun k => fp_Rem.f k p a g) (rm p g (P a)) := by
 obtain ⟨o, h1, K, hK⟩ := fp_DivMod_spec hp hP ha hg hne hla hlg
 dsimp only at hK
 refine ⟨K, fun k hk => ?_⟩
 simp only [fp_Rem.f]
 rw [hK k hk, Option.bind_some, h1.rm hp hg]
theorem ref_Mod_spec {a g : List Int} (ha : NL p a) (hg : NL p g) (hne : g ≠ []) (hla : a.length ≤ 500000) (hlg : g.length ≤ 500000) : Ev (fun k => r9Mod.f k p a g) (rm p g (P a)) := by
 obtain ⟨o, h1, K, hK⟩ := ref_DivMod_spec hp hP ha hg hne hla hlg
 dsimp only at hK
 refine ⟨K, fun k hk => ?_⟩
 simp only [r9Mod.f]
 rw [hK k hk, Option.bind_some, h1.rm hp hg]
theorem fp_MulMod_spec {a b g : List Int} (ha : NL p a) (hb : NL p b) (hg : NL p g) (hne : g ≠ []) (hla : a.length ≤ 100000) (hlb : b.length ≤ 100000) (hlg : g.length ≤ 100000) : Ev (fun k => fp_MulMod.f k p a b g) (rm p g (P a * P b)) := by
 have hn := nf_spec (prm_pos hp) (P a * P b)
 obtain ⟨K, hK⟩ := fp_Mul_spec (prm_pos hp) hP ha hb (by omega) (by omega)
 obtain ⟨K2, hK2⟩ := fp_Rem_spec hp hP hn.1 hg hne (nf_dg (prm_pos hp) (((Dg.of_P hla).mul (Dg.of_P hlb)).mono (by omega))) (by omega)
 dsimp only at hK hK2
 refine ⟨K + K2, fun k hk => ?_⟩
 simp only [fp_MulMod.f]
 rw [hK k (by omega), Option.bind_some, hK2 k (by omega), Option.bind_some, rm_cg hp hg hne hn.2.mono]
theorem ref_MulMod_spec {a b g : List Int} (ha : NL p a) (hb : NL p b) (hg : NL p g) (hne : g ≠ []) (hla : a.length ≤ 100000) (hlb : b.length ≤ 100000) (hlg : g.length ≤ 100000) : Ev (fun k => r9MulMod.f k p a b g) (rm p g (P a * P b)) := by
 have hn := nf_spec (prm_pos hp) (P a * P b)
 obtain ⟨K, hK⟩ := ref_Mul_spec (prm_pos hp) hP ha hb (by omega) (by omega)
 obtain ⟨K2, hK2⟩ := ref_Mod_spec hp hP hn.1 hg hne (nf_dg (prm_pos hp) (((Dg.of_P hla).mul (Dg.of_P hlb)).mono (by omega))) (by omega)
 dsimp only at hK hK2
 refine ⟨K + K2, fun k hk => ?_⟩
 simp only [r9MulMod.f]
 rw [hK k (by omega), Option.bind_some, hK2 k (by omega), Option.bind_some, rm_cg hp hg hne hn.2.mono]
end
end Go.Proofs.YtillaipaanancaaGreat.Q
end
section
namespace Go.Proofs.YtillaipaanancaaGreat.Q
open Go.RowKit Go.Proofs.YtillaipaanancaaGreatW.PrintWords Go.Proofs.YtillaipaanancaaGreatW.PrintLast Go.Proofs.YtillaipaanancaaGreatW.PrintMore Go.Proofs.YtillaipaanancaaGreat.M Go.Proofs.YtillaipaanancaaGreat.M.ZX
set_option linter.unusedVariables false
set_option linter.unusedSimpArgs false
def V (e : ByteArray) : Nat → Nat
 | 0 => 0
 | i + 1 => V e i * 256 + (bt e i).toNat
theorem and_one8 {x : Int} (h0 : 0 ≤ x) (h1 : x ≤ 255) : Go.bits .and .u8 x 1 = x % 2 := by
 have := bits_mask .u8 8 (by decide) (fun n h0 h1 => by unfold IntKind.wrap; simp [IntKind.bits, IntKind.signed]; omega) 1 (by decide) x h0 (by omega)
 simpa using this
theorem shr_small8 (x : Int) {t : Nat} (ht : t ≤ 8) : shr .u8 x (t : Int) = x / 2 ^ t := by
 unfold shr
 rw [Int.toNat_natCast, Nat.min_eq_left (by simpa [IntKind.bits] using ht)]
theorem bit_step (v b t : Nat) (ht : t ≤ 7) : (v * 256 + b) / 2 ^ t = 2 * ((v * 256 + b) / 2 ^ (t + 1)) + b / 2 ^ t % 2 := by
 have : t = 0 ∨ t = 1 ∨ t = 2 ∨ t = 3 ∨ t = 4 ∨ t = 5 ∨ t = 6 ∨ t = 7 := by omega
 rcases this with rfl | rfl | rfl | rfl | rfl | rfl | rfl | rfl <;> simp only [Nat.reducePow, Nat.reduceAdd, Nat.pow_zero, Nat.div_one] <;> omega
section
variable {p : Nat} (hp : Prm p) (hP : p ≤ 65521)
include hp hP
theorem rm_len {g : List Int} (hg : NL p g) (hne : g ≠ []) (a : ZX) (h : g.length ≤ 100000) : (rm p g a).length ≤ 100000 := by
 have _ := hP
 have := (rm_spec hp hg hne a).2.1; omega
theorem rm_mul {g : List Int} (hg : NL p g) (hne : g ≠ []) (a b : ZX) : rm p g (P (rm p g a) * P (rm p g b)) = rm p g (a * b) := have _ := hP;
 rm_cg hp hg hne ((rm_spec hp hg hne a).2.2.mul (rm_spec hp hg hne b).2.2)
theorem fp_pow_inner {g : List Int} (hg : NL p g) (hne : g ≠ []) (hlg : g.length ≤ 100000) (e : ByteArray) (y : ZX) (i : Nat) (hi : i < e.size) (hs : e.size ≤ 1000000) (r : List Int)
  (H : Ev (fun k => fp_PowMod.l0 k p e g (rm p g (y ^ V e (i + 1))) (rm p g y) (e.size : Int) ((i + 1 : Nat) : Int)) r) :
  ∀ t : Nat, t ≤ 8 → Ev (fun k => fp_PowMod.l1 k p e g (rm p g (y ^ ((V e i * 256 + (bt e i).toNat) / 2 ^ t))) (rm p g y) (i : Int) ((t : Int) - 1) (e.size : Int) (i : Int)) r
 | 0, _ => by
  obtain ⟨K, hK⟩ := H
  dsimp only at hK
  refine ⟨K + 1, fun k hk => ?_⟩
  obtain ⟨k', rfl, hk'⟩ := ex_succ hk
  simp only [fp_PowMod.l1]
  rw [if_neg (by omega), succ_wrap (by omega), Nat.pow_zero, Nat.div_one]
  exact hK k' hk'
 | t + 1, ht => by
  obtain ⟨K, hK⟩ := fp_pow_inner hg hne hlg e y i hi hs r H t (by omega)
  have s1 := fun a => (rm_spec hp hg hne a).1
  have l1 := fun a => rm_len hp hP hg hne a hlg
  have hb := bt_range e i
  have hbt : bt e i = ((bt e i).toNat : Int) := by omega
  obtain ⟨K2, h2⟩ := fp_MulMod_spec hp hP (s1 (y ^ ((V e i * 256 + (bt e i).toNat) / 2 ^ (t + 1)))) (s1 (y ^ ((V e i * 256 + (bt e i).toNat) / 2 ^ (t + 1)))) hg hne (l1 _) (l1 _) hlg
  rw [rm_mul hp hP hg hne, ← ZX.pow_add] at h2
  obtain ⟨K3, h3⟩ := fp_MulMod_spec hp hP (s1 (y ^ ((V e i * 256 + (bt e i).toNat) / 2 ^ (t + 1) + (V e i * 256 + (bt e i).toNat) / 2 ^ (t + 1)))) (s1 y) hg hne (l1 _) (l1 _) hlg
  rw [rm_mul hp hP hg hne, ← ZX.pow_succ] at h3
  dsimp only at hK h2 h3
  refine ⟨K + K2 + K3 + 1, fun k hk => ?_⟩
  obtain ⟨k', rfl, hk'⟩ := ex_succ hk
  have e2 : ((t + 1 : Nat) : Int) - 1 = (t : Int) := by omega
  have hst := bit_step (V e i) (bt e i).toNat t (by omega)
  have hq : bt e i / 2 ^ t % 2 = (((bt e i).toNat / 2 ^ t % 2 : Nat) : Int) := by rw [hbt]; simp
  have hq0 : 0 ≤ bt e i / 2 ^ t := Int.ediv_nonneg hb.1 (by exact_mod_cast Nat.zero_le (2 ^ t))
  have hq1 : bt e i / 2 ^ t ≤ 255 := Int.le_trans (Int.ediv_le_self _ hb.1) hb.2
  have hKk := hK k' (by omega)
  rw [e2]
  simp only [fp_PowMod.l1]
  rw [if_pos (by omega), h2 k' (by omega), Option.bind_some, if_pos (Int.natCast_nonneg _), if_pos (by omega), if_pos (Int.natCast_nonneg _), shr_small8 _ (by omega), and_one8 hq0 hq1, hq, wrap_id (x := (t : Int) - 1) (by omega) (by omega)]
  by_cases hbit : (bt e i).toNat / 2 ^ t % 2 = 1
  ·rw [if_pos (by omega), h3 k' (by omega), Option.bind_some]
   rw [hst, hbit, Nat.two_mul] at hKk
   exact hKk
  ·rw [if_neg (by omega)]
   rw [hst, show (bt e i).toNat / 2 ^ t % 2 = 0 by omega, Nat.two_mul, Nat.add_zero] at hKk
   exact hKk
theorem fp_pow_outer {g : List Int} (hg : NL p g) (hne : g ≠ []) (hlg : g.length ≤ 100000) (e : ByteArray) (y : ZX) (hs : e.size ≤ 1000000) :
  ∀ (d i : Nat), i + d = e.size → Ev (fun k => fp_PowMod.l0 k p e g (rm p g (y ^ V e i)) (rm p g y) (e.size : Int) (i : Int)) (rm p g (y ^ V e e.size))
 | 0, i, hi => by
  refine ⟨1, fun k hk => ?_⟩
  obtain ⟨k', rfl, hk'⟩ := ex_succ hk
  simp only [fp_PowMod.l0]
  rw [if_neg (by omega), show i = e.size by omega]
 | d + 1, i, hi => by
  obtain ⟨K, hK⟩ := fp_pow_inner hp hP hg hne hlg e y i (by omega) hs _ (fp_pow_outer hg hne hlg e y hs d (i + 1) (by omega)) 8 (Nat.le_refl _)
  dsimp only at hK
  refine ⟨K + 1, fun k hk => ?_⟩
  obtain ⟨k', rfl, hk'⟩ := ex_succ hk
  have hb := bt_range e i
  have e3 : (V e i * 256 + (bt e i).toNat) / 2 ^ 8 = V e i := by rw [show (2 : Nat) ^ 8 = 256 from rfl]; omega
  have := hK k' hk'
  rw [e3] at this
  simp only [fp_PowMod.l0]
  rw [if_pos (by omega)]
  exact this
theorem fp_PowMod_spec {a g : List Int} (e : ByteArray) (ha : NL p a) (hg : NL p g) (hne : g ≠ []) (hla : a.length ≤ 100000) (hlg : g.length ≤ 100000) (hs : e.size ≤ 1000000) : Ev (fun k => fp_PowMod.f k p a e g) (rm p g (P a ^ V e e.size)) := by
 obtain ⟨K, hK⟩ := fp_Rem_spec hp hP (NL.one hp.1) hg hne (by simp) (by omega)
 obtain ⟨K2, hK2⟩ := fp_Rem_spec hp hP ha hg hne (by omega) (by omega)
 obtain ⟨K3, hK3⟩ := fp_pow_outer hp hP hg hne hlg e (P a) hs e.size 0 (by omega)
 dsimp only at hK hK2 hK3
 rw [P_one, ← ZX.pow_zero (P a)] at hK
 refine ⟨K + K2 + K3, fun k hk => ?_⟩
 simp only [fp_PowMod.f]
 rw [hK k (by omega), Option.bind_some, hK2 k (by omega), Option.bind_some]
 exact hK3 k (by omega)
theorem ref_pow_inner {g : List Int} (hg : NL p g) (hne : g ≠ []) (hlg : g.length ≤ 100000) (e : ByteArray) (y : ZX) (i : Nat) (hi : i < e.size) (hs : e.size ≤ 1000000) (r : List Int)
  (H : Ev (fun k => r9PowMod.l0 k p (rm p g y) e g (rm p g (y ^ V e (i + 1))) ((i + 1 : Nat) : Int)) r) :
  ∀ t : Nat, t ≤ 8 → Ev (fun k => r9PowMod.l1 k p (rm p g y) e g (rm p g (y ^ ((V e i * 256 + (bt e i).toNat) / 2 ^ t))) (i : Int) ((t : Int) - 1)) r
 | 0, _ => by
  obtain ⟨K, hK⟩ := H
  dsimp only at hK
  refine ⟨K + 1, fun k hk => ?_⟩
  obtain ⟨k', rfl, hk'⟩ := ex_succ hk
  simp only [r9PowMod.l1]
  rw [if_neg (by omega), succ_wrap (by omega), Nat.pow_zero, Nat.div_one]
  exact hK k' hk'
 | t + 1, ht => by
  obtain ⟨K, hK⟩ := ref_pow_inner hg hne hlg e y i hi hs r H t (by omega)
  have s1 := fun a => (rm_spec hp hg hne a).1
  have l1 := fun a => rm_len hp hP hg hne a hlg
  have hb := bt_range e i
  have hbt : bt e i = ((bt e i).toNat : Int) := by omega
  obtain ⟨K2, h2⟩ := ref_MulMod_spec hp hP (s1 (y ^ ((V e i * 256 + (bt e i).toNat) / 2 ^ (t + 1)))) (s1 (y ^ ((V e i * 256 + (bt e i).toNat) / 2 ^ (t + 1)))) hg hne (l1 _) (l1 _) hlg
  rw [rm_mul hp hP hg hne, ← ZX.pow_add] at h2
  obtain ⟨K3, h3⟩ := ref_MulMod_spec hp hP (s1 (y ^ ((V e i * 256 + (bt e i).toNat) / 2 ^ (t + 1) + (V e i * 256 + (bt e i).toNat) / 2 ^ (t + 1)))) (s1 y) hg hne (l1 _) (l1 _) hlg
  rw [rm_mul hp hP hg hne, ← ZX.pow_succ] at h3
  dsimp only at hK h2 h3
  refine ⟨K + K2 + K3 + 1, fun k hk => ?_⟩
  obtain ⟨k', rfl, hk'⟩ := ex_succ hk
  have e2 : ((t + 1 : Nat) : Int) - 1 = (t : Int) := by omega
  have hst := bit_step (V e i) (bt e i).toNat t (by omega)
  have hq : bt e i / 2 ^ t % 2 = (((bt e i).toNat / 2 ^ t % 2 : Nat) : Int) := by rw [hbt]; simp
  have hq0 : 0 ≤ bt e i / 2 ^ t := Int.ediv_nonneg hb.1 (by exact_mod_cast Nat.zero_le (2 ^ t))
  have hKk := hK k' (by omega)
  rw [e2]
  simp only [r9PowMod.l1]
  rw [if_pos (by omega), h2 k' (by omega), Option.bind_some, if_pos (Int.natCast_nonneg _), if_pos (by omega), if_pos (Int.natCast_nonneg _), shr_small8 _ (by omega), Int.tmod_eq_emod_of_nonneg hq0, hq, wrap_id (x := (t : Int) - 1) (by omega) (by omega)]
  by_cases hbit : (bt e i).toNat / 2 ^ t % 2 = 1
  ·rw [if_pos (by omega), h3 k' (by omega), Option.bind_some]
   rw [hst, hbit, Nat.two_mul] at hKk
   exact hKk
  ·rw [if_neg (by omega)]
   rw [hst, show (bt e i).toNat / 2 ^ t % 2 = 0 by omega, Nat.two_mul, Nat.add_zero] at hKk
   exact hKk
theorem ref_pow_outer {g : List Int} (hg : NL p g) (hne : g ≠ []) (hlg : g.length ≤ 100000) (e : ByteArray) (y : ZX) (hs : e.size ≤ 1000000) :
  ∀ (d i : Nat), i + d = e.size → Ev (fun k => r9PowMod.l0 k p (rm p g y) e g (rm p g (y ^ V e i)) (i : Int)) (rm p g (y ^ V e e.size))
 | 0, i, hi => by
  refine ⟨1, fun k hk => ?_⟩
  obtain ⟨k', rfl, hk'⟩ := ex_succ hk
  simp only [r9PowMod.l0]
  rw [if_neg (by omega), show i = e.size by omega]
 | d + 1, i, hi => by
  obtain ⟨K, hK⟩ := ref_pow_inner hp hP hg hne hlg e y i (by omega) hs _ (ref_pow_outer hg hne hlg e y hs d (i + 1) (by omega)) 8 (Nat.le_refl _)
  dsimp only at hK
  refine ⟨K + 1, fun k hk => ?_⟩
  obtain ⟨k', rfl, hk'⟩ := ex_succ hk
  have hb := bt_range e i
  have e3 : (V e i * 256 + (bt e i).toNat) / 2 ^ 8 = V e i := by rw [show (2 : Nat) ^ 8 = 256 from rfl]; omega
  have := hK k' hk'
  rw [e3] at this
  simp only [r9PowMod.l0]
  rw [if_pos (by omega)]
  exact this
theorem ref_PowMod_spec {a g : List Int} (e : ByteArray) (ha : NL p a) (hg : NL p g) (hne : g ≠ []) (hla : a.length ≤ 100000) (hlg : g.length ≤ 100000) (hs : e.size ≤ 1000000) : Ev (fun k => r9PowMod.f k p a e g) (rm p g (P a ^ V e e.size)) := by
 obtain ⟨K, hK⟩ := ref_Mod_spec hp hP (NL.one hp.1) hg hne (by simp) (by omega)
 obtain ⟨K2, hK2⟩ := ref_Mod_spec hp hP ha hg hne (by omega) (by omega)
 obtain ⟨K3, hK3⟩ := ref_pow_outer hp hP hg hne hlg e (P a) hs e.size 0 (by omega)
 dsimp only at hK hK2 hK3
 rw [P_one, ← ZX.pow_zero (P a)] at hK
 refine ⟨K + K2 + K3, fun k hk => ?_⟩
 simp only [r9PowMod.f]
 rw [hK k (by omega), Option.bind_some, hK2 k (by omega), Option.bind_some]
 exact hK3 k (by omega)
end
end Go.Proofs.YtillaipaanancaaGreat.Q
end
section
namespace Go.Proofs.YtillaipaanancaaGreat.Q
open Go.RowKit Go.Proofs.YtillaipaanancaaGreatW.PrintWords Go.Proofs.YtillaipaanancaaGreatW.PrintLast Go.Proofs.YtillaipaanancaaGreatW.PrintMore Go.Proofs.YtillaipaanancaaGreat.M Go.Proofs.YtillaipaanancaaGreat.M.ZX
set_option linter.unusedVariables false
set_option linter.unusedSimpArgs false
theorem u8_num {a : Int} (h0 : 0 ≤ a) (h1 : a ≤ 255) : ((UInt8.ofNat a.toNat).toNat : Int) = a := by
 rw [UInt8.toNat_ofNat']
 omega
theorem bt_hd {a : Int} {l : List Int} (ha : 0 ≤ a ∧ a ≤ 255) : bt (strOfNums (a :: l)) 0 = a := by
 unfold bt
 rw [dif_pos (by rw [strOfNums_size]; simp)]
 exact u8_num ha.1 ha.2
theorem V_two {a b : Int} (ha : 0 ≤ a ∧ a ≤ 255) (hb : 0 ≤ b ∧ b ≤ 255) : V (strOfNums [a, b]) (strOfNums [a, b]).size = a.toNat * 256 + b.toNat := by
 have h0 : bt (strOfNums [a, b]) ((0 : Nat) : Int) = a := by
  unfold bt
  rw [dif_pos (by rw [strOfNums_size]; simp)]
  exact u8_num ha.1 ha.2
 have h1 : bt (strOfNums [a, b]) ((1 : Nat) : Int) = b := by
  unfold bt
  rw [dif_pos (by rw [strOfNums_size]; simp)]
  exact u8_num hb.1 hb.2
 rw [strOfNums_size]
 show ((0 * 256 + (bt (strOfNums [a, b]) ((0 : Nat) : Int)).toNat) * 256 + (bt (strOfNums [a, b]) ((1 : Nat) : Int)).toNat) = _
 rw [h0, h1]
 omega
theorem V_one {a : Int} (ha : 0 ≤ a ∧ a ≤ 255) : V (strOfNums [a]) (strOfNums [a]).size = a.toNat := by
 have h0 : bt (strOfNums [a]) ((0 : Nat) : Int) = a := by
  unfold bt
  rw [dif_pos (by rw [strOfNums_size]; simp)]
  exact u8_num ha.1 ha.2
 rw [strOfNums_size]
 show 0 * 256 + (bt (strOfNums [a]) ((0 : Nat) : Int)).toNat = _
 rw [h0]
 omega
theorem pack_zero {ws : List Int} {i s : Int} {r : ByteArray} (hs0 : 0 ≤ s) (hs : s ≤ 24) (hi0 : 0 ≤ i) (hi : i < ws.length) (hz : shr .u64 (rd ws i) s % 256 = 0) (H : Ev (fun k => r1pack.l1 k ws [] i (s - 8)) r) : Ev (fun k => r1pack.l1 k ws [] i s) r := by
 obtain ⟨K, hK⟩ := H
 dsimp only at hK
 refine ⟨K + 1, fun k hk => ?_⟩
 obtain ⟨k', rfl, hk'⟩ := ex_succ hk
 simp only [r1pack.l1]
 rw [if_pos (by omega), if_pos hi0, if_pos hi, if_pos hs0, if_neg (by simp), hz, if_neg (by omega), wrap_id (by omega) (by omega)]
 exact hK k' hk'
theorem pack_put {ws xs : List Int} {i s : Int} {r : ByteArray} (hs0 : 0 ≤ s) (hs : s ≤ 24) (hi0 : 0 ≤ i) (hi : i < ws.length) (hx : xs.length ≤ 4) (h : xs ≠ [] ∨ 0 < shr .u64 (rd ws i) s % 256) (H : Ev (fun k => r1pack.l1 k ws (xs ++ [shr .u64 (rd ws i) s % 256]) i (s - 8)) r) : Ev (fun k => r1pack.l1 k ws xs i s) r := by
 obtain ⟨K, hK⟩ := H
 dsimp only at hK
 refine ⟨K + 1, fun k hk => ?_⟩
 obtain ⟨k', rfl, hk'⟩ := ex_succ hk
 simp only [r1pack.l1]
 rw [if_pos (by omega), if_pos hi0, if_pos hi, if_pos hs0, wrap_id (x := s - 8) (by omega) (by omega)]
 by_cases hx0 : (xs.length : Int) > 0
 ·rw [if_pos hx0, if_pos (by omega)]
  exact hK k' hk'
 ·have : xs = [] := List.eq_nil_of_length_eq_zero (by omega)
  rcases h with h | h
  ·exact absurd this h
  ·rw [if_neg hx0, if_pos h, if_pos (by omega)]
   exact hK k' hk'
theorem pack_end {ws xs : List Int} {i s : Int} {r : ByteArray} (hs : s < 0) (hi0 : 0 ≤ i) (hi : i ≤ 100) (H : Ev (fun k => r1pack.l0 k ws xs (i - 1)) r) : Ev (fun k => r1pack.l1 k ws xs i s) r := by
 obtain ⟨K, hK⟩ := H
 dsimp only at hK
 refine ⟨K + 1, fun k hk => ?_⟩
 obtain ⟨k', rfl, hk'⟩ := ex_succ hk
 simp only [r1pack.l1]
 rw [if_neg (by omega), wrap_id (by omega) (by omega)]
 exact hK k' hk'
theorem pack_next {ws xs : List Int} {i : Int} {r : ByteArray} (hi0 : 0 ≤ i) (H : Ev (fun k => r1pack.l1 k ws xs i 24) r) : Ev (fun k => r1pack.l0 k ws xs i) r := by
 obtain ⟨K, hK⟩ := H
 dsimp only at hK
 refine ⟨K + 1, fun k hk => ?_⟩
 obtain ⟨k', rfl, hk'⟩ := ex_succ hk
 simp only [r1pack.l0]
 rw [if_pos (by omega)]
 exact hK k' hk'
theorem pack_done {ws xs : List Int} : Ev (fun k => r1pack.l0 k ws xs (-1)) (strOfNums xs) := by
 refine ⟨1, fun k hk => ?_⟩
 obtain ⟨k', rfl, hk'⟩ := ex_succ hk
 simp only [r1pack.l0]
 rw [if_neg (by omega)]
theorem FromInt_bt {p : Nat} (h2 : 1 ≤ p) (hP : p ≤ 65521) : ∃ e : ByteArray, (e.size ≤ 2 ∧ bt e 0 ≠ 0) ∧ V e e.size = p ∧ Ev (fun k => r1FromInt.f k p) e := by
 have hw : IntKind.u64.wrap (p : Int) = p := by unfold IntKind.wrap; simp [IntKind.bits, IntKind.signed]; omega
 have hm : Go.bits .and .u64 (p : Int) 4294967295 = p := by
  have := bits_mask .u64 64 (by decide) (fun n h0 h1 => by unfold IntKind.wrap; simp [IntKind.bits, IntKind.signed]; omega) 32 (by decide) (p : Int) (by omega) (by omega)
  have h4 : Go.bits .and .u64 (p : Int) 4294967295 = (p : Int) % 4294967296 := by simpa using this
  rw [h4]; omega
 have hd : (p : Int) / 4294967296 = 0 := by omega
 have hs : ∀ x : Int, ∀ s : Nat, s ≤ 24 → shr .u64 x (s : Int) = x / 2 ^ s := by
  intro x s h
  unfold shr
  rw [Int.toNat_natCast, Nat.min_eq_left (by simp [IntKind.bits]; omega)]
 have r1 : rd [(p : Int), 0] 1 = 0 := rfl
 have r0 : rd [(p : Int), 0] 0 = p := rfl
 have z : ∀ s : Nat, s ≤ 24 → shr .u64 (rd [(p : Int), 0] 1) (s : Int) % 256 = 0 := by
  intro s h
  rw [hs _ _ h, r1, Int.zero_ediv]; rfl
 have p24 : shr .u64 (rd [(p : Int), 0] 0) 24 % 256 = 0 := by
  have := hs p 24 (by omega); rw [r0]; rw [show ((24 : Nat) : Int) = 24 from rfl] at this; rw [this, show (2 : Int) ^ 24 = 16777216 from rfl]; omega
 have p16 : shr .u64 (rd [(p : Int), 0] 0) 16 % 256 = 0 := by
  have := hs p 16 (by omega); rw [r0]; rw [show ((16 : Nat) : Int) = 16 from rfl] at this; rw [this, show (2 : Int) ^ 16 = 65536 from rfl]; omega
 have p8 : shr .u64 (rd [(p : Int), 0] 0) 8 % 256 = p / 256 := by
  have := hs p 8 (by omega); rw [r0]; rw [show ((8 : Nat) : Int) = 8 from rfl] at this; rw [this, show (2 : Int) ^ 8 = 256 from rfl]; omega
 have p0 : shr .u64 (rd [(p : Int), 0] 0) 0 % 256 = (p : Int) % 256 := by
  have := hs p 0 (by omega); rw [r0]; rw [show ((0 : Nat) : Int) = 0 from rfl] at this; rw [this, show (2 : Int) ^ 0 = 1 from rfl]; omega
 have key : ∃ e : ByteArray, (e.size ≤ 2 ∧ bt e 0 ≠ 0) ∧ V e e.size = p ∧ Ev (fun k => r1pack.l1 k [(p : Int), 0] [] 0 8) e := by
  by_cases hp : 256 ≤ p
  ·refine ⟨strOfNums [(p : Int) / 256, (p : Int) % 256], ⟨by rw [strOfNums_size]; simp, by rw [bt_hd (by omega)]; omega⟩, ?_, ?_⟩
   ·rw [V_two (by omega) (by omega)]; omega
   ·refine pack_put (by omega) (by omega) (by omega) (by simp) (by simp) (.inr (by rw [p8]; omega)) ?_
    rw [p8]
    refine pack_put (s := 0) (by omega) (by omega) (by omega) (by simp) (by simp) (.inl (by simp)) ?_
    rw [p0]
    exact pack_end (by omega) (by omega) (by omega) pack_done
  ·refine ⟨strOfNums [(p : Int) % 256], ⟨by rw [strOfNums_size]; simp, by rw [bt_hd (by omega)]; omega⟩, ?_, ?_⟩
   ·rw [V_one (by omega)]; omega
   ·refine pack_zero (by omega) (by omega) (by omega) (by simp) (by rw [p8]; omega) ?_
    refine pack_put (s := 0) (by omega) (by omega) (by omega) (by simp) (by simp) (.inr (by rw [p0]; omega)) ?_
    rw [p0]
    exact pack_end (by omega) (by omega) (by omega) pack_done
 obtain ⟨e, h1, h3, h4⟩ := key
 have hall : Ev (fun k => r1pack.l0 k [(p : Int), 0] [] 1) e := by
  refine pack_next (by omega) ?_
  refine pack_zero (by omega) (by omega) (by omega) (by simp) (z 24 (by omega)) ?_
  refine pack_zero (s := 16) (by omega) (by omega) (by omega) (by simp) (z 16 (by omega)) ?_
  refine pack_zero (s := 8) (by omega) (by omega) (by omega) (by simp) (z 8 (by omega)) ?_
  refine pack_zero (s := 0) (by omega) (by omega) (by omega) (by simp) (z 0 (by omega)) ?_
  refine pack_end (by omega) (by omega) (by omega) ?_
  refine pack_next (i := 0) (by omega) ?_
  refine pack_zero (by omega) (by omega) (by omega) (by simp) p24 ?_
  exact pack_zero (s := 16) (by omega) (by omega) (by omega) (by simp) p16 h4
 obtain ⟨K, hK⟩ := hall
 dsimp only at hK
 refine ⟨e, h1, h3, K, fun k hk => ?_⟩
 simp only [r1FromInt.f, r1Of.f, r1pack.f]
 rw [hw, hm, hd]
 have e1 : wrap64 ((([(p : Int), 0] : List Int).length : Int) - 1) = 1 := by rw [wrap_id (by simp) (by simp)]; rfl
 rw [e1, hK k hk, Option.bind_some, Option.bind_some]
theorem FromInt_spec {p : Nat} (h2 : 2 ≤ p) (hP : p ≤ 65521) : ∃ e : ByteArray, e.size ≤ 1000000 ∧ V e e.size = p ∧ Ev (fun k => r1FromInt.f k p) e := by
 obtain ⟨e, h1, h3, h4⟩ := FromInt_bt (show 1 ≤ p by omega) hP
 exact ⟨e, by omega, h3, h4⟩
def GcdR (p : Nat) (a b d : List Int) : Prop := NL p d ∧ In p (P d) (P a) ∧ In p (P d) (P b) ∧ ∃ s t, Cg p 0 (P d) (s * P a + t * P b)
section
variable {p : Nat} (hp : Prm p) (hP : p ≤ 65521)
include hp hP
theorem GcdR.nil {a : List Int} (ha : NL p a) : GcdR p a [] a := have _ := hp; have _ := hP; ⟨ha, In.self, by rw [P_nil]; exact In.zero, 1, 0, Cg.of_eq ZX.zr⟩
theorem GcdR.step {a b d : List Int} (hb : NL p b) (hne : b ≠ []) (h : GcdR p b (rm p b (P a)) d) : GcdR p a b d := by
 have _ := hP
 obtain ⟨h1, h2, h3, s, t, h4⟩ := h
 have hr := (rm_spec hp hb hne (P a)).2.2
 refine ⟨h1, (hr.down h2).in_iff.1 h3, h2, ?_⟩
 obtain ⟨x, y, e⟩ := hr
 have e2 : P (rm p b (P a)) = P a + (C p * x + P b * y) := by rw [← e]; exact ZX.zr
 refine ⟨t, s + t * y, h4.trans ?_⟩
 rw [e2]
 show In p 0 _
 rw [show s * P b + t * (P a + (C p * x + P b * y)) - (t * P a + (s + t * y) * P b) = C p * (t * x) from ZX.zr]
 exact In.num _
theorem GcdR.monic {a b d : List Int} (h : GcdR p a b d) {v : Int} (hv : (p : Int) ∣ v * d.getD (d.length - 1) 0 - 1) : GcdR p a b (nf p (C v * P d)) ∧ (nf p (C v * P d)).length ≤ d.length ∧ (d ≠ [] → nf p (C v * P d) ≠ []) := by
 have _ := hP
 obtain ⟨h1, h2, h3, s, t, h4⟩ := h
 have hn := nf_spec (prm_pos hp) (C v * P d)
 have hb : In p (P (nf p (C v * P d))) (P d) := by
  have e : Cg p 0 (C (d.getD (d.length - 1) 0) * P (nf p (C v * P d))) (P d) := by
   refine ((Cg.refl _).mul hn.2).trans ?_
   have : Cg p 0 (C (v * d.getD (d.length - 1) 0) * P d) (C 1 * P d) := (Cg.num hv).mul (Cg.refl _)
   refine (Cg.of_eq ?_).trans (this.trans (Cg.of_eq ?_))
   ·exact ZX.zr
   ·exact ZX.zr
  exact (e.mono.in_iff).1 (In.self.mul' _)
 refine ⟨⟨hn.1, h2.trans hb, h3.trans hb, C v * s, C v * t, ?_⟩, nf_dg (prm_pos hp) ((Dg.of_P (Nat.le_refl _)).scale _), fun hne e => ?_⟩
 ·refine hn.2.trans (((Cg.refl (C v)).mul h4).trans (Cg.of_eq ZX.zr))
 ·rw [e, P_nil] at hb
  exact hne (nl_unique (prm_pos hp) h1 NL.nil (by rw [P_nil]; exact Cg.of_in hb))
theorem fp_Gcd_spec : ∀ (n : Nat) (a b : List Int), b.length ≤ n → NL p a → NL p b → a.length ≤ 100000 → b.length ≤ 100000 → ∃ d, GcdR p a b d ∧ Ev (fun k => fp_Gcd.f k p a b) d
 | n, a, [], _, ha, _, hla, _ => by
  by_cases hne : a = []
  ·subst hne
   refine ⟨_, GcdR.nil hp hP ha, 1, fun k hk => ?_⟩
   obtain ⟨k', rfl, hk'⟩ := ex_succ hk
   simp only [fp_Gcd.f, fp_Gcd.l0, fp_Monic.f]
   rfl
  ·obtain ⟨l0, l1⟩ := ha.lead hp hne
   obtain ⟨v, hv0, hv1, hv, K, hK⟩ := fp_Inv_spec hp hP l0 l1
   obtain ⟨K2, hK2⟩ := fp_Scale_spec (prm_pos hp) hP ha (c := v) (by omega) (by omega)
   dsimp only at hK hK2
   have h0 : 0 < a.length := List.length_pos_iff.2 hne
   have e : wrap64 ((a.length : Int) - 1) = ((a.length - 1 : Nat) : Int) := by rw [wrap_id (by omega) (by omega)]; omega
   refine ⟨_, (GcdR.monic hp hP (GcdR.nil hp hP ha) hv).1, K + K2 + 1, fun k hk => ?_⟩
   obtain ⟨k', rfl, hk'⟩ := ex_succ hk
   simp only [fp_Gcd.f, fp_Gcd.l0, fp_Monic.f]
   rw [if_neg (by simp), if_neg (by omega), e, if_pos (Int.natCast_nonneg _), if_pos (by omega), rd_nat, hK k' (by omega), Option.bind_some, hK2 k' (by omega), Option.bind_some, Option.bind_some]
 | 0, a, b :: bs, h, _, _, _, _ => by simp at h
 | n + 1, a, b :: bs, h, ha, hb, hla, hlb => by
  have hr := rm_spec hp hb (by simp) (P a)
  obtain ⟨d, h1, K, hK⟩ := fp_Gcd_spec n (b :: bs) (rm p (b :: bs) (P a)) (by have := hr.2.1; omega) hb hr.1 hlb (by have := hr.2.1; omega)
  obtain ⟨K2, hK2⟩ := fp_Rem_spec hp hP ha hb (by simp) (by omega) (by omega)
  dsimp only [fp_Gcd.f] at hK hK2
  refine ⟨d, GcdR.step hp hP hb (by simp) h1, K + K2 + 1, fun k hk => ?_⟩
  obtain ⟨k', rfl, hk'⟩ := ex_succ hk
  simp only [fp_Gcd.f, fp_Gcd.l0]
  rw [if_pos (by simp only [List.length_cons]; omega), hK2 k' (by omega), Option.bind_some]
  exact hK k' (by omega)
theorem ref_Gcd_spec : ∀ (n : Nat) (a b : List Int), b.length ≤ n → NL p a → NL p b → a.length ≤ 100000 → b.length ≤ 100000 → ∃ d, GcdR p a b d ∧ Ev (fun k => r9Gcd.f k p a b) d
 | n, a, [], _, ha, _, hla, _ => by
  by_cases hne : a = []
  ·subst hne
   refine ⟨_, GcdR.nil hp hP ha, 1, fun k hk => ?_⟩
   obtain ⟨k', rfl, hk'⟩ := ex_succ hk
   simp only [r9Gcd.f, r9Gcd.l0, r9Monic.f]
   rfl
  ·obtain ⟨l0, l1⟩ := ha.lead hp hne
   obtain ⟨v, hv0, hv1, hv, K, hK⟩ := ref_Inv_spec hp hP l0 l1
   obtain ⟨K2, hK2⟩ := ref_Scale_spec (prm_pos hp) hP v ha (by omega)
   dsimp only at hK hK2
   have h0 : 0 < a.length := List.length_pos_iff.2 hne
   have e : wrap64 ((a.length : Int) - 1) = ((a.length - 1 : Nat) : Int) := by rw [wrap_id (by omega) (by omega)]; omega
   refine ⟨_, (GcdR.monic hp hP (GcdR.nil hp hP ha) hv).1, K + K2 + 1, fun k hk => ?_⟩
   obtain ⟨k', rfl, hk'⟩ := ex_succ hk
   simp only [r9Gcd.f, r9Gcd.l0, r9Monic.f, r9Lead.f]
   rw [if_neg (by simp), if_neg (by omega), if_neg (by omega), e, if_pos (Int.natCast_nonneg _), if_pos (by omega), Option.bind_some, rd_nat, hK k' (by omega), Option.bind_some, hK2 k' (by omega), Option.bind_some, Option.bind_some]
 | 0, a, b :: bs, h, _, _, _, _ => by simp at h
 | n + 1, a, b :: bs, h, ha, hb, hla, hlb => by
  have hr := rm_spec hp hb (by simp) (P a)
  obtain ⟨d, h1, K, hK⟩ := ref_Gcd_spec n (b :: bs) (rm p (b :: bs) (P a)) (by have := hr.2.1; omega) hb hr.1 hlb (by have := hr.2.1; omega)
  obtain ⟨K2, hK2⟩ := ref_Mod_spec hp hP ha hb (by simp) (by omega) (by omega)
  dsimp only [r9Gcd.f] at hK hK2
  refine ⟨d, GcdR.step hp hP hb (by simp) h1, K + K2 + 1, fun k hk => ?_⟩
  obtain ⟨k', rfl, hk'⟩ := ex_succ hk
  simp only [r9Gcd.f, r9Gcd.l0]
  rw [if_pos (by simp only [List.length_cons]; omega), hK2 k' (by omega), Option.bind_some]
  exact hK k' (by omega)
def Free (p : Nat) (f : List Int) (i : Nat) : Prop := ∀ d, NL p d → In p (P d) (P f) → In p (P d) (X ^ p ^ i - X) → d.length ≤ 1
theorem gcd_one_iff {f u d : List Int} {i : Nat} (hf : NL p f) (h2 : 2 ≤ f.length) (hu : ∀ e, In p (P e) (P f) → (In p (P e) (P u) ↔ In p (P e) (X ^ p ^ i - X))) (h : GcdR p u f d) : d.length = 1 ↔ Free p f i := by
 have _ := hP
 obtain ⟨h1, h3, h4, s, t, h5⟩ := h
 constructor
 ·intro hd e he hef hex
  obtain ⟨w, hw⟩ := unit_of_single hp h1 hd
  rw [← Nat.not_lt]
  intro hlt
  have hin : In p (P e) (P d) := (h5.mono.in_iff).2 ((((hu e hef).2 hex).mul' s).add (hef.mul' t))
  exact not_in_one hp he hlt ((hw.mono.in_iff).1 (hin.mul w))
 ·intro hfree
  have hle := hfree d h1 h4 ((hu d h4).1 h3)
  have hne : d ≠ [] := by
   intro e
   rw [e, P_nil] at h4
   have := nl_unique (prm_pos hp) hf NL.nil (by rw [P_nil]; exact Cg.of_in h4)
   rw [this] at h2; simp at h2
  have : 0 < d.length := List.length_pos_iff.2 hne
  omega
theorem dom_iff_half {f : List Int} (hf : NL p f) (h2 : 2 ≤ f.length) : Dom p (P f) ↔ ∀ i, 1 ≤ i → 2 * i ≤ f.length - 1 → Free p f i := by
 have _ := hP
 constructor
 ·intro hD i h1 hi d hd hdf hdx
  rw [← Nat.not_lt]
  intro hlt
  exact field_pass hp hf h2 hD h1 (by omega) hd hlt hdf hdx
 ·intro h
  apply Classical.byContradiction
  intro hD
  obtain ⟨d, k, hd, hd2, hdf, hk1, hk2, hdx, _⟩ := not_field hp hf h2 hD
  have := h k hk1 hk2 d hd hdf hdx
  omega
theorem dom_iff_div {f : List Int} (hf : NL p f) (h2 : 2 ≤ f.length) : Dom p (P f) ↔ (∀ i, 1 ≤ i → i < f.length - 1 → i ∣ f.length - 1 → Free p f i) ∧ Cg p (P f) (X ^ p ^ (f.length - 1)) X := by
 have _ := hP
 constructor
 ·intro hD
  refine ⟨fun i h1 hi _ d hd hdf hdx => ?_, field_frob hp hf h2 hD X⟩
  rw [← Nat.not_lt]
  intro hlt
  exact field_pass hp hf h2 hD h1 hi hd hlt hdf hdx
 ·intro ⟨h, hx⟩
  apply Classical.byContradiction
  intro hD
  obtain ⟨d, k, hd, hd2, hdf, hk1, hk2, hdx, hkd⟩ := not_field hp hf h2 hD
  have := h k hk1 (by omega) (hkd hx) d hd hdf hdx
  omega
end
end Go.Proofs.YtillaipaanancaaGreat.Q
end
section
namespace Go.Proofs.YtillaipaanancaaGreat.Q
open Go.RowKit Go.Proofs.YtillaipaanancaaGreatW.PrintWords Go.Proofs.YtillaipaanancaaGreatW.PrintLast Go.Proofs.YtillaipaanancaaGreatW.PrintMore Go.Proofs.YtillaipaanancaaGreat.M Go.Proofs.YtillaipaanancaaGreat.M.ZX
set_option linter.unusedVariables false
set_option linter.unusedSimpArgs false
theorem P_X : P [0, 1] = X := ZX.ext fun x => by simp [P_v, X_v, hv]
theorem NL.x {p : Nat} (h : 2 ≤ p) : NL p [0, 1] := ⟨by simp; omega, .inr (by simp)⟩
section
variable {p : Nat} (hp : Prm p) (hP : p ≤ 65521)
include hp hP
theorem fp_Power_spec {a g : List Int} (ha : NL p a) (hg : NL p g) (hne : g ≠ []) (hla : a.length ≤ 100000) (hlg : g.length ≤ 100000) : Ev (fun k => fp_Power.f k p a g) (rm p g (P a ^ p)) := by
 have h2 := hp.1
 obtain ⟨K, hK⟩ := fp_PowMod_spec hp hP (strOfNums [((p : Int) / 256) % 256, (p : Int) % 256]) ha hg hne hla hlg (by rw [strOfNums_size]; simp)
 dsimp only at hK
 rw [V_two (by omega) (by omega), show (((p : Int) / 256) % 256).toNat * 256 + ((p : Int) % 256).toNat = p by omega] at hK
 refine ⟨K, fun k hk => ?_⟩
 simp only [fp_Power.f]
 rw [hK k hk, Option.bind_some]
theorem test_u {f h u : List Int} {i : Nat} (hh : Cg p (P f) (P h) (X ^ p ^ i)) (hu : Cg p (P f) (P u) (P h - X)) : ∀ e, In p (P e) (P f) → (In p (P e) (P u) ↔ In p (P e) (X ^ p ^ i - X)) := have _ := hp; have _ := hP; fun e he =>
 ((hu.trans (hh.sub (Cg.refl X))).down he).in_iff
theorem rm_next {f : List Int} (hf : NL p f) (hne : f ≠ []) (i : Nat) : rm p f (P (rm p f (X ^ p ^ i)) ^ p) = rm p f (X ^ p ^ (i + 1)) := by
 have _ := hP
 refine rm_cg hp hf hne (((rm_spec hp hf hne (X ^ p ^ i)).2.2.pow p).trans (Cg.of_eq ?_))
 rw [← ZX.pow_mul, ← Nat.pow_succ]
theorem fp_irr_loop {f : List Int} (hf : NL p f) (h2 : 2 ≤ f.length) (hl : f.length ≤ 1000) : ∀ (d i : Nat), i + d = f.length - 1 → 1 ≤ i →
  ∃ b : Bool, (b = true ↔ (∀ j, i ≤ j → j < f.length - 1 → j ∣ f.length - 1 → Free p f j) ∧ Cg p (P f) (X ^ p ^ (f.length - 1)) X) ∧ Ev (fun k => fp_Irreducible.l0 k p f ((f.length - 1 : Nat) : Int) [0, 1] (rm p f (X ^ p ^ (i - 1))) (i : Int)) b := by
 intro d
 induction d with
 | zero =>
  intro i hi h1
  have hne := ne_of_two hp hf h2
  have sm := rm_spec hp hf hne
  obtain ⟨K, hK⟩ := fp_Power_spec hp hP (sm (X ^ p ^ (i - 1))).1 hf hne (by have := (sm (X ^ p ^ (i - 1))).2.1; omega) (by omega)
  rw [rm_next hp hP hf hne, show i - 1 + 1 = i by omega] at hK
  obtain ⟨K2, hK2⟩ := fp_Rem_spec hp hP (NL.x hp.1) hf hne (by simp) (by omega)
  rw [P_X] at hK2
  have hla := (sm (X ^ p ^ i)).2.1
  have hlb := (sm X).2.1
  obtain ⟨K3, hK3⟩ := fp_Sub_spec (prm_pos hp) hP (sm (X ^ p ^ i)).1 (sm X).1 (by omega) (by omega)
  dsimp only at hK hK2 hK3
  refine ⟨((nf p (P (rm p f (X ^ p ^ i)) - P (rm p f X))).length : Int) == 0, ?_, K + K2 + K3 + 1, fun k hk => ?_⟩
  ·rw [beq_iff_eq]
   constructor
   ·intro h
    refine ⟨fun j hj hlt _ => by omega, ?_⟩
    have hnil : nf p (P (rm p f (X ^ p ^ i)) - P (rm p f X)) = [] := List.eq_nil_of_length_eq_zero (by omega)
    have h3 := (nf_spec (prm_pos hp) (P (rm p f (X ^ p ^ i)) - P (rm p f X))).2
    rw [hnil, P_nil] at h3
    have h4 : Cg p 0 (P (rm p f (X ^ p ^ i))) (P (rm p f X)) := by
     have := h3.symm.add (Cg.refl (P (rm p f X)))
     exact (Cg.of_eq ZX.zr).trans (this.trans (Cg.of_eq ZX.zr))
    rw [show f.length - 1 = i by omega]
    exact (sm (X ^ p ^ i)).2.2.symm.trans (h4.mono.trans (sm X).2.2)
   ·intro ⟨_, hx⟩
    rw [show f.length - 1 = i by omega] at hx
    rw [rm_cg hp hf hne hx]
    have : nf p (P (rm p f X) - P (rm p f X)) = [] := (nf_eq (prm_pos hp) NL.nil (Cg.of_eq (by rw [P_nil]; exact ZX.zr))).symm
    rw [this]; rfl
  ·obtain ⟨k', rfl, hk'⟩ := ex_succ hk
   simp only [fp_Irreducible.l0]
   rw [if_pos (by omega), hK k' (by omega), Option.bind_some, hK2 k' (by omega), Option.bind_some, hK3 k' (by omega), Option.bind_some, if_pos (by omega)]
 | succ d ih =>
  intro i hi h1
  have hne := ne_of_two hp hf h2
  have sm := rm_spec hp hf hne
  obtain ⟨b, hb, K4, hK4⟩ := ih (i + 1) (by omega) (by omega)
  rw [show i + 1 - 1 = i by omega] at hK4
  obtain ⟨K, hK⟩ := fp_Power_spec hp hP (sm (X ^ p ^ (i - 1))).1 hf hne (by have := (sm (X ^ p ^ (i - 1))).2.1; omega) (by omega)
  rw [rm_next hp hP hf hne, show i - 1 + 1 = i by omega] at hK
  obtain ⟨K2, hK2⟩ := fp_Rem_spec hp hP (NL.x hp.1) hf hne (by simp) (by omega)
  rw [P_X] at hK2
  have hla := (sm (X ^ p ^ i)).2.1
  have hlb := (sm X).2.1
  obtain ⟨K3, hK3⟩ := fp_Sub_spec (prm_pos hp) hP (sm (X ^ p ^ i)).1 (sm X).1 (by omega) (by omega)
  have hn := nf_spec (prm_pos hp) (P (rm p f (X ^ p ^ i)) - P (rm p f X))
  have hln : (nf p (P (rm p f (X ^ p ^ i)) - P (rm p f X))).length ≤ 1000 := nf_dg (prm_pos hp) ((Dg.of_P (by omega)).sub (Dg.of_P (by omega)))
  obtain ⟨g, hg, K5, hK5⟩ := fp_Gcd_spec hp hP f.length _ f (Nat.le_refl _) hn.1 hf (by omega) (by omega)
  have hfree := gcd_one_iff hp hP (i := i) hf h2 (test_u hp hP (sm (X ^ p ^ i)).2.2 (hn.2.mono.trans ((Cg.refl _).sub (sm X).2.2))) hg
  dsimp only at hK hK2 hK3 hK4 hK5
  have hmod : Int.tmod ((f.length - 1 : Nat) : Int) (i : Int) = (((f.length - 1) % i : Nat) : Int) := by rw [Int.tmod_eq_emod_of_nonneg (by omega)]; simp
  have hback : ∀ (q : Prop), ((∀ j, i + 1 ≤ j → j < f.length - 1 → j ∣ f.length - 1 → Free p f j) ∧ q ↔ (∀ j, i ≤ j → j < f.length - 1 → j ∣ f.length - 1 → Free p f j) ∧ q) ∨ (i ∣ f.length - 1 ∧ ¬ Free p f i) := by
   intro q
   by_cases hc : i ∣ f.length - 1 ∧ ¬ Free p f i
   ·exact .inr hc
   ·refine .inl ⟨fun ⟨h, hq⟩ => ⟨fun j hj hlt hd => ?_, hq⟩, fun ⟨h, hq⟩ => ⟨fun j hj hlt hd => h j (by omega) hlt hd, hq⟩⟩
    rcases Nat.lt_or_ge i j with h3 | h3
    ·exact h j h3 hlt hd
    ·obtain rfl : j = i := by omega
     exact Classical.byContradiction fun hn => hc ⟨hd, hn⟩
  by_cases hd : i ∣ f.length - 1
  ·have hz : (f.length - 1) % i = 0 := Nat.mod_eq_zero_of_dvd hd
   by_cases hg1 : g.length = 1
   ·refine ⟨b, ?_, K + K2 + K3 + K4 + K5 + 1, fun k hk => ?_⟩
    ·rcases hback (Cg p (P f) (X ^ p ^ (f.length - 1)) X) with h | h
     ·exact hb.trans h
     ·exact absurd (hfree.1 hg1) h.2
    ·obtain ⟨k', rfl, hk'⟩ := ex_succ hk
     simp only [fp_Irreducible.l0]
     rw [if_pos (by omega), hK k' (by omega), Option.bind_some, hK2 k' (by omega), Option.bind_some, hK3 k' (by omega), Option.bind_some, if_neg (by omega), if_neg (by omega), hmod, if_pos (by omega), hK5 k' (by omega), Option.bind_some, if_pos (by omega), succ_wrap (by omega)]
     exact hK4 k' (by omega)
   ·refine ⟨false, ?_, K + K2 + K3 + K4 + K5 + 1, fun k hk => ?_⟩
    ·constructor
     ·intro h; cases h
     ·intro ⟨h, _⟩
      exact absurd (hfree.2 (h i (Nat.le_refl _) (by omega) hd)) hg1
    ·obtain ⟨k', rfl, hk'⟩ := ex_succ hk
     simp only [fp_Irreducible.l0]
     rw [if_pos (by omega), hK k' (by omega), Option.bind_some, hK2 k' (by omega), Option.bind_some, hK3 k' (by omega), Option.bind_some, if_neg (by omega), if_neg (by omega), hmod, if_pos (by omega), hK5 k' (by omega), Option.bind_some, if_neg (by omega)]
  ·have hz : (f.length - 1) % i ≠ 0 := fun h => hd (Nat.dvd_of_mod_eq_zero h)
   refine ⟨b, ?_, K + K2 + K3 + K4 + 1, fun k hk => ?_⟩
   ·rcases hback (Cg p (P f) (X ^ p ^ (f.length - 1)) X) with h | h
    ·exact hb.trans h
    ·exact absurd h.1 hd
   ·obtain ⟨k', rfl, hk'⟩ := ex_succ hk
    simp only [fp_Irreducible.l0]
    rw [if_pos (by omega), hK k' (by omega), Option.bind_some, hK2 k' (by omega), Option.bind_some, hK3 k' (by omega), Option.bind_some, if_neg (by omega), if_neg (by omega), hmod, if_neg (by omega), succ_wrap (by omega)]
    exact hK4 k' (by omega)
theorem fp_Irreducible_spec {f : List Int} (hf : NL p f) (hl : f.length ≤ 1000) : ∃ b : Bool, (b = true ↔ 2 ≤ f.length ∧ Dom p (P f)) ∧ Ev (fun k => fp_Irreducible.f k p f) b := by
 have e : wrap64 ((f.length : Int) - 1) = (f.length : Int) - 1 := wrap_id (by omega) (by omega)
 by_cases h2 : 2 ≤ f.length
 ·have hne := ne_of_two hp hf h2
  obtain ⟨b, hb, K, hK⟩ := fp_irr_loop hp hP hf h2 hl (f.length - 2) 1 (by omega) (Nat.le_refl _)
  obtain ⟨K2, hK2⟩ := fp_Rem_spec hp hP (NL.x hp.1) hf hne (by simp) (by omega)
  rw [P_X] at hK2
  rw [Nat.sub_self, Nat.pow_zero, ZX.pow_one] at hK
  dsimp only at hK hK2
  refine ⟨b, ?_, K + K2, fun k hk => ?_⟩
  ·rw [hb, dom_iff_div hp hP hf h2]
   exact ⟨fun h => ⟨h2, h⟩, fun h => h.2⟩
  ·simp only [fp_Irreducible.f]
   rw [e, if_neg (by omega), Option.bind_some, hK2 k (by omega), Option.bind_some, show (f.length : Int) - 1 = ((f.length - 1 : Nat) : Int) by omega]
   exact hK k (by omega)
 ·refine ⟨false, ⟨fun h => (by cases h), fun h => absurd h.1 h2⟩, 0, fun k _ => ?_⟩
  simp only [fp_Irreducible.f]
  rw [e, if_pos (by omega)]
theorem ref_irr_loop {f : List Int} (hf : NL p f) (h2 : 2 ≤ f.length) (hl : f.length ≤ 1000) : ∀ (d i : Nat), i + d = f.length → 1 ≤ i →
  ∃ b : Bool, (b = true ↔ (∀ j, i ≤ j → 2 * j ≤ f.length - 1 → Free p f j)) ∧ Ev (fun k => r9IsIrreducible.l0 k p f (rm p f (X ^ p ^ (i - 1))) (i : Int)) b := by
 intro d
 have e : wrap64 ((f.length : Int) - 1) = (f.length : Int) - 1 := wrap_id (by omega) (by omega)
 induction d with
 | zero =>
  intro i hi h1
  refine ⟨true, ⟨fun _ j hj h => by omega, fun _ => rfl⟩, 1, fun k hk => ?_⟩
  obtain ⟨k', rfl, hk'⟩ := ex_succ hk
  simp only [r9IsIrreducible.l0]
  rw [e, wrap_id (x := 2 * (i : Int)) (by omega) (by omega), if_neg (by omega)]
 | succ d ih =>
  intro i hi h1
  by_cases hh : 2 * i ≤ f.length - 1
  ·have hne := ne_of_two hp hf h2
   have sm := rm_spec hp hf hne
   obtain ⟨b, hb, K4, hK4⟩ := ih (i + 1) (by omega) (by omega)
   rw [show i + 1 - 1 = i by omega] at hK4
   obtain ⟨y, hy1, hy2, K, hK⟩ := FromInt_spec hp.1 hP
   obtain ⟨K2, hK2⟩ := ref_PowMod_spec hp hP y (sm (X ^ p ^ (i - 1))).1 hf hne (by have := (sm (X ^ p ^ (i - 1))).2.1; omega) (by omega) hy1
   rw [hy2, rm_next hp hP hf hne, show i - 1 + 1 = i by omega] at hK2
   have hla := (sm (X ^ p ^ i)).2.1
   obtain ⟨K3, hK3⟩ := ref_Sub_spec (prm_pos hp) hP (sm (X ^ p ^ i)).1 (NL.x hp.1) (by omega) (by simp)
   rw [P_X] at hK3
   have hn := nf_spec (prm_pos hp) (P (rm p f (X ^ p ^ i)) - X)
   have hln : (nf p (P (rm p f (X ^ p ^ i)) - X)).length ≤ 1000 := nf_dg (prm_pos hp) ((Dg.of_P (by omega)).sub (by rw [← P_X]; exact Dg.of_P (by simp)))
   obtain ⟨g, hg, K5, hK5⟩ := ref_Gcd_spec hp hP f.length _ f (Nat.le_refl _) hn.1 hf (by omega) (by omega)
   have hfree := gcd_one_iff hp hP (i := i) hf h2 (test_u hp hP (sm (X ^ p ^ i)).2.2 hn.2.mono) hg
   dsimp only at hK hK2 hK3 hK4 hK5
   by_cases hg1 : g.length = 1
   ·refine ⟨b, ?_, K + K2 + K3 + K4 + K5 + 1, fun k hk => ?_⟩
    ·rw [hb]
     constructor
     ·intro h j hj hj2
      rcases Nat.lt_or_ge i j with h3 | h3
      ·exact h j h3 hj2
      ·obtain rfl : j = i := by omega
       exact hfree.1 hg1
     ·intro h j hj hj2
      exact h j (by omega) hj2
    ·obtain ⟨k', rfl, hk'⟩ := ex_succ hk
     simp only [r9IsIrreducible.l0, r9X.f]
     rw [e, wrap_id (x := 2 * (i : Int)) (by omega) (by omega), if_pos (by omega), hK k' (by omega), Option.bind_some, hK2 k' (by omega), Option.bind_some, Option.bind_some, hK3 k' (by omega), Option.bind_some, hK5 k' (by omega), Option.bind_some, if_pos (by omega), succ_wrap (by omega)]
     exact hK4 k' (by omega)
   ·refine ⟨false, ?_, K + K2 + K3 + K4 + K5 + 1, fun k hk => ?_⟩
    ·constructor
     ·intro h; cases h
     ·intro h
      exact absurd (hfree.2 (h i (Nat.le_refl _) hh)) hg1
    ·obtain ⟨k', rfl, hk'⟩ := ex_succ hk
     simp only [r9IsIrreducible.l0, r9X.f]
     rw [e, wrap_id (x := 2 * (i : Int)) (by omega) (by omega), if_pos (by omega), hK k' (by omega), Option.bind_some, hK2 k' (by omega), Option.bind_some, Option.bind_some, hK3 k' (by omega), Option.bind_some, hK5 k' (by omega), Option.bind_some, if_neg (by omega)]
  ·refine ⟨true, ⟨fun _ j hj h => by omega, fun _ => rfl⟩, 1, fun k hk => ?_⟩
   obtain ⟨k', rfl, hk'⟩ := ex_succ hk
   simp only [r9IsIrreducible.l0]
   rw [e, wrap_id (x := 2 * (i : Int)) (by omega) (by omega), if_neg (by omega)]
theorem ref_Irreducible_spec {f : List Int} (hf : NL p f) (hl : f.length ≤ 1000) : ∃ b : Bool, (b = true ↔ 2 ≤ f.length ∧ Dom p (P f)) ∧ Ev (fun k => r9IsIrreducible.f k p f) b := by
 by_cases h2 : 2 ≤ f.length
 ·have hne := ne_of_two hp hf h2
  obtain ⟨b, hb, K, hK⟩ := ref_irr_loop hp hP hf h2 hl (f.length - 1) 1 (by omega) (Nat.le_refl _)
  obtain ⟨K2, hK2⟩ := ref_Mod_spec hp hP (NL.x hp.1) hf hne (by simp) (by omega)
  rw [P_X] at hK2
  rw [Nat.sub_self, Nat.pow_zero, ZX.pow_one] at hK
  dsimp only at hK hK2
  refine ⟨b, ?_, K + K2, fun k hk => ?_⟩
  ·rw [hb, dom_iff_half hp hP hf h2]
   exact ⟨fun h => ⟨h2, h⟩, fun h => h.2⟩
  ·simp only [r9IsIrreducible.f, r9X.f]
   rw [if_neg (by omega), Option.bind_some, hK2 k (by omega), Option.bind_some]
   exact hK k (by omega)
 ·refine ⟨false, ⟨fun h => (by cases h), fun h => absurd h.1 h2⟩, 0, fun k _ => ?_⟩
  simp only [r9IsIrreducible.f]
  rw [if_pos (by omega)]
end
end Go.Proofs.YtillaipaanancaaGreat.Q
end

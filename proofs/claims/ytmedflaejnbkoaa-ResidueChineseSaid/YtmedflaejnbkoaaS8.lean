/- What the printed systems of congruences of residue and its reference compute, for moduli up to 3000. No conditions. -/
import Derived.Test.YtmedflaejnbkoaaS3
import Derived.Test.YtmedflaejnbkoaaM4
import Derived.Test.YtmedflaejnbkoaaQG1
import Derived.Test.YtmedflaejnbkoaaQF23
namespace Go.Proofs.Ytmedflaejnbkoaa.Q
open Go.RowKit Go.Proofs.YtmedflaejnbkoaaW.PrintWords Go.Proofs.YtmedflaejnbkoaaW.PrintLast Go.Proofs.YtmedflaejnbkoaaW.PrintMore Go.Proofs.Ytmedflaejnbkoaa.M
set_option linter.unusedVariables false
set_option linter.unusedSimpArgs false

theorem cast_help (a m y : Nat) (h : y ≤ m) : (a : Int) - (y : Int) = ((a + (m - y) : Nat) : Int) - (m : Int) := by omega
/-- A system: residues, and moduli up to 3000. -/
structure Sys (l0 l1 : List Int) (R : Nat → Int) (Mo : Nat → Nat) (n : Nat) : Prop where
  len0 : l0.length = n
  len1 : l1.length = n
  le : n ≤ 256
  r : ∀ i, i < n → rd l0 (i : Int) = R i
  m : ∀ i, i < n → rd l1 (i : Int) = (Mo i : Int)
  pos : ∀ i, i < n → 1 ≤ Mo i ∧ Mo i ≤ 3000
def OkAt (R : Nat → Int) (Mo : Nat → Nat) (i k : Nat) : Prop := ((Nat.gcd (Mo i) (Mo k) : Nat) : Int) ∣ R i - R k
section
variable {l0 l1 : List Int} {R : Nat → Int} {Mo : Nat → Nat} {n : Nat} (h : Sys l0 l1 R Mo n)
include h
theorem prog_inner (r : Int × Int × Int) (i : Nat) (hi : i < n) : ∀ d k, k + d = i → ((∀ k', k ≤ k' → k' < i → OkAt R Mo i k') → Ev (fun q => residue_Chinese.l0 q l0 l1 (n : Int) ((i + 1 : Nat) : Int)) r) → ((∃ k', k ≤ k' ∧ k' < i ∧ ¬ OkAt R Mo i k') → r = (0, 0, 10)) → Ev (fun q => residue_Chinese.l1 q l0 l1 (i : Int) (n : Int) (i : Int) (i : Int) (k : Int)) r
  | 0, k, hk, hok, _ => by
    obtain ⟨K, hK⟩ := hok fun k' h1 h2 => by omega
    dsimp only at hK
    have hn := h.le
    refine ⟨K + 1, fun q hq => ?_⟩
    obtain ⟨j, rfl, hj⟩ := ex_succ hq
    simp only [residue_Chinese.l1]
    rw [if_neg (by omega), wrap_id (by omega) (by omega)]
    exact hK j hj
  | d + 1, k, hk, hok, hbad => by
    have hn := h.le
    have h0 := h.len0
    have h1 := h.len1
    have p1 := h.pos i hi
    have p2 := h.pos k (by omega)
    have hgp : 0 < Nat.gcd (Mo i) (Mo k) := Nat.gcd_pos_of_pos_left _ (by omega)
    have hgl : Nat.gcd (Mo i) (Mo k) ≤ Mo i := Nat.gcd_le_left _ (by omega)
    obtain ⟨Kg, hg⟩ := gcd_spec (Mo k) (Mo i)
    dsimp only at hg
    have b1 := Int.emod_nonneg (R i) (b := (Mo i : Int)) (by omega)
    have b2 := Int.emod_lt_of_pos (R i) (b := (Mo i : Int)) (by omega)
    have b3 := Int.emod_nonneg (R k) (b := (Mo k : Int)) (by omega)
    have b4 := Int.emod_lt_of_pos (R k) (b := (Mo k : Int)) (by omega)
    have hiff : (R i % (Mo i : Int) - R k % (Mo k : Int)) % ((Nat.gcd (Mo i) (Mo k) : Nat) : Int) = 0 ↔ OkAt R Mo i k := by
      have e1 : ((Nat.gcd (Mo i) (Mo k) : Nat) : Int) ∣ (Mo i : Int) := Int.ofNat_dvd.2 (Nat.gcd_dvd_left _ _)
      have e2 : ((Nat.gcd (Mo i) (Mo k) : Nat) : Int) ∣ (Mo k : Int) := Int.ofNat_dvd.2 (Nat.gcd_dvd_right _ _)
      rw [Int.sub_emod, Int.emod_emod_of_dvd _ e1, Int.emod_emod_of_dvd _ e2, ← Int.sub_emod]
      exact ⟨Int.dvd_of_emod_eq_zero, Int.emod_eq_zero_of_dvd⟩
    have step : ∀ q, Kg ≤ q → residue_Chinese.l1 (q + 1) l0 l1 (i : Int) (n : Int) (i : Int) (i : Int) (k : Int) = if (R i % (Mo i : Int) - R k % (Mo k : Int)) % ((Nat.gcd (Mo i) (Mo k) : Nat) : Int) = 0 then residue_Chinese.l1 q l0 l1 (i : Int) (n : Int) (i : Int) (i : Int) ((k + 1 : Nat) : Int) else some (0, 0, 10) := by
      intro q hq
      simp only [residue_Chinese.l1]
      rw [if_pos (by omega), if_pos (by omega), if_pos (by omega), if_pos (by omega), h.r i hi, h.m i hi, mod_spec (by omega) (by omega), Option.bind_some, if_pos (by omega), if_pos (by omega), if_pos (by omega), h.r k (by omega), h.m k (by omega), mod_spec (by omega) (by omega), Option.bind_some, hg q hq, Option.bind_some, wrap_id (by omega) (by omega), mod_spec (by omega) (by omega), Option.bind_some, wrap_id (by omega) (by omega)]
      rfl
    by_cases hc : OkAt R Mo i k
    · obtain ⟨K, hK⟩ := prog_inner r i hi d (k + 1) (by omega) (fun hall => hok fun k' h1 h2 => by
        rcases Nat.lt_or_ge k k' with h3 | h3
        · exact hall k' h3 h2
        · obtain rfl : k' = k := by omega
          exact hc) (fun ⟨k', h1, h2, h3⟩ => hbad ⟨k', by omega, h2, h3⟩)
      dsimp only at hK
      refine ⟨K + Kg + 1, fun q hq => ?_⟩
      obtain ⟨j, rfl, hj⟩ := ex_succ hq
      dsimp only
      rw [step j (by omega), if_pos (hiff.2 hc)]
      exact hK j (by omega)
    · refine ⟨Kg + 1, fun q hq => ?_⟩
      obtain ⟨j, rfl, hj⟩ := ex_succ hq
      dsimp only
      rw [step j (by omega), if_neg fun e => hc (hiff.1 e), hbad ⟨k, Nat.le_refl _, by omega, hc⟩]
theorem prog_check (r : Int × Int × Int) : ∀ d i, i + d = n → ((∀ i', i ≤ i' → i' < n → ∀ k, k < i' → OkAt R Mo i' k) → Ev (fun q => residue_Chinese.l2 q l0 l1 0 1 (n : Int) 0) r) → ((∃ i' k, i ≤ i' ∧ i' < n ∧ k < i' ∧ ¬ OkAt R Mo i' k) → r = (0, 0, 10)) → Ev (fun q => residue_Chinese.l0 q l0 l1 (n : Int) (i : Int)) r
  | 0, i, hi, hok, _ => by
    obtain ⟨K, hK⟩ := hok fun i' h1 h2 => by omega
    dsimp only at hK
    have h1 := h.len1
    refine ⟨K + 1, fun q hq => ?_⟩
    obtain ⟨j, rfl, hj⟩ := ex_succ hq
    simp only [residue_Chinese.l0]
    rw [if_neg (by omega), h1]
    exact hK j hj
  | d + 1, i, hi, hok, hbad => by
    obtain ⟨K, hK⟩ := prog_inner h r i (by omega) i 0 (by omega) (fun hall => prog_check r d (i + 1) (by omega) (fun hall2 => hok fun i' h1 h2 k hk => by
        rcases Nat.lt_or_ge i i' with h3 | h3
        · exact hall2 i' h3 h2 k hk
        · obtain rfl : i' = i := by omega
          exact hall k (by omega) hk) (fun ⟨i', k, h1, h2, h3, h4⟩ => hbad ⟨i', k, by omega, h2, h3, h4⟩)) (fun ⟨k', h1, h2, h3⟩ => hbad ⟨i, k', Nat.le_refl _, by omega, h2, h3⟩)
    dsimp only at hK
    refine ⟨K + 1, fun q hq => ?_⟩
    obtain ⟨j, rfl, hj⟩ := ex_succ hq
    simp only [residue_Chinese.l0]
    rw [if_pos (by omega)]
    exact hK j hj
theorem ref_inner (r : Int × Int × Int) (i : Nat) (hi : i < n) : ∀ d k, k + d = i → ((∀ k', k ≤ k' → k' < i → OkAt R Mo i k') → Ev (fun q => galoisref04_Chinese.l1 q l0 l1 ((i + 1 : Nat) : Int)) r) → ((∃ k', k ≤ k' ∧ k' < i ∧ ¬ OkAt R Mo i k') → r = (0, 0, 10)) → Ev (fun q => galoisref04_Chinese.l2 q l0 l1 (i : Int) (k : Int)) r
  | 0, k, hk, hok, _ => by
    obtain ⟨K, hK⟩ := hok fun k' h1 h2 => by omega
    dsimp only at hK
    have hn := h.le
    refine ⟨K + 1, fun q hq => ?_⟩
    obtain ⟨j, rfl, hj⟩ := ex_succ hq
    simp only [galoisref04_Chinese.l2]
    rw [if_neg (by omega), wrap_id (by omega) (by omega)]
    exact hK j hj
  | d + 1, k, hk, hok, hbad => by
    have hn := h.le
    have h0 := h.len0
    have h1 := h.len1
    have p1 := h.pos i hi
    have p2 := h.pos k (by omega)
    have hgp : 0 < Nat.gcd (Mo i) (Mo k) := Nat.gcd_pos_of_pos_left _ (by omega)
    have hgl : Nat.gcd (Mo i) (Mo k) ≤ Mo i := Nat.gcd_le_left _ (by omega)
    obtain ⟨Kg, hg⟩ := Gcd_spec (Mo k) (Mo i)
    dsimp only at hg
    have hiff : R i % ((Nat.gcd (Mo i) (Mo k) : Nat) : Int) = R k % ((Nat.gcd (Mo i) (Mo k) : Nat) : Int) ↔ OkAt R Mo i k := by
      rw [Int.emod_eq_emod_iff_emod_sub_eq_zero]
      exact ⟨Int.dvd_of_emod_eq_zero, Int.emod_eq_zero_of_dvd⟩
    have step : ∀ q, Kg ≤ q → galoisref04_Chinese.l2 (q + 1) l0 l1 (i : Int) (k : Int) = if R i % ((Nat.gcd (Mo i) (Mo k) : Nat) : Int) = R k % ((Nat.gcd (Mo i) (Mo k) : Nat) : Int) then galoisref04_Chinese.l2 q l0 l1 (i : Int) ((k + 1 : Nat) : Int) else some (0, 0, 10) := by
      intro q hq
      simp only [galoisref04_Chinese.l2]
      rw [if_pos (by omega), if_pos (by omega), if_pos (by omega), if_pos (by omega), if_pos (by omega), h.m i hi, h.m k (by omega), hg q hq, Option.bind_some, if_pos (by omega), h.r i hi, Mod_spec (by omega) (by omega), Option.bind_some, if_pos (by omega), h.r k (by omega), Mod_spec (by omega) (by omega), Option.bind_some, wrap_id (by omega) (by omega)]
      rfl
    by_cases hc : OkAt R Mo i k
    · obtain ⟨K, hK⟩ := ref_inner r i hi d (k + 1) (by omega) (fun hall => hok fun k' h1 h2 => by
        rcases Nat.lt_or_ge k k' with h3 | h3
        · exact hall k' h3 h2
        · obtain rfl : k' = k := by omega
          exact hc) (fun ⟨k', h1, h2, h3⟩ => hbad ⟨k', by omega, h2, h3⟩)
      dsimp only at hK
      refine ⟨K + Kg + 1, fun q hq => ?_⟩
      obtain ⟨j, rfl, hj⟩ := ex_succ hq
      dsimp only
      rw [step j (by omega), if_pos (hiff.2 hc)]
      exact hK j (by omega)
    · refine ⟨Kg + 1, fun q hq => ?_⟩
      obtain ⟨j, rfl, hj⟩ := ex_succ hq
      dsimp only
      rw [step j (by omega), if_neg fun e => hc (hiff.1 e), hbad ⟨k, Nat.le_refl _, by omega, hc⟩]
theorem ref_check (r : Int × Int × Int) : ∀ d i, i + d = n → ((∀ i', i ≤ i' → i' < n → ∀ k, k < i' → OkAt R Mo i' k) → Ev (fun q => galoisref04_Chinese.l3 q l0 l1 0 1 0) r) → ((∃ i' k, i ≤ i' ∧ i' < n ∧ k < i' ∧ ¬ OkAt R Mo i' k) → r = (0, 0, 10)) → Ev (fun q => galoisref04_Chinese.l1 q l0 l1 (i : Int)) r
  | 0, i, hi, hok, _ => by
    obtain ⟨K, hK⟩ := hok fun i' h1 h2 => by omega
    dsimp only at hK
    have h1 := h.len1
    refine ⟨K + 1, fun q hq => ?_⟩
    obtain ⟨j, rfl, hj⟩ := ex_succ hq
    simp only [galoisref04_Chinese.l1]
    rw [if_neg (by omega)]
    exact hK j hj
  | d + 1, i, hi, hok, hbad => by
    have h1 := h.len1
    obtain ⟨K, hK⟩ := ref_inner h r i (by omega) i 0 (by omega) (fun hall => ref_check r d (i + 1) (by omega) (fun hall2 => hok fun i' h1 h2 k hk => by
        rcases Nat.lt_or_ge i i' with h3 | h3
        · exact hall2 i' h3 h2 k hk
        · obtain rfl : i' = i := by omega
          exact hall k (by omega) hk) (fun ⟨i', k, h1, h2, h3, h4⟩ => hbad ⟨i', k, by omega, h2, h3, h4⟩)) (fun ⟨k', h1, h2, h3⟩ => hbad ⟨i, k', Nat.le_refl _, by omega, h2, h3⟩)
    dsimp only at hK
    refine ⟨K + 1, fun q hq => ?_⟩
    obtain ⟨j, rfl, hj⟩ := ex_succ hq
    simp only [galoisref04_Chinese.l1]
    rw [if_pos (by omega)]
    exact hK j hj
theorem ref_search (i : Nat) (hi : i < n) (l t : Nat) (hl : l ≤ 2147483647) (r : Int × Int × Int) (x' s : Nat) (hs : s ≤ 3000) (hx' : x' ≤ 2147483647)
    (heq : x' % Mo i = res (R i) (Mo i)) (hnext : Ev (fun q => galoisref04_Chinese.l3 q l0 l1 (x' : Int) (wrap64 ((l : Int) * s)) (wrap64 ((i : Int) + 1))) r) : ∀ (d x : Nat), x + l * d = x' → (∀ j, j < d → (x + l * j) % Mo i ≠ res (R i) (Mo i)) → Ev (fun q => galoisref04_Chinese.l4 q l0 l1 (x : Int) (l : Int) (i : Int) (s : Int)) r
  | 0, x, hd, hmin => by
    obtain ⟨K, hK⟩ := hnext
    dsimp only at hK
    have hn := h.le
    have h0 := h.len0
    have h1 := h.len1
    have p1 := h.pos i hi
    have hxx : x = x' := by simpa using hd
    refine ⟨K + 1, fun q hq => ?_⟩
    obtain ⟨j, rfl, hj⟩ := ex_succ hq
    simp only [galoisref04_Chinese.l4]
    rw [if_pos (by omega), if_pos (by omega), h.m i hi, if_neg (by omega), if_pos (by omega), h.r i hi, Mod_nat (by omega) (by omega), Option.bind_some, Int.tmod_eq_emod_of_nonneg (by omega), if_pos]
    · rw [hxx]; exact hK j hj
    · rw [hxx, ← Int.natCast_emod, heq]
  | d + 1, x, hd, hmin => by
    have hn := h.le
    have h0 := h.len0
    have h1 := h.len1
    have p1 := h.pos i hi
    have e : l * (d + 1) = l + l * d := by rw [Nat.mul_add, Nat.mul_one, Nat.add_comm]
    obtain ⟨K, hK⟩ := ref_search i hi l t hl r x' s hs hx' heq hnext d (x + l) (by omega) (fun j hj => by
      have := hmin (j + 1) (by omega)
      rw [Nat.mul_add, Nat.mul_one] at this
      rw [show x + l + l * j = x + (l * j + l) by omega]
      exact this)
    dsimp only at hK
    have hne := hmin 0 (by omega)
    rw [Nat.mul_zero, Nat.add_zero] at hne
    refine ⟨K + 1, fun q hq => ?_⟩
    obtain ⟨j, rfl, hj⟩ := ex_succ hq
    simp only [galoisref04_Chinese.l4]
    rw [if_pos (by omega), if_pos (by omega), h.m i hi, if_neg (by omega), if_pos (by omega), h.r i hi, Mod_nat (by omega) (by omega), Option.bind_some, Int.tmod_eq_emod_of_nonneg (by omega), if_neg (by rw [← Int.natCast_emod]; omega), wrap_id (by omega) (by omega)]
    exact hK j hj
/-- Program and reference merge the congruences alike. -/
theorem merge_both (hall : ∀ i, i < n → ∀ k, k < i → OkAt R Mo i k) : ∀ d i x : Nat, i + d = n → lc Mo i ≤ 2147483647 → x < lc Mo i → (∀ k, k < i → x % Mo k = res (R k) (Mo k)) →
    ∃ out : Int × Int × Int, Ev (fun q => residue_Chinese.l2 q l0 l1 (x : Int) (lc Mo i : Int) (n : Int) (i : Int)) out ∧ Ev (fun q => galoisref04_Chinese.l3 q l0 l1 (x : Int) (lc Mo i : Int) (i : Int)) out ∧
      ((∃ j, j < n ∧ 2147483647 < lc Mo (j + 1) ∧ out = (0, 0, 4)) ∨ ∃ y : Nat, out = ((y : Int), (lc Mo n : Int), 0) ∧ y < lc Mo n ∧ lc Mo n ≤ 2147483647 ∧ ∀ k, k < n → y % Mo k = res (R k) (Mo k))
  | 0, i, x, hd, hM, hx, hsol => by
    have h1 := h.len1
    obtain rfl : i = n := by omega
    refine ⟨((x : Int), (lc Mo i : Int), 0), ⟨1, fun q hq => ?_⟩, ⟨1, fun q hq => ?_⟩, Or.inr ⟨x, rfl, hx, hM, hsol⟩⟩
    · obtain ⟨j, rfl, hj⟩ := ex_succ hq
      simp only [residue_Chinese.l2]
      rw [if_neg (by omega)]
    · obtain ⟨j, rfl, hj⟩ := ex_succ hq
      simp only [galoisref04_Chinese.l3]
      rw [if_neg (by omega)]
  | d + 1, i, x, hd, hM, hx, hsol => by
    have hn := h.le
    have h0 := h.len0
    have h1 := h.len1
    have hi : i < n := by omega
    have p1 := h.pos i hi
    have hlp : 0 < lc Mo i := lc_pos fun k hk => (h.pos k (by omega)).1
    have hg0 : 0 < Nat.gcd (lc Mo i) (Mo i) := Nat.gcd_pos_of_pos_left _ hlp
    have hgm : Nat.gcd (lc Mo i) (Mo i) ≤ Mo i := Nat.gcd_le_right _ (by omega)
    obtain ⟨L, hL⟩ := Nat.gcd_dvd_left (lc Mo i) (Mo i)
    obtain ⟨s, hs⟩ := Nat.gcd_dvd_right (lc Mo i) (Mo i)
    have hlc : lc Mo (i + 1) = lc Mo i * s := by
      show Nat.lcm (lc Mo i) (Mo i) = _
      rw [Nat.lcm_eq_mul_div]
      apply Nat.div_eq_of_eq_mul_right hg0
      rw [← Nat.mul_assoc, Nat.mul_comm (Nat.gcd _ _), Nat.mul_assoc, ← hs]
    have hlc2 : L * Mo i = lc Mo i * s := by
      have e1 : L * Mo i = L * (Nat.gcd (lc Mo i) (Mo i) * s) := by rw [← hs]
      have e2 : lc Mo i * s = Nat.gcd (lc Mo i) (Mo i) * L * s := by rw [← hL]
      rw [e1, e2, Nat.mul_left_comm, Nat.mul_assoc]
    have hs0 : 0 < s := by
      rcases Nat.eq_zero_or_pos s with rfl | h2
      · omega
      · exact h2
    have hL0 : 0 < L := by
      rcases Nat.eq_zero_or_pos L with rfl | h2
      · omega
      · exact h2
    have hsm : s ≤ Mo i := Nat.le_of_dvd (by omega) ⟨_, by rw [Nat.mul_comm]; exact hs⟩
    have hLl : L ≤ lc Mo i := Nat.le_of_dvd hlp ⟨_, by rw [Nat.mul_comm]; exact hL⟩
    obtain ⟨Kg, hgcd⟩ := gcd_spec (Mo i) (lc Mo i)
    obtain ⟨Kr, hrgcd⟩ := Gcd_spec (Mo i) (lc Mo i)
    dsimp only at hgcd hrgcd
    -- D: the difference, made positive
    have hdv : Nat.gcd (lc Mo i) (Mo i) ∣ res (R i) (Mo i) + (Mo i - x % Mo i) := by
      refine lc_gcd (fun k hk => (h.pos k (by omega)).1) fun k hk => ?_
      have hok := hall i hi k hk
      have pk := h.pos k (by omega)
      unfold OkAt at hok
      rw [Nat.gcd_comm] at hok
      have hlt := Nat.mod_lt x (show 0 < Mo i by omega)
      apply Int.ofNat_dvd.1
      rw [Int.natCast_add, Int.natCast_sub (by omega)]
      generalize hG : Nat.gcd (Mo k) (Mo i) = G at *
      have dk : (G : Int) ∣ (Mo k : Int) := Int.ofNat_dvd.2 (hG ▸ Nat.gcd_dvd_left _ _)
      have di : (G : Int) ∣ (Mo i : Int) := Int.ofNat_dvd.2 (hG ▸ Nat.gcd_dvd_right _ _)
      have c1 : (G : Int) ∣ R i - (res (R i) (Mo i) : Int) := by
        rw [res_cast _ (by omega)]
        exact Int.dvd_trans di ⟨R i / Mo i, by have := Int.mul_ediv_add_emod (R i) (Mo i); omega⟩
      have c2 : (G : Int) ∣ R k - (x : Int) := by
        have e1 := hsol k hk
        have e2 : (R k - (x : Int)) % (Mo k : Int) = 0 := by
          apply Int.emod_eq_emod_iff_emod_sub_eq_zero.1
          rw [← res_cast (R k) (by omega), ← e1, Int.natCast_emod]
        exact Int.dvd_trans dk (Int.dvd_of_emod_eq_zero e2)
      have c3 : (G : Int) ∣ (x : Int) - ((x % Mo i : Nat) : Int) := by
        refine Int.dvd_trans di ⟨((x / Mo i : Nat) : Int), ?_⟩
        have := Nat.div_add_mod x (Mo i)
        rw [← Int.natCast_mul]
        omega
      have e : (res (R i) (Mo i) : Int) + ((Mo i : Int) - ((x % Mo i : Nat) : Int)) = (R i - R k) + (R k - (x : Int)) + ((x : Int) - ((x % Mo i : Nat) : Int)) - (R i - (res (R i) (Mo i) : Int)) + (Mo i : Int) := by omega
      rw [e]
      exact Int.dvd_add (Int.dvd_sub (Int.dvd_add (Int.dvd_add hok c2) c3) c1) di
    obtain ⟨E, hE⟩ := hdv
    have hcop : Nat.Coprime (res (L : Int) s) s := by
      rw [res_nat]
      have := Nat.coprime_div_gcd_div_gcd hg0
      rw [Nat.div_eq_of_eq_mul_right hg0 hL, Nat.div_eq_of_eq_mul_right hg0 hs] at this
      unfold Nat.Coprime at this ⊢
      rw [Nat.gcd_comm, Nat.gcd_comm s, ← Nat.gcd_rec, Nat.gcd_comm]
      exact this
    obtain ⟨v, hv1, hv2, Kv, hKv⟩ := inverse_spec (L : Int) hs0 (by omega) hcop
    dsimp only at hKv
    rw [res_nat] at hv2
    have hv3 : L * v % s = 1 % s := by rw [← hv2, Nat.mod_mul_mod]
    -- the new number
    have hmerge := merge (x := x) (l := lc Mo i) (m := Mo i) (v := v) (D := res (R i) (Mo i) + (Mo i - x % Mo i)) hlp (by omega) ⟨E, hE⟩ (by rw [Nat.div_eq_of_eq_mul_right hg0 hL, Nat.div_eq_of_eq_mul_right hg0 hs]; exact hv3)
    have huniq := fun j j' => merge_unique (x := x) (l := lc Mo i) (m := Mo i) (j := j) (j' := j') hlp (by omega)
    rw [Nat.div_eq_of_eq_mul_right hg0 hs] at hmerge huniq
    rw [Nat.div_eq_of_eq_mul_right hg0 hE] at hmerge
    have hxm := Nat.mod_lt x (show 0 < Mo i by omega)
    have hrl := res_lt (R i) (m := Mo i) (by omega)
    have hright : (x + (res (R i) (Mo i) + (Mo i - x % Mo i))) % Mo i = res (R i) (Mo i) := by
      have e1 := Nat.div_add_mod x (Mo i)
      have e2 : x + (res (R i) (Mo i) + (Mo i - x % Mo i)) = res (R i) (Mo i) + Mo i * (x / Mo i + 1) := by
        rw [Nat.mul_add, Nat.mul_one]
        omega
      rw [e2, Nat.add_mul_mod_self_left, Nat.mod_eq_of_lt hrl]
    rw [hright] at hmerge
    have htlt : E * v % s < s := Nat.mod_lt _ hs0
    have hmin : ∀ j, j < E * v % s → (x + lc Mo i * j) % Mo i ≠ res (R i) (Mo i) := fun j hj e => by
      have := huniq j (E * v % s) (by omega) htlt (by rw [e, hmerge])
      omega
    have etdivg : (((lc Mo i : Nat) : Int)).tdiv ((Nat.gcd (lc Mo i) (Mo i) : Nat) : Int) = (L : Int) := by
      rw [Int.tdiv_eq_ediv_of_nonneg (by omega), ← Int.natCast_ediv, Nat.div_eq_of_eq_mul_right hg0 hL]
    have etdivm : ((Mo i : Nat) : Int).tdiv ((Nat.gcd (lc Mo i) (Mo i) : Nat) : Int) = (s : Int) := by
      rw [Int.tdiv_eq_ediv_of_nonneg (by omega), ← Int.natCast_ediv, Nat.div_eq_of_eq_mul_right hg0 hs]
    have hb : L * Mo i ≤ 2147483647 * 3000 := Nat.mul_le_mul (by omega) (by omega)
    by_cases hbig : 2147483647 < lc Mo i * s
    · refine ⟨(0, 0, 4), ⟨Kg + 1, fun q hq => ?_⟩, ⟨Kr + 1, fun q hq => ?_⟩, Or.inl ⟨i, hi, by rw [hlc]; exact hbig, rfl⟩⟩
      · obtain ⟨j, rfl, hj⟩ := ex_succ hq
        simp only [residue_Chinese.l2]
        rw [if_pos (by omega), if_pos (by omega), if_pos (by omega), h.m i hi, hgcd j (by omega), Option.bind_some, if_neg (by omega), etdivg, wrap_id (x := (L : Int)) (by omega) (by omega), ← Int.natCast_mul, wrap_id (by omega) (by omega), if_pos (by omega)]
      · obtain ⟨j, rfl, hj⟩ := ex_succ hq
        have hdiv : 2147483647 / s < lc Mo i := (Nat.div_lt_iff_lt_mul hs0).2 hbig
        have hdl : 2147483647 / s ≤ 2147483647 := Nat.div_le_self _ _
        simp only [galoisref04_Chinese.l3]
        rw [if_pos (by omega), if_pos (by omega), h.m i hi, hrgcd j (by omega), Option.bind_some, if_neg (by omega), etdivm, wrap_id (x := (s : Int)) (by omega) (by omega), if_neg (by omega), Int.tdiv_eq_ediv_of_nonneg (by omega), show (2147483647 : Int) / (s : Int) = ((2147483647 / s : Nat) : Int) by simp, wrap_id (by have := Int.natCast_nonneg (2147483647 / s); omega) (by have := Int.ofNat_le.2 hdl; omega), if_pos (Int.ofNat_lt.2 hdiv)]
    · have hx'lt : x + lc Mo i * (E * v % s) < lc Mo (i + 1) := by
        rw [hlc]
        have e1 : lc Mo i * (E * v % s + 1) ≤ lc Mo i * s := Nat.mul_le_mul_left _ htlt
        rw [Nat.mul_add, Nat.mul_one] at e1
        omega
      obtain ⟨out, ⟨K1, o1⟩, ⟨K2, o2⟩, o3⟩ := merge_both hall d (i + 1) (x + lc Mo i * (E * v % s)) (by omega) (by rw [hlc]; omega) hx'lt (fun k hk => by
        rcases Nat.lt_or_ge k i with h2 | h2
        · rw [← hsol k h2]
          obtain ⟨u, hu⟩ := dvd_lc (Mo := Mo) h2
          rw [hu, Nat.mul_assoc, Nat.add_mul_mod_self_left]
        · obtain rfl : k = i := by omega
          exact hmerge)
      dsimp only at o1 o2
      refine ⟨out, ⟨K1 + Kg + Kv + 1, fun q hq => ?_⟩, ?_, o3⟩
      · obtain ⟨j, rfl, hj⟩ := ex_succ hq
        have e1 : (((res (R i) (Mo i) : Nat) : Int) - ((x % Mo i : Nat) : Int)).tdiv ((Nat.gcd (lc Mo i) (Mo i) : Nat) : Int) = (E : Int) - (s : Int) := by
          have e2 : ((res (R i) (Mo i) : Nat) : Int) - ((x % Mo i : Nat) : Int) = ((Nat.gcd (lc Mo i) (Mo i) : Nat) : Int) * ((E : Int) - (s : Int)) := by
            rw [Int.mul_sub, ← Int.natCast_mul, ← Int.natCast_mul, ← hE, ← hs]
            exact cast_help _ _ _ (Nat.le_of_lt hxm)
          rw [e2, Int.mul_tdiv_cancel_left _ (by omega)]
        have hEb : E ≤ 6000 := by
          have : 1 * E ≤ Nat.gcd (lc Mo i) (Mo i) * E := Nat.mul_le_mul_right _ hg0
          omega
        have e3 : ((E : Int) - (s : Int)) % (s : Int) = ((E % s : Nat) : Int) := by rw [Int.sub_emod_right, Int.natCast_emod]
        have hEs := Nat.mod_lt E hs0
        have m1 := mul_lt_w (a := ((E % s : Nat) : Int)) (b := (v : Int)) (by omega) (by omega) (by omega) (by omega)
        have e4 : Int.tmod (wrap64 (((E % s : Nat) : Int) * (v : Int))) (s : Int) = ((E * v % s : Nat) : Int) := by
          rw [wrap_id (by omega) (by omega), Int.tmod_eq_emod_of_nonneg m1.1, ← Int.natCast_mul, ← Int.natCast_emod, Nat.mul_mod, Nat.mod_mod, ← Nat.mul_mod]
        have hlt2 : lc Mo i * (E * v % s) ≤ 2147483647 := by
          have := Nat.mul_le_mul_left (lc Mo i) (Nat.le_of_lt htlt)
          omega
        have o1j := o1 j (by omega)
        rw [hlc] at o1j
        simp only [residue_Chinese.l2]
        rw [if_pos (by omega), if_pos (by omega), if_pos (by omega), h.m i hi, hgcd j (by omega), Option.bind_some, if_neg (by omega), etdivg, wrap_id (x := (L : Int)) (by omega) (by omega), ← Int.natCast_mul, wrap_id (x := ((L * Mo i : Nat) : Int)) (by omega) (by omega), if_neg (by omega), if_pos (by omega), h.r i hi, mod_nat (by omega) (by omega), Option.bind_some, mod_nat (by omega) (by omega), Option.bind_some, res_nat, wrap_id (x := ((res (R i) (Mo i) : Nat) : Int) - ((x % Mo i : Nat) : Int)) (by omega) (by omega), e1, wrap_id (x := (E : Int) - (s : Int)) (by omega) (by omega), etdivm, wrap_id (x := (s : Int)) (by omega) (by omega), mod_spec (by omega) (by omega), Option.bind_some, e3, hKv j (by omega), Option.bind_some, if_neg (by omega), e4, ← Int.natCast_mul, wrap_id (x := ((lc Mo i * (E * v % s) : Nat) : Int)) (by omega) (by omega), ← Int.natCast_add, wrap_id (by omega) (by omega), hlc2, wrap_id (by omega) (by omega)]
        exact o1j
      · have hnot : ¬ 2147483647 / s < lc Mo i := fun hlt => hbig ((Nat.div_lt_iff_lt_mul hs0).1 hlt)
        have hdl : 2147483647 / s ≤ 2147483647 := Nat.div_le_self _ _
        have o2' : Ev (fun q => galoisref04_Chinese.l3 q l0 l1 ((x + lc Mo i * (E * v % s) : Nat) : Int) (wrap64 ((lc Mo i : Int) * (s : Int))) (wrap64 ((i : Int) + 1))) out := by
          rw [← Int.natCast_mul, wrap_id (x := ((lc Mo i * s : Nat) : Int)) (by omega) (by omega), ← hlc, wrap_id (by omega) (by omega)]
          exact ⟨K2, o2⟩
        obtain ⟨K3, o4⟩ := ref_search h i hi (lc Mo i) 0 hM out (x + lc Mo i * (E * v % s)) s (by omega) (by omega) hmerge o2' (E * v % s) x rfl hmin
        dsimp only at o4
        refine ⟨K3 + Kr + 1, fun q hq => ?_⟩
        obtain ⟨j, rfl, hj⟩ := ex_succ hq
        simp only [galoisref04_Chinese.l3]
        rw [if_pos (by omega), if_pos (by omega), h.m i hi, hrgcd j (by omega), Option.bind_some, if_neg (by omega), etdivm, wrap_id (x := (s : Int)) (by omega) (by omega), if_neg (by omega), Int.tdiv_eq_ediv_of_nonneg (by omega), show (2147483647 : Int) / (s : Int) = ((2147483647 / s : Nat) : Int) by simp, wrap_id (by have := Int.natCast_nonneg (2147483647 / s); omega) (by have := Int.ofNat_le.2 hdl; omega), if_neg (fun e => hnot (Int.ofNat_lt.1 e))]
        exact o4 j (by omega)
end
end Go.Proofs.Ytmedflaejnbkoaa.Q

/- The program's Chinese and the reference's agree, for lists without moduli beyond 3000. No conditions. -/
import Derived.Test.YtmedflaejnbkoaaS8
import Derived.Test.YtmedflaejnbkoaaQG1
import Derived.Test.YtmedflaejnbkoaaQF23
namespace Go.Proofs.Ytmedflaejnbkoaa.Q
open Go.RowKit Go.Proofs.YtmedflaejnbkoaaW.PrintWords Go.Proofs.YtmedflaejnbkoaaW.PrintLast Go.Proofs.YtmedflaejnbkoaaW.PrintMore Go.Proofs.Ytmedflaejnbkoaa.M
set_option linter.unusedVariables false
set_option linter.unusedSimpArgs false

theorem rd_mem {l : List Int} {i : Nat} (h : i < l.length) : rd l (i : Int) ∈ l := by
  unfold rd
  rw [Int.toNat_natCast, List.getD_eq_getElem?_getD, List.getElem?_eq_getElem h]
  exact List.getElem_mem h
theorem mem_rd {l : List Int} {x : Int} (h : x ∈ l) : ∃ i : Nat, i < l.length ∧ rd l (i : Int) = x := by
  obtain ⟨i, hi, e⟩ := List.mem_iff_getElem.1 h
  refine ⟨i, hi, ?_⟩
  unfold rd
  rw [Int.toNat_natCast, List.getD_eq_getElem?_getD, List.getElem?_eq_getElem hi]
  exact e
theorem sys_of {l0 l1 : List Int} {n : Nat} (h0 : l0.length = n) (h1 : l1.length = n) (hn : n ≤ 256) (h : ∀ x ∈ l1, 1 ≤ x ∧ x ≤ 3000) : Sys l0 l1 (fun i => rd l0 (i : Int)) (fun i => (rd l1 (i : Int)).toNat) n :=
  ⟨h0, h1, hn, fun _ _ => rfl, fun i hi => by have := h _ (rd_mem (l := l1) (i := i) (by omega)); omega, fun i hi => by have := h _ (rd_mem (l := l1) (i := i) (by omega)); omega⟩
theorem bad_all {l : List Int} (h : ∀ x ∈ l, 1 ≤ x ∧ x ≤ 2147483647) : residue_bad.f l = some false := by
  simp only [residue_bad.f]
  congr 1
  rw [List.any_eq_false]
  intro x hx
  have := h x hx
  simp [badP]
  omega
theorem bad_some {l : List Int} (h : ∃ x ∈ l, ¬ (1 ≤ x ∧ x ≤ 2147483647)) : residue_bad.f l = some true := by
  simp only [residue_bad.f]
  congr 1
  rw [List.any_eq_true]
  obtain ⟨x, hx, hb⟩ := h
  refine ⟨x, hx, ?_⟩
  simp [badP]
  omega
theorem ref_moduli {l0 l1 : List Int} {n : Nat} (h1 : l1.length = n) (hn : n ≤ 256) (r : Int × Int × Int) : ∀ d i, i + d = n → ((∀ j, i ≤ j → j < n → 1 ≤ rd l1 (j : Int) ∧ rd l1 (j : Int) ≤ 2147483647) → Ev (fun q => galoisref04_Chinese.l1 q l0 l1 0) r) → ((∃ j, i ≤ j ∧ j < n ∧ ¬ (1 ≤ rd l1 (j : Int) ∧ rd l1 (j : Int) ≤ 2147483647)) → r = (0, 0, 3)) → Ev (fun q => galoisref04_Chinese.l0 q l0 l1 (i : Int)) r
  | 0, i, hi, hok, _ => by
    obtain ⟨K, hK⟩ := hok fun j h1 h2 => by omega
    dsimp only at hK
    refine ⟨K + 1, fun q hq => ?_⟩
    obtain ⟨j, rfl, hj⟩ := ex_succ hq
    simp only [galoisref04_Chinese.l0]
    rw [if_neg (by omega)]
    exact hK j hj
  | d + 1, i, hi, hok, hbad => by
    by_cases hc : 1 ≤ rd l1 (i : Int) ∧ rd l1 (i : Int) ≤ 2147483647
    · obtain ⟨K, hK⟩ := ref_moduli h1 hn r d (i + 1) (by omega) (fun hall => hok fun j hj1 hj2 => by
        rcases Nat.lt_or_ge i j with h3 | h3
        · exact hall j h3 hj2
        · obtain rfl : j = i := by omega
          exact hc) (fun ⟨j, hj1, hj2, hj3⟩ => hbad ⟨j, by omega, hj2, hj3⟩)
      dsimp only at hK
      refine ⟨K + 1, fun q hq => ?_⟩
      obtain ⟨j, rfl, hj⟩ := ex_succ hq
      simp only [galoisref04_Chinese.l0]
      rw [if_pos (by omega), if_pos (by omega), isMod_spec, Option.bind_some, decide_eq_true hc, if_pos rfl, wrap_id (by omega) (by omega)]
      exact hK j hj
    · refine ⟨1, fun q hq => ?_⟩
      obtain ⟨j, rfl, hj⟩ := ex_succ hq
      simp only [galoisref04_Chinese.l0]
      rw [if_pos (by omega), if_pos (by omega), isMod_spec, Option.bind_some, decide_eq_false hc, if_neg (by simp), hbad ⟨i, Nat.le_refl _, by omega, hc⟩]
theorem chinese_both (l0 l1 : List Int) (hsmall : ∀ x ∈ l1, x ≤ 3000 ∨ 2147483647 < x) : ∃ out : Int × Int × Int, Ev (fun q => residue_Chinese.f q l0 l1) out ∧ Ev (fun q => galoisref04_Chinese.f q l0 l1) out := by
  by_cases hlen : (l0.length : Int) = (l1.length : Int)
  · by_cases hmany : (l0.length : Int) > 256
    · refine ⟨(0, 0, 5), ⟨0, fun q _ => ?_⟩, ⟨0, fun q _ => ?_⟩⟩
      · simp only [residue_Chinese.f]
        rw [if_pos hlen, if_pos hmany]
      · simp only [galoisref04_Chinese.f]
        rw [if_pos hlen, if_pos hmany]
    · by_cases hmod : ∀ x ∈ l1, 1 ≤ x ∧ x ≤ 2147483647
      · have hs := sys_of (l0 := l0) (l1 := l1) (n := l1.length) (by omega) rfl (by omega) fun x hx => by
          have := hmod x hx
          rcases hsmall x hx with h | h
          · omega
          · omega
        have finish : ∀ out, Ev (fun q => residue_Chinese.l0 q l0 l1 (l1.length : Int) ((0 : Nat) : Int)) out → Ev (fun q => galoisref04_Chinese.l1 q l0 l1 ((0 : Nat) : Int)) out → ∃ out : Int × Int × Int, Ev (fun q => residue_Chinese.f q l0 l1) out ∧ Ev (fun q => galoisref04_Chinese.f q l0 l1) out := by
          rintro out ⟨K1, h1⟩ h2
          dsimp only at h1
          obtain ⟨K2, h2⟩ := ref_moduli (l0 := l0) (l1 := l1) rfl (by omega) out l1.length 0 (by omega) (fun _ => h2) (fun ⟨j, _, hj, hb⟩ => absurd (hmod _ (rd_mem hj)) hb)
          dsimp only at h2
          refine ⟨out, ⟨K1, fun q hq => ?_⟩, ⟨K2, fun q hq => ?_⟩⟩
          · simp only [residue_Chinese.f]
            rw [if_pos hlen, if_neg hmany, bad_all hmod, Option.bind_some, if_neg (by simp)]
            exact h1 q hq
          · simp only [galoisref04_Chinese.f]
            rw [if_pos hlen, if_neg hmany]
            exact h2 q hq
        by_cases hcons : ∀ i, i < l1.length → ∀ k, k < i → OkAt (fun i => rd l0 (i : Int)) (fun i => (rd l1 (i : Int)).toNat) i k
        · obtain ⟨out, o1, o2, _⟩ := merge_both hs hcons l1.length 0 0 (by omega) (by rw [lc]; omega) (by rw [lc]; omega) (fun k hk => by omega)
          exact finish out (prog_check hs out l1.length 0 (by omega) (fun _ => o1) (fun ⟨i', k, _, h2, h3, h4⟩ => absurd (hcons i' h2 k h3) h4)) (ref_check hs out l1.length 0 (by omega) (fun _ => o2) (fun ⟨i', k, _, h2, h3, h4⟩ => absurd (hcons i' h2 k h3) h4))
        · exact finish (0, 0, 10) (prog_check hs _ l1.length 0 (by omega) (fun h => absurd (fun i hi k hk => h i (by omega) hi k hk) hcons) (fun _ => rfl)) (ref_check hs _ l1.length 0 (by omega) (fun h => absurd (fun i hi k hk => h i (by omega) hi k hk) hcons) (fun _ => rfl))
      · have hbad : ∃ x ∈ l1, ¬ (1 ≤ x ∧ x ≤ 2147483647) := by
          apply Classical.byContradiction
          intro h
          apply hmod
          intro x hx
          apply Classical.byContradiction
          intro h2
          exact h ⟨x, hx, h2⟩
        obtain ⟨K2, h2⟩ := ref_moduli (l0 := l0) (l1 := l1) rfl (by omega) (0, 0, 3) l1.length 0 (by omega) (fun hall => by
          obtain ⟨x, hx, hb⟩ := hbad
          obtain ⟨i, hi, e⟩ := mem_rd hx
          have := hall i (by omega) hi
          rw [e] at this
          exact absurd this hb) (fun _ => rfl)
        dsimp only at h2
        refine ⟨(0, 0, 3), ⟨0, fun q _ => ?_⟩, ⟨K2, fun q hq => ?_⟩⟩
        · simp only [residue_Chinese.f]
          rw [if_pos hlen, if_neg hmany, bad_some hbad, Option.bind_some, if_pos rfl]
        · simp only [galoisref04_Chinese.f]
          rw [if_pos hlen, if_neg hmany]
          exact h2 q hq
  · refine ⟨(0, 0, 2), ⟨0, fun q _ => ?_⟩, ⟨0, fun q _ => ?_⟩⟩
    · simp only [residue_Chinese.f]
      rw [if_neg hlen]
    · simp only [galoisref04_Chinese.f]
      rw [if_neg hlen]
end Go.Proofs.Ytmedflaejnbkoaa.Q

/- Machine side and arithmetic of the law, put together by a program of the session. No conditions. -/
import Derived.WalkKit
import Derived.WalkSmall
import Derived.KernelRfl
import Derived.Test.YtalnaafmonmlmaaKSquares6
import Derived.Test.YtalnaafmonmlmaaKSquares9
import Derived.Test.YtalnaafmonmlmaaKSquares10
import Derived.Test.YtalnaafmonmlmaaKSquares11
section
namespace Go.Proofs.Ytalnaafmonmlmaa.Q
open Go.RowKit Go.Proofs.YtalnaafmonmlmaaW.PrintWords Go.Proofs.YtalnaafmonmlmaaW.PrintLast Go.Proofs.YtalnaafmonmlmaaW.PrintMore
set_option maxRecDepth 100000 in
theorem awake_ge (k : Nat) : galoislaw15_awake.f (k + 60) = some true := by kernel_rfl
theorem awake_ev : Ev galoislaw15_awake.f true := ⟨60, fun k hk => by
  obtain ⟨j, rfl⟩ : ∃ j, k = j + 60 := ⟨k - 60, by omega⟩
  exact awake_ge j⟩
end Go.Proofs.Ytalnaafmonmlmaa.Q
end
section
namespace Go.Proofs.Ytalnaafmonmlmaa.Q
open Go.RowKit Go.Proofs.YtalnaafmonmlmaaW.PrintWords Go.Proofs.YtalnaafmonmlmaaW.PrintLast Go.Proofs.YtalnaafmonmlmaaW.PrintMore Go.Proofs.Ytalnaafmonmlmaa.M Go.Proofs.Ytalnaafmonmlmaa.M.ZX
set_option linter.unusedVariables false
set_option linter.unusedSimpArgs false
def lexc : List Int → List Int → Int
  | a :: l, b :: m => if a = b then lexc l m else if a < b then -1 else 1
  | _, _ => 0
def cmpL (l m : List Int) : Int := if l.length = m.length then lexc l m else if l.length < m.length then -1 else 1
theorem cmp_int (a b : Int) : cmp_Compare_int.f a b = some (if a < b then -1 else if a > b then 1 else 0) := by
  simp only [cmp_Compare_int.f, cmp_isNaN_int.f]
  rw [bne_self_eq_false, bne_self_eq_false, Option.bind_some, Option.bind_some, if_neg (by simp), if_neg (by simp)]
  split
  · rfl
  · split <;> rfl
theorem cmp_loop (l m : List Int) (h : l.length = m.length) (hl : l.length ≤ 1000000) : ∀ (d i : Nat), i + d = l.length → Ev (fun k => api_ModPoly_int_93.l0 k l m l (l.length : Int) i) (lexc (l.drop i) (m.drop i)) := by
  intro d
  induction d with
  | zero =>
    intro i hi
    refine ⟨1, fun k hk => ?_⟩
    obtain ⟨k', rfl, hk'⟩ := ex_succ hk
    simp only [api_ModPoly_int_93.l0]
    rw [if_neg (by omega), if_neg (by omega), List.drop_of_length_le (by omega)]
    rfl
  | succ d ih =>
    intro i hi
    obtain ⟨K, hK⟩ := ih (i + 1) (by omega)
    dsimp only at hK
    have e1 : l.drop i = l.getD i 0 :: l.drop (i + 1) := by rw [List.drop_eq_getElem_cons (by omega), List.getD_eq_getElem?_getD, List.getElem?_eq_getElem (by omega)]; rfl
    have e2 : m.drop i = m.getD i 0 :: m.drop (i + 1) := by rw [List.drop_eq_getElem_cons (by omega), List.getD_eq_getElem?_getD, List.getElem?_eq_getElem (by omega)]; rfl
    rw [e1, e2]
    refine ⟨K + 1, fun k hk => ?_⟩
    obtain ⟨k', rfl, hk'⟩ := ex_succ hk
    simp only [api_ModPoly_int_93.l0]
    rw [if_pos (by omega), if_pos (by omega), if_pos (by omega), if_neg (by omega), if_pos (by omega), cmp_int, Option.bind_some, rd_nat, rd_nat, succ_wrap (by omega)]
    unfold lexc
    by_cases h1 : l.getD i 0 = m.getD i 0
    · have ev : (if l.getD i 0 < m.getD i 0 then (-1 : Int) else if l.getD i 0 > m.getD i 0 then 1 else 0) = 0 := by rw [if_neg (by omega), if_neg (by omega)]
      rw [ev, if_pos rfl, if_pos h1]
      exact hK k' hk'
    · rw [if_neg h1]
      by_cases h2 : l.getD i 0 < m.getD i 0
      · have ev : (if l.getD i 0 < m.getD i 0 then (-1 : Int) else if l.getD i 0 > m.getD i 0 then 1 else 0) = -1 := by rw [if_pos h2]
        rw [ev, if_neg (by decide), if_pos h2]
      · have ev : (if l.getD i 0 < m.getD i 0 then (-1 : Int) else if l.getD i 0 > m.getD i 0 then 1 else 0) = 1 := by rw [if_neg h2, if_pos (by omega)]
        rw [ev, if_neg (by decide), if_neg h2]
theorem Compare_ok (l m : List Int) (hl : l.length ≤ 1000000) : Ev (fun k => polymod_Compare.f k l m) (cmpL l m) := by
  unfold cmpL
  by_cases h : l.length = m.length
  · obtain ⟨K, hK⟩ := cmp_loop l m h hl l.length 0 (by omega)
    dsimp only at hK
    rw [List.drop_zero, List.drop_zero] at hK
    refine ⟨K, fun k hk => ?_⟩
    simp only [polymod_Compare.f, api_ModPoly_int_93.f]
    rw [if_pos (by omega), if_pos h, show (0 : Int) = ((0 : Nat) : Int) from rfl, hK k hk, Option.bind_some]
  · refine ⟨0, fun k hk => ?_⟩
    simp only [polymod_Compare.f]
    rw [if_neg (by omega), if_neg h]
    by_cases h2 : l.length < m.length
    · rw [if_pos (by omega), if_pos h2]
    · rw [if_neg (by omega), if_neg h2]
theorem shl_one {e : Nat} (h : e < 32) : shl .i64 1 (e : Int) = ((2 ^ e : Nat) : Int) := by
  have : ∀ e : Fin 32, shl .i64 1 ((e.val : Nat) : Int) = ((2 ^ e.val : Nat) : Int) := by decide
  exact this ⟨e, h⟩
theorem least_of {R : Nat → Prop} : ∀ N, R N → ∃ k, k ≤ N ∧ R k ∧ ∀ j, j < k → ¬ R j := by
  intro N
  induction N using Nat.strongRecOn with
  | _ N ih =>
    intro hN
    by_cases h : ∃ j, j < N ∧ R j
    · obtain ⟨j, hj, hR⟩ := h
      obtain ⟨k, h1, h2, h3⟩ := ih j hj hR
      exact ⟨k, by omega, h2, h3⟩
    · exact ⟨N, Nat.le_refl _, hN, fun j hj hR => h ⟨j, hj, hR⟩⟩
theorem odd_part : ∀ (n : Nat) (s : Nat), 1 ≤ n → n ≤ 2147483647 → s + n ≤ 4294967296 → ∃ o t : Nat, o % 2 = 1 ∧ n = o * 2 ^ t ∧ Ev (fun k => finitefield_root.odd k (n : Int) (s : Int)) ((o : Int), ((s + t : Nat) : Int)) := by
  intro n
  induction n using Nat.strongRecOn with
  | _ n ih =>
    intro s h1 hn hs
    by_cases h : n % 2 = 0
    · obtain ⟨o, t, ho, e, K, hK⟩ := ih (n / 2) (by omega) (s + 1) (by omega) (by omega) (by omega)
      dsimp only at hK
      refine ⟨o, t + 1, ho, by rw [Nat.pow_succ, ← Nat.mul_assoc, ← e]; omega, K + 1, fun k hk => ?_⟩
      obtain ⟨k', rfl, hk'⟩ := ex_succ hk
      simp only [finitefield_root.odd]
      rw [show Int.tmod (n : Int) 2 = ((n % 2 : Nat) : Int) from rfl, if_pos (by omega), show Int.tdiv (n : Int) 2 = ((n / 2 : Nat) : Int) from rfl, wrap_nat (by omega), show (s : Int) + 1 = ((s + 1 : Nat) : Int) from rfl, wrap_nat (by omega), hK k' hk', show s + 1 + t = s + (t + 1) by omega]
    · refine ⟨n, 0, by omega, by simp, 1, fun k hk => ?_⟩
      obtain ⟨k', rfl, hk'⟩ := ex_succ hk
      simp only [finitefield_root.odd]
      rw [show Int.tmod (n : Int) 2 = ((n % 2 : Nat) : Int) from rfl, if_neg (by omega)]
      rfl
section
variable {q : Nat} {f : List Int} (hF : Fld q f)
include hF
theorem l1_loop {x t c : List Int} {X T : ZX} (s k : Nat) (hk : k ≤ 100) (ht : El q f t T) (hmin : ∀ j, j < k → ¬ Cg q (P f) (T ^ 2 ^ j) 1) (r : List Int)
    (H : ∀ u, El q f u (T ^ 2 ^ k) → Ev (fun n => finitefield_rootTail.l1 n s x t c k u q f) r) : ∀ (d j : Nat) (u : List Int), j + d = k → El q f u (T ^ 2 ^ j) → Ev (fun n => finitefield_rootTail.l1 n s x t c j u q f) r := by
  intro d
  induction d with
  | zero =>
    intro j u hj hu
    have e : j = k := by omega
    subst e
    exact H u hu
  | succ d ih =>
    intro j u hj hu
    obtain ⟨v, hv, K1, h1⟩ := gf_Mul_ok hF hu hu
    obtain ⟨K2, h2⟩ := ih (j + 1) v (by omega) ⟨hv.1, hv.2.1, hv.2.2.trans (Cg.of_eq (two_pow_succ T j).symm)⟩
    have hne : u ≠ [1] := fun e => hmin j (by omega) ((hu.one_iff hF).1 e)
    dsimp only at h1 h2
    refine ⟨K1 + K2 + 1, fun n hn => ?_⟩
    obtain ⟨n', rfl, hn'⟩ := ex_succ hn
    simp only [finitefield_rootTail.l1]
    rw [gf_IsOne_ok, decide_eq_false hne, Option.bind_some, if_neg (by simp), h1 n' (by omega), Option.bind_some, show (j : Int) + 1 = ((j + 1 : Nat) : Int) from rfl, wrap_nat (by omega)]
    exact h2 n' (by omega)
theorem tonelli {A : ZX} : ∀ (s : Nat) (x t c : List Int) (X T Cc : ZX), s ≤ 31 → 1 ≤ s → El q f x X → El q f t T → El q f c Cc → Cg q (P f) (X * X) (A * T) → Cg q (P f) (T ^ 2 ^ (s - 1)) 1 → Cg q (P f) (Cc ^ 2 ^ (s - 1)) (-1) →
    ∃ r R, El q f r R ∧ Cg q (P f) (R * R) A ∧ Ev (fun k => finitefield_rootTail.l0 k s x t c q f) r := by
  intro s
  induction s using Nat.strongRecOn with
  | _ s ih =>
    intro x t c X T Cc hs hs1 hx ht hc h1 h2 h3
    by_cases ho : t = [1]
    · have hT := (ht.one_iff hF).1 ho
      refine ⟨x, X, hx, h1.trans (((Cg.refl A).mul hT).trans (Cg.of_eq (ZX.ext fun x => by (try simp only [ZX.add_v, ZX.mul_v, ZX.sub_v, ZX.neg_v, ZX.zero_v, ZX.one_v, ZX.C_v, ZX.X_v, ZX.pow_v]) <;> grind))), 1, fun k hk => ?_⟩
      obtain ⟨k', rfl, hk'⟩ := ex_succ hk
      simp only [finitefield_rootTail.l0]
      rw [gf_IsOne_ok, decide_eq_true ho, Option.bind_some, if_pos rfl]
    · obtain ⟨k, hk, hk1, hk2⟩ := least_of (R := fun j => Cg q (P f) (T ^ 2 ^ j) 1) (s - 1) h2
      have hk0 : 1 ≤ k := by
        by_cases h0 : k = 0
        · subst h0
          exact absurd ((ht.one_iff hF).2 (by simpa [pow_one] using hk1)) ho
        · omega
      have ht0 : El q f t (T ^ 2 ^ 0) := by rw [Nat.pow_zero, pow_one]; exact ht
      obtain ⟨e, he⟩ : ∃ e, s - k - 1 = e := ⟨_, rfl⟩
      have e2 : 2 ^ e ≤ 2 ^ 31 := Nat.pow_le_pow_right (by omega) (by omega)
      obtain ⟨b, hb, K1, g1⟩ := gf_Pow_ok hF hc (e := 2 ^ e) (by omega)
      obtain ⟨bb, hbb, K2, g2⟩ := gf_Mul_ok hF hb hb
      obtain ⟨xb, hxb, K3, g3⟩ := gf_Mul_ok hF hx hb
      obtain ⟨tb, htb, K4, g4⟩ := gf_Mul_ok hF ht hbb
      have ebb : Cc ^ 2 ^ e * Cc ^ 2 ^ e = Cc ^ 2 ^ (e + 1) := (two_pow_succ Cc e).symm
      have hck : Cg q (P f) ((Cc ^ 2 ^ e * Cc ^ 2 ^ e) ^ 2 ^ (k - 1)) (-1) := by
        rw [ebb, ← pow_mul, ← Nat.pow_add, show e + 1 + (k - 1) = s - 1 by omega]
        exact h3
      have htk : Cg q (P f) (T ^ 2 ^ (k - 1)) (-1) := by
        have hsq : Cg q (P f) (T ^ 2 ^ (k - 1) * T ^ 2 ^ (k - 1)) 1 := by
          rw [← two_pow_succ, show k - 1 + 1 = k by omega]
          exact hk1
        rcases dom_sq_one hF.dom hsq with h | h
        · exact absurd h (hk2 (k - 1) (by omega))
        · exact h
      obtain ⟨r, R, hr, hR, K5, g5⟩ := ih k (by omega) xb tb bb (X * Cc ^ 2 ^ e) (T * (Cc ^ 2 ^ e * Cc ^ 2 ^ e)) (Cc ^ 2 ^ e * Cc ^ 2 ^ e) (by omega) hk0 hxb htb hbb
        (by
          refine Cg.trans (Cg.of_eq ((ZX.ext fun x => by (try simp only [ZX.add_v, ZX.mul_v, ZX.sub_v, ZX.neg_v, ZX.zero_v, ZX.one_v, ZX.C_v, ZX.X_v, ZX.pow_v]) <;> grind) : (X * Cc ^ 2 ^ e) * (X * Cc ^ 2 ^ e) = (X * X) * (Cc ^ 2 ^ e * Cc ^ 2 ^ e))) ((h1.mul (Cg.refl _)).trans (Cg.of_eq (ZX.ext fun x => by (try simp only [ZX.add_v, ZX.mul_v, ZX.sub_v, ZX.neg_v, ZX.zero_v, ZX.one_v, ZX.C_v, ZX.X_v, ZX.pow_v]) <;> grind))))
        (by
          rw [mul_pow]
          exact (htk.mul hck).trans (Cg.of_eq (ZX.ext fun x => by (try simp only [ZX.add_v, ZX.mul_v, ZX.sub_v, ZX.neg_v, ZX.zero_v, ZX.one_v, ZX.C_v, ZX.X_v, ZX.pow_v]) <;> grind))) hck
      have hl1 : ∀ u, El q f u (T ^ 2 ^ k) → Ev (fun n => finitefield_rootTail.l1 n s x t c k u q f) r := fun u hu => by
        have hu1 : u = [1] := (hu.one_iff hF).2 hk1
        dsimp only at g1 g2 g3 g4 g5
        refine ⟨K1 + K2 + K3 + K4 + K5 + 1, fun n hn => ?_⟩
        obtain ⟨n', rfl, hn'⟩ := ex_succ hn
        simp only [finitefield_rootTail.l1]
        have ew : wrap64 (wrap64 ((s : Int) - (k : Int)) - 1) = ((e : Nat) : Int) := by
          rw [show (s : Int) - (k : Int) = ((s - k : Nat) : Int) by omega, wrap_nat (by omega), show ((s - k : Nat) : Int) - 1 = ((e : Nat) : Int) by omega, wrap_nat (by omega)]
        rw [gf_IsOne_ok, decide_eq_true hu1, Option.bind_some, if_pos rfl, ew, if_pos (by omega), shl_one (by omega), g1 n' (by omega), Option.bind_some, g2 n' (by omega), Option.bind_some, g3 n' (by omega), Option.bind_some, g4 n' (by omega), Option.bind_some]
        exact g5 n' (by omega)
      obtain ⟨K6, g6⟩ := l1_loop hF (X := X) s k (by omega) ht hk2 r hl1 k 0 t (by omega) ht0
      dsimp only at g6
      refine ⟨r, R, hr, hR, K6 + 1, fun n hn => ?_⟩
      obtain ⟨n', rfl, hn'⟩ := ex_succ hn
      simp only [finitefield_rootTail.l0]
      rw [gf_IsOne_ok, decide_eq_false ho, Option.bind_some, if_neg (by simp)]
      exact g6 n' (by omega)
theorem nonsquare_loop (hQ : Qn q f ≤ 2147483647) {m : Nat} (hm : 2 * m = Qn q f - 1) {n0 : Nat} (hn0 : n0 < Qn q f) (h0 : ¬ n0 = 0) (hns : ¬ Cg q (P f) (P (dg q n0) ^ m) 1) : ∀ (d i : Nat) (z : List Int), i + d = n0 →
    ∃ y Y, El q f y Y ∧ Cg q (P f) (Y ^ m) (-1) ∧ ∃ K, ∀ kk k, K ≤ kk → K ≤ k → finitefield_root.l0 kk k q f (Qn q f : Int) i z = some y := by
  intro d
  induction d with
  | zero =>
    intro i z hi
    have e : i = n0 := by omega
    subst e
    have hel := dg_el hF hn0
    have hne : dg q i ≠ [] := fun e => h0 ((dg_zero_iff hF.prm hF.nl hF.two hn0).1 ((hel.nil_iff hF).1 e))
    have hlen : 0 < (dg q i).length := List.length_pos_iff.2 hne
    obtain ⟨K1, h1⟩ := gf_Element_ok hF (m := i) (by omega)
    obtain ⟨t, ht, K2, h2⟩ := gf_Pow_ok hF hel (e := m) (by omega)
    have hE := euler hF.prm hF.nl hF.two hF.dom (a := P (dg q i)) (fun h => hne ((hel.nil_iff hF).2 h)) hm
    have ht1 : t ≠ [1] := fun e => hns ((ht.one_iff hF).1 e)
    dsimp only at h1 h2
    refine ⟨dg q i, P (dg q i), hel, hE.resolve_left hns, K1 + K2 + 1, fun kk k hkk hk => ?_⟩
    obtain ⟨k', rfl, hk'⟩ := ex_succ hk
    simp only [finitefield_root.l0]
    have ew : wrap64 (Int.tdiv (wrap64 ((Qn q f : Int) - 1)) 2) = (m : Int) := by
      rw [show (Qn q f : Int) - 1 = ((Qn q f - 1 : Nat) : Int) by omega, wrap_nat (by omega), show Int.tdiv ((Qn q f - 1 : Nat) : Int) 2 = (((Qn q f - 1) / 2 : Nat) : Int) from rfl, show (Qn q f - 1) / 2 = m by omega, wrap_nat (by omega)]
    rw [if_pos (by omega), h1 kk (by omega), Option.bind_some, if_pos (by omega), ew, h2 kk (by omega), Option.bind_some, gf_IsOne_ok, decide_eq_false ht1, Option.bind_some, if_neg (by simp)]
  | succ d ih =>
    intro i z hi
    have hil : i < Qn q f := by omega
    have hel := dg_el hF hil
    obtain ⟨K1, h1⟩ := gf_Element_ok hF (m := i) (by omega)
    obtain ⟨t, ht, K2, h2⟩ := gf_Pow_ok hF hel (e := m) (by omega)
    dsimp only at h1 h2
    have ew : wrap64 (Int.tdiv (wrap64 ((Qn q f : Int) - 1)) 2) = (m : Int) := by
      rw [show (Qn q f : Int) - 1 = ((Qn q f - 1 : Nat) : Int) by omega, wrap_nat (by omega), show Int.tdiv ((Qn q f - 1 : Nat) : Int) 2 = (((Qn q f - 1) / 2 : Nat) : Int) from rfl, show (Qn q f - 1) / 2 = m by omega, wrap_nat (by omega)]
    obtain ⟨y, Y, hy, hY, K3, h3⟩ := ih (i + 1) (dg q i) (by omega)
    by_cases hne : dg q i = []
    · refine ⟨y, Y, hy, hY, K1 + K3 + 1, fun kk k hkk hk => ?_⟩
      obtain ⟨k', rfl, hk'⟩ := ex_succ hk
      simp only [finitefield_root.l0]
      rw [if_pos (by omega), h1 kk (by omega), Option.bind_some, if_neg (by rw [hne]; simp)]
      exact h3 kk k' (by omega) (by omega)
    · have hlen : 0 < (dg q i).length := List.length_pos_iff.2 hne
      by_cases ht1 : t = [1]
      · refine ⟨y, Y, hy, hY, K1 + K2 + K3 + 1, fun kk k hkk hk => ?_⟩
        obtain ⟨k', rfl, hk'⟩ := ex_succ hk
        simp only [finitefield_root.l0]
        rw [if_pos (by omega), h1 kk (by omega), Option.bind_some, if_pos (by omega), ew, h2 kk (by omega), Option.bind_some, gf_IsOne_ok, decide_eq_true ht1, Option.bind_some, if_pos rfl]
        exact h3 kk k' (by omega) (by omega)
      · have hE := euler hF.prm hF.nl hF.two hF.dom (a := P (dg q i)) (fun h => hne ((hel.nil_iff hF).2 h)) hm
        refine ⟨dg q i, P (dg q i), hel, hE.resolve_left (fun h => ht1 ((ht.one_iff hF).2 h)), K1 + K2 + 1, fun kk k hkk hk => ?_⟩
        obtain ⟨k', rfl, hk'⟩ := ex_succ hk
        simp only [finitefield_root.l0]
        rw [if_pos (by omega), h1 kk (by omega), Option.bind_some, if_pos (by omega), ew, h2 kk (by omega), Option.bind_some, gf_IsOne_ok, decide_eq_false ht1, Option.bind_some, if_neg (by simp)]
theorem odd_Q (h3 : q ≠ 2) : Qn q f % 2 = 1 := by
  have h2 : q % 2 = 1 := by
    by_cases h : q % 2 = 1
    · exact h
    · exfalso
      have hd : 2 ∣ q := by omega
      have := hF.prm.2 2 hd
      omega
  show q ^ (f.length - 1) % 2 = 1
  rw [Nat.pow_mod, h2, Nat.one_pow]
theorem half_ok (h3 : q ≠ 2) : ∃ m, 2 * m = Qn q f - 1 ∧ 0 < m := by
  have := odd_Q hF h3
  have := Qn_pos hF
  exact ⟨(Qn q f - 1) / 2, by omega, by omega⟩
theorem root_ok (hQ : Qn q f ≤ 2147483647) (h3 : q ≠ 2) {m : Nat} (hm : 2 * m = Qn q f - 1) {a : List Int} {A : ZX} (ha : El q f a A) (hA : Cg q (P f) (A ^ m) 1) :
    ∃ r R, El q f r R ∧ Cg q (P f) (R * R) A ∧ Ev (fun k => finitefield_root.f k q f a (Qn q f : Int)) r := by
  have hpos := Qn_pos hF
  have hodd := odd_Q hF h3
  have hm0 : 0 < m := by omega
  obtain ⟨o, s, ho, es, K1, h1⟩ := odd_part (Qn q f - 1) 0 (by omega) (by omega) (by omega)
  have hs1 : 1 ≤ s := by
    by_cases h : s = 0
    · subst h; rw [Nat.pow_zero, Nat.mul_one] at es; omega
    · omega
  have hs : s ≤ 31 := by
    by_cases h : s ≤ 31
    · exact h
    · exfalso
      have h5 : 2 ^ 32 ≤ 2 ^ s := Nat.pow_le_pow_right (by omega) (by omega)
      have h6 : 1 * 2 ^ s ≤ o * 2 ^ s := Nat.mul_le_mul_right _ (by omega)
      omega
  have em : o * 2 ^ (s - 1) = m := by
    have : o * 2 ^ s = 2 * (o * 2 ^ (s - 1)) := by
      obtain ⟨s', rfl⟩ : ∃ s', s = s' + 1 := ⟨s - 1, by omega⟩
      rw [Nat.pow_succ, Nat.add_sub_cancel, ← Nat.mul_assoc, Nat.mul_comm]
    omega
  have hole : o ≤ 2147483647 := by
    have h6 : o * 1 ≤ o * 2 ^ s := Nat.mul_le_mul_left _ (Nat.pos_of_ne_zero (by have := Nat.pow_pos (n := s) (show 0 < 2 by omega); omega))
    omega
  obtain ⟨n0, hn1, hn2⟩ := exists_nonsquare hF.prm hF.nl hF.two hF.dom h3 hm hm0
  obtain ⟨y, Y, hy, hY, K2, h2⟩ := nonsquare_loop hF hQ hm hn1 hn2.1 hn2.2 n0 0 [] (by omega)
  obtain ⟨x, hx, K3, h3'⟩ := gf_Pow_ok hF ha (e := (o + 1) / 2) (by omega)
  obtain ⟨t, ht, K4, h4⟩ := gf_Pow_ok hF ha (e := o) (by omega)
  obtain ⟨c, hc, K5, h5⟩ := gf_Pow_ok hF hy (e := o) (by omega)
  obtain ⟨r, R, hr, hR, K6, h6⟩ := tonelli hF (A := A) s x t c _ _ _ hs hs1 hx ht hc
    (Cg.of_eq (by rw [← pow_add, show (o + 1) / 2 + (o + 1) / 2 = 1 + o by omega, pow_add, pow_one]))
    (by rw [← pow_mul, em]; exact hA) (by rw [← pow_mul, em]; exact hY)
  dsimp only at h1 h3' h4 h5 h6
  refine ⟨r, R, hr, hR, K1 + K2 + K3 + K4 + K5 + K6, fun k hk => ?_⟩
  have h2' := h2 k k (by omega) (by omega)
  simp only [finitefield_root.f]
  rw [if_pos (by omega), show (Qn q f : Int) - 1 = ((Qn q f - 1 : Nat) : Int) by omega, wrap_nat (by omega), show (0 : Int) = ((0 : Nat) : Int) from rfl, h1 k (by omega), Option.bind_some, h2', Option.bind_some]
  simp only [finitefield_rootTail.f]
  rw [show ((o : Nat) : Int) + 1 = ((o + 1 : Nat) : Int) from rfl, wrap_nat (by omega), show Int.tdiv ((o + 1 : Nat) : Int) 2 = (((o + 1) / 2 : Nat) : Int) from rfl, wrap_nat (by omega), h3' k (by omega), Option.bind_some, h4 k (by omega), Option.bind_some, h5 k (by omega), Option.bind_some, Nat.zero_add]
  exact h6 k (by omega)
theorem SquareRoot_two (hQ : Qn q f ≤ 2147483647) (h2 : q = 2) {a : List Int} {A : ZX} (ha : El q f a A) : ∃ r R, El q f r R ∧ Cg q (P f) (R * R) A ∧ Ev (fun k => finitefield_SquareRoot.f k q f a) (r, 0) := by
  have hpos := Qn_pos hF
  obtain ⟨K1, h1⟩ := check_one hF ha
  obtain ⟨K2, h2'⟩ := size_ok hF hQ
  obtain ⟨r, hr, K3, h3⟩ := gf_Pow_ok hF ha (e := Qn q f / 2) (by omega)
  dsimp only at h1 h2' h3
  refine ⟨r, _, hr, ?_, K1 + K2 + K3, fun k hk => ?_⟩
  · rw [← pow_add]
    have he : Qn q f / 2 + Qn q f / 2 = Qn q f := by
      have : Qn q f % 2 = 0 := by
        show q ^ (f.length - 1) % 2 = 0
        have := hF.two
        obtain ⟨j, hj⟩ : ∃ j, f.length - 1 = j + 1 := ⟨f.length - 2, by omega⟩
        rw [hj, Nat.pow_succ, h2, Nat.mul_mod_left]
      omega
    rw [he]
    exact field_frob hF.prm hF.nl hF.two hF.dom A
  · simp only [finitefield_SquareRoot.f]
    rw [h1 k (by omega), Option.bind_some, if_pos rfl, h2' k (by omega), Option.bind_some, if_pos rfl, if_pos (by omega), show Int.tdiv ((Qn q f : Nat) : Int) 2 = ((Qn q f / 2 : Nat) : Int) from rfl, wrap_nat (by omega), h3 k (by omega), Option.bind_some]
theorem SquareRoot_nil (hQ : Qn q f ≤ 2147483647) (h2 : q ≠ 2) : Ev (fun k => finitefield_SquareRoot.f k q f []) ([], 0) := by
  obtain ⟨K1, h1⟩ := check_one hF (El.zero hF)
  obtain ⟨K2, h2'⟩ := size_ok hF hQ
  dsimp only at h1 h2'
  refine ⟨K1 + K2, fun k hk => ?_⟩
  simp only [finitefield_SquareRoot.f]
  rw [h1 k (by omega), Option.bind_some, if_pos rfl, h2' k (by omega), Option.bind_some, if_pos rfl, if_neg (by omega), if_pos (by simp)]
theorem SquareRoot_none (hQ : Qn q f ≤ 2147483647) (h2 : q ≠ 2) {m : Nat} (hm : 2 * m = Qn q f - 1) {a : List Int} {A : ZX} (ha : El q f a A) (hne : a ≠ []) (hA : ¬ Cg q (P f) (A ^ m) 1) : Ev (fun k => finitefield_SquareRoot.f k q f a) ([], 26) := by
  have hpos := Qn_pos hF
  have hlen := List.length_pos_iff.2 hne
  obtain ⟨K1, h1⟩ := check_one hF ha
  obtain ⟨K2, h2'⟩ := size_ok hF hQ
  obtain ⟨t, ht, K3, h3⟩ := gf_Pow_ok hF ha (e := m) (by omega)
  have ht1 : t ≠ [1] := fun e => hA ((ht.one_iff hF).1 e)
  dsimp only at h1 h2' h3
  refine ⟨K1 + K2 + K3, fun k hk => ?_⟩
  simp only [finitefield_SquareRoot.f]
  rw [h1 k (by omega), Option.bind_some, if_pos rfl, h2' k (by omega), Option.bind_some, if_pos rfl, if_neg (by omega), if_neg (by omega), show (Qn q f : Int) - 1 = ((Qn q f - 1 : Nat) : Int) by omega, wrap_nat (by omega), show Int.tdiv ((Qn q f - 1 : Nat) : Int) 2 = (((Qn q f - 1) / 2 : Nat) : Int) from rfl, show (Qn q f - 1) / 2 = m by omega, wrap_nat (by omega), h3 k (by omega), Option.bind_some, gf_IsOne_ok, decide_eq_false ht1, Option.bind_some, if_neg (by simp)]
theorem SquareRoot_some (hQ : Qn q f ≤ 2147483647) (h2 : q ≠ 2) {m : Nat} (hm : 2 * m = Qn q f - 1) {a : List Int} {A : ZX} (ha : El q f a A) (hne : a ≠ []) (hA : Cg q (P f) (A ^ m) 1) :
    ∃ r s R, El q f r R ∧ El q f s (-R) ∧ Cg q (P f) (R * R) A ∧ (¬ cmpL s r < 0 ∨ cmpL r s < 0) ∧ Ev (fun k => finitefield_SquareRoot.f k q f a) (r, 0) := by
  have hpos := Qn_pos hF
  have hlen := List.length_pos_iff.2 hne
  have hle := hF.le
  have hp2 := hF.prm.1
  obtain ⟨K1, h1⟩ := check_one hF ha
  obtain ⟨K2, h2'⟩ := size_ok hF hQ
  obtain ⟨t, ht, K3, h3⟩ := gf_Pow_ok hF ha (e := m) (by omega)
  have ht1 : t = [1] := (ht.one_iff hF).2 hA
  obtain ⟨r, R, hr, hR, K4, h4⟩ := root_ok hF hQ h2 hm ha hA
  obtain ⟨K5, h5⟩ := fp_Scale_spec (prm_pos hF.prm) hF.le hr.1 (c := (q : Int) - 1) (by omega) (hr.small hF)
  have hs : El q f (nf q (C ((q : Int) - 1) * P r)) (-R) := by
    have := El.nf hF ((hr.dg hF).scale ((q : Int) - 1))
    refine ⟨this.1, this.2.1, this.2.2.trans ?_⟩
    have e1 : Cg q (P f) (C ((q : Int) - 1) * P r) (C (-1) * R) := (Cg.num (by exact ⟨1, by omega⟩)).mul hr.2.2
    exact e1.trans (Cg.of_eq (ZX.ext fun x => by simp only [mul_v, C_v, neg_v]; grind))
  obtain ⟨K6, h6⟩ := Compare_ok (nf q (C ((q : Int) - 1) * P r)) r (hs.small hF)
  dsimp only at h1 h2' h3 h4 h5 h6
  have run : ∀ k, K1 + K2 + K3 + K4 + K5 + K6 ≤ k → finitefield_SquareRoot.f k q f a = if cmpL (nf q (C ((q : Int) - 1) * P r)) r < 0 then some (nf q (C ((q : Int) - 1) * P r), 0) else some (r, 0) := fun k hk => by
    simp only [finitefield_SquareRoot.f]
    rw [h1 k (by omega), Option.bind_some, if_pos rfl, h2' k (by omega), Option.bind_some, if_pos rfl, if_neg (by omega), if_neg (by omega), show (Qn q f : Int) - 1 = ((Qn q f - 1 : Nat) : Int) by omega, wrap_nat (by omega), show Int.tdiv ((Qn q f - 1 : Nat) : Int) 2 = (((Qn q f - 1) / 2 : Nat) : Int) from rfl, show (Qn q f - 1) / 2 = m by omega, wrap_nat (by omega), h3 k (by omega), Option.bind_some, gf_IsOne_ok, decide_eq_true ht1, Option.bind_some, if_pos rfl, h4 k (by omega), Option.bind_some, wrap_id (by omega) (by omega), h5 k (by omega), Option.bind_some, h6 k (by omega), Option.bind_some]
  by_cases hc : cmpL (nf q (C ((q : Int) - 1) * P r)) r < 0
  · exact ⟨_, r, -R, hs, ⟨hr.1, hr.2.1, hr.2.2.trans (Cg.of_eq (ZX.ext fun x => by (try simp only [ZX.add_v, ZX.mul_v, ZX.sub_v, ZX.neg_v, ZX.zero_v, ZX.one_v, ZX.C_v, ZX.X_v, ZX.pow_v]) <;> grind))⟩, (Cg.of_eq (ZX.ext fun x => by (try simp only [ZX.add_v, ZX.mul_v, ZX.sub_v, ZX.neg_v, ZX.zero_v, ZX.one_v, ZX.C_v, ZX.X_v, ZX.pow_v]) <;> grind) : Cg q (P f) _ (R * R)).trans hR, .inr hc, _, fun k hk => by dsimp only; rw [run k hk, if_pos hc]⟩
  · exact ⟨r, _, R, hr, hs, hR, .inl hc, _, fun k hk => by dsimp only; rw [run k hk, if_neg hc]⟩
end
end Go.Proofs.Ytalnaafmonmlmaa.Q
end
section
namespace Go.Proofs.Ytalnaafmonmlmaa.Pure
open Go.RowKit Go.Proofs.YtalnaafmonmlmaaW.PrintWords Go.Proofs.YtalnaafmonmlmaaW.PrintLast Go.Proofs.YtalnaafmonmlmaaW.PrintMore Go.Proofs.Ytalnaafmonmlmaa.M Go.Proofs.Ytalnaafmonmlmaa.M.ZX Go.Proofs.Ytalnaafmonmlmaa.Q
set_option linter.unusedVariables false
set_option linter.unusedSimpArgs false
def cntG (G : Nat → Bool) : Nat → Nat → Nat
  | _, 0 => 0
  | i, d + 1 => (if G i = true then 1 else 0) + cntG G (i + 1) d
theorem cntG_filter (G : Nat → Bool) : ∀ d i, cntG G i d = ((List.range' i d).filter G).length
  | 0, i => rfl
  | d + 1, i => by
    unfold cntG
    rw [List.range'_succ, List.filter_cons, cntG_filter G d (i + 1)]
    split
    · rw [List.length_cons]; omega
    · omega
open Classical in
noncomputable def rooted (q : Nat) (f : List Int) (m : Nat) : Nat → Bool := fun n => decide (q = 2 ∨ ¬ (¬ n = 0 ∧ ¬ Cg q (P f) (P (dg q n) ^ m) 1))
open Classical in
theorem rooted_true {q : Nat} {f : List Int} {m n : Nat} (h : q = 2 ∨ ¬ (¬ n = 0 ∧ ¬ Cg q (P f) (P (dg q n) ^ m) 1)) : rooted q f m n = true := decide_eq_true h
open Classical in
theorem rooted_false {q : Nat} {f : List Int} {m n : Nat} (h : ¬ (q = 2 ∨ ¬ (¬ n = 0 ∧ ¬ Cg q (P f) (P (dg q n) ^ m) 1))) : rooted q f m n = false := decide_eq_false h
section
variable {q : Nat} {f : List Int} (hF : Fld q f)
include hF
theorem root_case (hQ : Qn q f ≤ 128) {m : Nat} (hm : q ≠ 2 → 2 * m = Qn q f - 1) {n : Nat} (hn : n < Qn q f) :
    ∃ s e, Ev (fun k => finitefield_SquareRoot.f k q f (dg q n)) (s, e) ∧ ((rooted q f m n = true ∧ e = 0 ∧ ∃ S, El q f s S ∧ Cg q (P f) (S * S) (P (dg q n))) ∨ (rooted q f m n = false ∧ e = 26)) := by
  have hel := dg_el hF hn
  by_cases h2 : q = 2
  · obtain ⟨r, R, hr, hR, h⟩ := SquareRoot_two hF (by omega) h2 hel
    exact ⟨r, 0, h, .inl ⟨rooted_true (.inl h2), rfl, R, hr, hR⟩⟩
  · by_cases h0 : n = 0
    · subst h0
      have e : dg q 0 = [] := rfl
      rw [e]
      refine ⟨[], 0, SquareRoot_nil hF (by omega) h2, .inl ⟨rooted_true (.inr fun h => h.1 rfl), rfl, 0, El.zero hF, Cg.of_eq ?_⟩⟩
      rw [P_nil]; exact (ZX.ext fun x => by (try simp only [ZX.add_v, ZX.mul_v, ZX.sub_v, ZX.neg_v, ZX.zero_v, ZX.one_v, ZX.C_v, ZX.X_v, ZX.pow_v]) <;> grind)
    · have hne : dg q n ≠ [] := fun e => h0 ((dg_zero_iff hF.prm hF.nl hF.two hn).1 ((hel.nil_iff hF).1 e))
      by_cases hA : Cg q (P f) (P (dg q n) ^ m) 1
      · obtain ⟨r, s, R, hr, _, hR, _, h⟩ := SquareRoot_some hF (by omega) h2 (hm h2) hel hne hA
        exact ⟨r, 0, h, .inl ⟨rooted_true (.inr fun h => h.2 hA), rfl, R, hr, hR⟩⟩
      · exact ⟨[], 26, SquareRoot_none hF (by omega) h2 (hm h2) hel hne hA, .inr ⟨rooted_false (fun h => h.elim h2 fun h => h ⟨h0, hA⟩), rfl⟩⟩
theorem squares_loop (hQ : Qn q f ≤ 128) {m : Nat} (hm : q ≠ 2 → 2 * m = Qn q f - 1) : ∀ (d i c : Nat), i + d = Qn q f → c ≤ i →
    Ev (fun k => galoislaw15_FinitefieldSquares.l0 k (Qn q f : Int) c i q f) (if q = 2 then decide (c + cntG (rooted q f m) i d = Qn q f) else decide (c + cntG (rooted q f m) i d = (Qn q f + 1) / 2)) := by
  intro d
  induction d with
  | zero =>
    intro i c hi hc
    refine ⟨1, fun k hk => ?_⟩
    obtain ⟨k', rfl, hk'⟩ := ex_succ hk
    simp only [galoislaw15_FinitefieldSquares.l0]
    rw [if_neg (by omega)]
    have e1 : wrap64 (Int.tdiv (wrap64 ((Qn q f : Int) + 1)) 2) = (((Qn q f + 1) / 2 : Nat) : Int) := by
      rw [show (Qn q f : Int) + 1 = ((Qn q f + 1 : Nat) : Int) from rfl, wrap_nat (by omega), show Int.tdiv ((Qn q f + 1 : Nat) : Int) 2 = (((Qn q f + 1) / 2 : Nat) : Int) from rfl, wrap_nat (by omega)]
    rw [e1]
    have dec : ∀ a b : Nat, ((a : Int) == (b : Int)) = decide (a + cntG (rooted q f m) i 0 = b) := fun a b => by
      by_cases h : a = b
      · subst h; simp [cntG]
      · rw [decide_eq_false (by simpa [cntG] using h)]
        exact beq_eq_false_iff_ne.2 (by omega)
    by_cases h2 : q = 2
    · rw [if_pos (by omega), if_pos h2, dec]
    · rw [if_neg (by omega), if_neg h2, dec]
  | succ d ih =>
    intro i c hi hc
    have hil : i < Qn q f := by omega
    obtain ⟨K1, h1⟩ := Element_ok hF (by omega) hil
    obtain ⟨s, e, ⟨K2, h2⟩, hs⟩ := root_case hF hQ hm hil
    dsimp only at h1 h2
    rcases hs with ⟨hG, rfl, S, hS, hSS⟩ | ⟨hG, rfl⟩
    · obtain ⟨t, ht, K3, h3⟩ := Mul_ok hF hS hS
      have et : t = dg q i := ht.eq hF (dg_el hF hil) hSS
      obtain ⟨K4, h4⟩ := Same_ok et (ht.small hF)
      obtain ⟨K5, h5⟩ := ih (i + 1) (c + 1) (by omega) (by omega)
      dsimp only at h3 h4 h5
      refine ⟨K1 + K2 + K3 + K4 + K5 + 2, fun k hk => ?_⟩
      obtain ⟨k1, rfl, hk1⟩ := ex_succ hk
      obtain ⟨k2, rfl, hk2⟩ := ex_succ (K := K1 + K2 + K3 + K4 + K5) (k := k1) (by omega)
      simp only [galoislaw15_FinitefieldSquares.l0]
      rw [if_pos (by omega), h1 _ (by omega), Option.bind_some, h2 _ (by omega), Option.bind_some, if_pos rfl, if_pos rfl]
      simp only [galoislaw15_FinitefieldSquares.j2]
      rw [if_neg (by simp), if_neg (by decide), h3 _ (by omega), Option.bind_some, if_pos rfl, h4 _ (by omega), Option.bind_some, if_pos rfl, show (c : Int) + 1 = ((c + 1 : Nat) : Int) from rfl, wrap_nat (by omega), show (i : Int) + 1 = ((i + 1 : Nat) : Int) from rfl, wrap_nat (by omega), h5 _ (by omega)]
      have ec : c + cntG (rooted q f m) i (d + 1) = c + 1 + cntG (rooted q f m) (i + 1) d := by
        show c + ((if rooted q f m i = true then 1 else 0) + cntG (rooted q f m) (i + 1) d) = _
        rw [if_pos hG]; omega
      rw [ec]
    · obtain ⟨K5, h5⟩ := ih (i + 1) c (by omega) (by omega)
      dsimp only at h5
      refine ⟨K1 + K2 + K5 + 2, fun k hk => ?_⟩
      obtain ⟨k1, rfl, hk1⟩ := ex_succ hk
      obtain ⟨k2, rfl, hk2⟩ := ex_succ (K := K1 + K2 + K5) (k := k1) (by omega)
      simp only [galoislaw15_FinitefieldSquares.l0]
      rw [if_pos (by omega), h1 _ (by omega), Option.bind_some, h2 _ (by omega), Option.bind_some, if_pos rfl, if_neg (by simp)]
      simp only [galoislaw15_FinitefieldSquares.j2]
      rw [if_neg (by simp), if_pos trivial, show (i : Int) + 1 = ((i + 1 : Nat) : Int) from rfl, wrap_nat (by omega), h5 _ (by omega)]
      have ec : c + cntG (rooted q f m) i (d + 1) = c + cntG (rooted q f m) (i + 1) d := by
        show c + ((if rooted q f m i = true then 1 else 0) + cntG (rooted q f m) (i + 1) d) = _
        rw [if_neg (by rw [hG]; simp)]; omega
      rw [ec]
open Classical in
theorem rooted_count {m : Nat} (hm : q ≠ 2 → 2 * m = Qn q f - 1) : (if q = 2 then decide (0 + cntG (rooted q f m) 0 (Qn q f) = Qn q f) else decide (0 + cntG (rooted q f m) 0 (Qn q f) = (Qn q f + 1) / 2)) = true := by
  have hpos := Qn_pos hF
  rw [cntG_filter, ← List.range_eq_range']
  by_cases h2 : q = 2
  · rw [if_pos h2]
    refine decide_eq_true ?_
    have e : (List.range (Qn q f)).filter (rooted q f m) = List.range (Qn q f) := List.filter_eq_self.2 fun n _ => rooted_true (.inl h2)
    rw [e, List.length_range]
    omega
  · rw [if_neg h2]
    refine decide_eq_true ?_
    have hodd := odd_Q hF h2
    have hm' := hm h2
    have h := (count_squares hF.prm hF.nl hF.two hF.dom h2 (m := m) hm' (by omega)).2
    have h3 := List.length_eq_countP_add_countP (rooted q f m) (l := List.range (Qn q f))
    rw [List.countP_eq_length_filter, List.countP_eq_length_filter, List.length_range] at h3
    have h4 : ((List.range (Qn q f)).filter fun a => decide (¬ rooted q f m a = true)).length = m := by
      refine Eq.trans (congrArg (fun l : List Nat => l.length) (List.filter_congr fun n _ => ?_)) h
      by_cases hc : ¬ n = 0 ∧ ¬ Cg q (P f) (P (dg q n) ^ m) 1
      · rw [decide_eq_true hc, rooted_false (fun h => h.elim h2 fun h => h hc)]
        rfl
      · rw [decide_eq_false hc, rooted_true (.inr hc)]
        rfl
    rw [h4] at h3
    omega
end
theorem FinitefieldSquares : galoislaw15_FinitefieldSquares.Pure := by
  intro p f _ _ _ _
  obtain ⟨Ka, ha⟩ := awake_ev
  obtain ⟨b, hb, K1, h1⟩ := Few_spec p f 128
  dsimp only at h1
  cases b with
  | false =>
    refine ⟨Ka + K1 + 1, ?_⟩
    simp only [galoislaw15_FinitefieldSquares.f]
    rw [ha _ (by omega), Option.bind_some, if_pos rfl, show (128 : Int) = ((128 : Nat) : Int) from rfl, h1 _ (by omega), Option.bind_some]
    simp only [galoislaw15_FinitefieldSquares.j0]
    rw [if_pos (by simp), ha _ (by omega), Option.bind_some]
  | true =>
    obtain ⟨q, rfl, hF, hQ, hQ2⟩ := hb.1 rfl
    obtain ⟨m, hm⟩ : ∃ m, q ≠ 2 → 2 * m = Qn q f - 1 := by
      by_cases h2 : q = 2
      · exact ⟨0, fun h => absurd h2 h⟩
      · obtain ⟨m, hm, _⟩ := half_ok hF h2
        exact ⟨m, fun _ => hm⟩
    obtain ⟨K2, h2⟩ := ref_Size_ok hF
    obtain ⟨K3, h3⟩ := squares_loop hF hQ2 hm (Qn q f) 0 0 (by omega) (by omega)
    rw [rooted_count hF hm] at h3
    rw [if_pos hQ] at h2
    dsimp only at h2 h3
    refine ⟨Ka + K1 + K2 + K3 + 1, ?_⟩
    simp only [galoislaw15_FinitefieldSquares.f]
    rw [ha _ (by omega), Option.bind_some, if_pos rfl, show (128 : Int) = ((128 : Nat) : Int) from rfl, h1 _ (by omega), Option.bind_some]
    simp only [galoislaw15_FinitefieldSquares.j0]
    rw [if_neg (by simp), h2 _ (by omega), Option.bind_some]
    exact h3 _ (by omega)
end Go.Proofs.Ytalnaafmonmlmaa.Pure
end

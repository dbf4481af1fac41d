/- Machine side and arithmetic of the law, put together by a program of the session. No conditions. -/
import Derived.WalkKit
import Derived.WalkSmall
import Derived.KernelRfl
import Derived.Test.YtalnaafmonmlmaaKModuli0
import Derived.Test.YtalnaafmonmlmaaKModuli5
import Derived.Test.YtalnaafmonmlmaaKModuli7
import Derived.Test.YtalnaafmonmlmaaKModuli8
import Derived.Test.YtalnaafmonmlmaaKModuli10
section
namespace Go.Proofs.Ytalnaafmonmlmaa.Q
open Go.RowKit Go.Proofs.YtalnaafmonmlmaaW.PrintWords Go.Proofs.YtalnaafmonmlmaaW.PrintLast Go.Proofs.YtalnaafmonmlmaaW.PrintMore
set_option maxRecDepth 100000 in
theorem awake_ge (k : Nat) : galoislaw15_awake.f (k + 60) = some true := by kernel_rfl
theorem awake_ev : Ev galoislaw15_awake.f true := ⟨60, fun k hk => by
  obtain ⟨j, rfl⟩ : ∃ j, k = j + 60 := ⟨k - 60, by omega⟩
  exact awake_ge j⟩
end Go.Proofs.Ytalnaafmonmlmaa.Q
end
section
namespace Go.Proofs.Ytalnaafmonmlmaa.Pure
open Go.RowKit Go.Proofs.YtalnaafmonmlmaaW.PrintWords Go.Proofs.YtalnaafmonmlmaaW.PrintLast Go.Proofs.YtalnaafmonmlmaaW.PrintMore Go.Proofs.Ytalnaafmonmlmaa.M Go.Proofs.Ytalnaafmonmlmaa.M.ZX Go.Proofs.Ytalnaafmonmlmaa.Q
set_option linter.unusedVariables false
set_option linter.unusedSimpArgs false
def Rs (p : Nat) (A : List Int) : Prop := ∀ c ∈ A, 0 ≤ c ∧ c < p
def inc (p : Nat) : List Int → List Int
  | [] => []
  | c :: A => if c = (p : Int) - 1 then 0 :: inc p A else (c + 1) :: A
theorem inc_len (p : Nat) : ∀ A, (inc p A).length = A.length
  | [] => rfl
  | c :: A => by unfold inc; split <;> simp [inc_len p A]
theorem inc_rs {p : Nat} (hp : 0 < p) : ∀ {A}, Rs p A → Rs p (inc p A)
  | [], h => h
  | c :: A, h => by
    have hc := h c (List.mem_cons_self ..)
    have hA : Rs p A := fun x hx => h x (List.mem_cons_of_mem _ hx)
    unfold inc
    split
    · intro x hx
      rcases List.mem_cons.1 hx with rfl | hx
      · omega
      · exact inc_rs hp hA x hx
    · intro x hx
      rcases List.mem_cons.1 hx with rfl | hx
      · omega
      · exact hA x hx
theorem inc_hv {p : Nat} (hp : 0 < p) : ∀ {A}, Rs p A → hv A p + 1 < ((p ^ A.length : Nat) : Int) → hv (inc p A) p = hv A p + 1
  | [], _, h => by simp [hv] at h
  | c :: A, h, hl => by
    have hA : Rs p A := fun x hx => h x (List.mem_cons_of_mem _ hx)
    unfold inc
    split
    · rename_i e
      have h1 : hv A p + 1 < ((p ^ A.length : Nat) : Int) := by
        simp only [hv, List.length_cons, Nat.pow_succ, e, Int.natCast_mul] at hl
        have : (p : Int) * (hv A p + 1) < (p : Int) * ((p ^ A.length : Nat) : Int) := by
          rw [Int.mul_add, Int.mul_one, Int.mul_comm (p : Int) ((p ^ A.length : Nat) : Int)]
          omega
        exact Int.lt_of_mul_lt_mul_left this (by omega)
      simp only [hv]
      rw [inc_hv hp hA h1, Int.mul_add, e]
      omega
    · simp only [hv]; omega
theorem rs_inj {p : Nat} (hp : 0 < p) : ∀ {A B : List Int}, Rs p A → Rs p B → A.length = B.length → hv A p = hv B p → A = B
  | [], [], _, _, _, _ => rfl
  | [], _ :: _, _, _, h, _ => by simp at h
  | _ :: _, [], _, _, h, _ => by simp at h
  | a :: A, b :: B, hA, hB, hl, h => by
    have ha := hA a (List.mem_cons_self ..)
    have hb := hB b (List.mem_cons_self ..)
    simp only [hv] at h
    have e : a = b := small_eq ha hb ⟨hv B p - hv A p, by rw [Int.mul_sub]; omega⟩
    subst e
    have h2 : (p : Int) * hv A p = (p : Int) * hv B p := by omega
    rw [rs_inj hp (fun x hx => hA x (List.mem_cons_of_mem _ hx)) (fun x hx => hB x (List.mem_cons_of_mem _ hx)) (by simpa using hl) (Int.eq_of_mul_eq_mul_left (by omega) h2)]
theorem set_mid (A Z : List Int) (c v : Int) : ((c :: A).reverse ++ Z).set A.length v = A.reverse ++ v :: Z := by
  rw [List.reverse_cons, List.append_assoc, List.set_append, if_neg (by simp)]
  simp
theorem rd_mid (A Z : List Int) (c : Int) : rd ((c :: A).reverse ++ Z) (A.length : Int) = c := by
  rw [rd_nat, List.reverse_cons, List.append_assoc]
  simp [List.getD, List.getElem?_append]
theorem prog_inc {p : Nat} (h2 : 2 ≤ p) (hP : p ≤ 65521) (n : Int) {r : List Int × Int} : ∀ (A Z : List Int), Rs p A → hv A p + 1 < ((p ^ A.length : Nat) : Int) → A.length ≤ 100000 →
    Ev (fun k => finitefield_Modulus.l0 k p n ((inc p A).reverse ++ Z)) r → Ev (fun k => finitefield_Modulus.l1 k p n (A.reverse ++ Z) ((A.length : Int) - 1)) r
  | [], _, _, h, _, _ => by simp [hv] at h
  | c :: A, Z, h, hl, hlen, hr => by
    have hc := h c (List.mem_cons_self ..)
    have hA : Rs p A := fun x hx => h x (List.mem_cons_of_mem _ hx)
    have e1 : ((c :: A).length : Int) - 1 = (A.length : Int) := by simp only [List.length_cons]; omega
    have e2 : wrap64 ((p : Int) - 1) = (p : Int) - 1 := wrap_id (by omega) (by omega)
    simp only [List.length_cons] at hlen
    rw [e1]
    by_cases e : c = (p : Int) - 1
    · have hi : inc p (c :: A) = 0 :: inc p A := by show (if c = (p : Int) - 1 then 0 :: inc p A else (c + 1) :: A) = _; rw [if_pos e]
      rw [hi, List.reverse_cons, List.append_assoc] at hr
      have h1 : hv A p + 1 < ((p ^ A.length : Nat) : Int) := by
        simp only [hv, List.length_cons, Nat.pow_succ, e, Int.natCast_mul] at hl
        have : (p : Int) * (hv A p + 1) < (p : Int) * ((p ^ A.length : Nat) : Int) := by
          rw [Int.mul_add, Int.mul_one, Int.mul_comm (p : Int) ((p ^ A.length : Nat) : Int)]
          omega
        exact Int.lt_of_mul_lt_mul_left this (by omega)
      obtain ⟨K, hK⟩ := prog_inc h2 hP n A (0 :: Z) hA h1 (by omega) hr
      dsimp only at hK
      refine ⟨K + 1, fun k hk => ?_⟩
      obtain ⟨k', rfl, hk'⟩ := ex_succ hk
      simp only [finitefield_Modulus.l1]
      rw [if_pos (by omega), if_pos (by simp; omega), rd_mid, e2, if_pos e, Int.toNat_natCast, set_mid, wrap_id (by omega) (by omega)]
      exact hK k' hk'
    · have hi : inc p (c :: A) = (c + 1) :: A := by show (if c = (p : Int) - 1 then 0 :: inc p A else (c + 1) :: A) = _; rw [if_neg e]
      rw [hi, List.reverse_cons, List.append_assoc] at hr
      obtain ⟨K, hK⟩ := hr
      dsimp only at hK
      refine ⟨K + 1, fun k hk => ?_⟩
      obtain ⟨k', rfl, hk'⟩ := ex_succ hk
      simp only [finitefield_Modulus.l1]
      rw [if_pos (by omega), if_pos (by simp; omega), rd_mid, e2, if_neg e, Int.toNat_natCast, set_mid, wrap_id (by omega) (by omega)]
      exact hK k' hk'
theorem ref_inc {p : Nat} (h2 : 2 ≤ p) (hP : p ≤ 65521) : ∀ (A Z : List Int), Rs p A → hv A p + 1 < ((p ^ A.length : Nat) : Int) → A.length ≤ 100000 →
    Ev (fun k => galoisref09_Next.l0 k p (A.reverse ++ Z) ((A.length : Int) - 1)) ((inc p A).reverse ++ Z, true)
  | [], _, _, h, _ => by simp [hv] at h
  | c :: A, Z, h, hl, hlen => by
    have hc := h c (List.mem_cons_self ..)
    have hA : Rs p A := fun x hx => h x (List.mem_cons_of_mem _ hx)
    have e1 : ((c :: A).length : Int) - 1 = (A.length : Int) := by simp only [List.length_cons]; omega
    have er : ∀ v : Int, rd (A.reverse ++ v :: Z) (A.length : Int) = v := fun v => by
      have := rd_mid A Z v
      rwa [List.reverse_cons, List.append_assoc] at this
    have es : ∀ v u : Int, (A.reverse ++ v :: Z).set A.length u = A.reverse ++ u :: Z := fun v u => by
      have := set_mid A Z v u
      rwa [List.reverse_cons, List.append_assoc] at this
    simp only [List.length_cons] at hlen
    rw [e1]
    by_cases e : c = (p : Int) - 1
    · have hi : inc p (c :: A) = 0 :: inc p A := by show (if c = (p : Int) - 1 then 0 :: inc p A else (c + 1) :: A) = _; rw [if_pos e]
      have h1 : hv A p + 1 < ((p ^ A.length : Nat) : Int) := by
        simp only [hv, List.length_cons, Nat.pow_succ, e, Int.natCast_mul] at hl
        have : (p : Int) * (hv A p + 1) < (p : Int) * ((p ^ A.length : Nat) : Int) := by
          rw [Int.mul_add, Int.mul_one, Int.mul_comm (p : Int) ((p ^ A.length : Nat) : Int)]
          omega
        exact Int.lt_of_mul_lt_mul_left this (by omega)
      obtain ⟨K, hK⟩ := ref_inc h2 hP A (0 :: Z) hA h1 (by omega)
      dsimp only at hK
      refine ⟨K + 1, fun k hk => ?_⟩
      obtain ⟨k', rfl, hk'⟩ := ex_succ hk
      simp only [galoisref09_Next.l0]
      rw [if_pos (by omega), if_pos (by omega), if_pos (by simp; omega), rd_mid, Option.bind_some, Int.toNat_natCast, set_mid, er, wrap_id (by omega) (by omega), if_neg (by omega), es, wrap_id (by omega) (by omega), hK k' hk', hi, List.reverse_cons, List.append_assoc]
      rfl
    · have hi : inc p (c :: A) = (c + 1) :: A := by show (if c = (p : Int) - 1 then 0 :: inc p A else (c + 1) :: A) = _; rw [if_neg e]
      refine ⟨1, fun k hk => ?_⟩
      obtain ⟨k', rfl, hk'⟩ := ex_succ hk
      simp only [galoisref09_Next.l0]
      rw [if_pos (by omega), if_pos (by omega), if_pos (by simp; omega), rd_mid, Option.bind_some, Int.toNat_natCast, set_mid, er, wrap_id (by omega) (by omega), if_pos (by omega), hi, List.reverse_cons, List.append_assoc]
      rfl
theorem nl_mon {p : Nat} (h2 : 2 ≤ p) {A : List Int} (h : Rs p A) : NL p (A.reverse ++ [1]) := ⟨fun c hc => by
  rcases List.mem_append.1 hc with hc | hc
  · exact h c (List.mem_reverse.1 hc)
  · simp only [List.mem_singleton] at hc; omega, .inr (by simp)⟩
theorem search {p n : Nat} (hp : Prm p) (hP : p ≤ 65521) (h1 : 1 ≤ n) (hn : n ≤ 500) {W : List Int} (hW : Rs p W) (hWl : W.length = n) (hD : Dom p (P (W.reverse ++ [1]))) :
    ∀ (d : Nat) (A : List Int), Rs p A → A.length = n → hv W p - hv A p = d →
      ∃ l : List Int, l.length ≤ 1000 ∧ Ev (fun k => finitefield_Modulus.l0 k p n (A.reverse ++ [1])) (l, 0) ∧ Ev (fun k => galoisref15_Modulus.l0 k p A.reverse) l := by
  intro d
  induction d with
  | zero =>
    intro A hA hAl hd
    have e : A = W := rs_inj (prm_pos hp) hA hW (by omega) (by omega)
    subst e
    have hnl := nl_mon hp.1 hA
    have hlen : (A.reverse ++ [1]).length = n + 1 := by simp [hAl]
    obtain ⟨b, hb, K, hK⟩ := fp_Irreducible_spec hp hP hnl (by omega)
    obtain ⟨b2, hb2, K2, hK2⟩ := ref_Irreducible_spec hp hP hnl (by omega)
    have t1 : b = true := hb.2 ⟨by omega, hD⟩
    have t2 : b2 = true := hb2.2 ⟨by omega, hD⟩
    subst t1 t2
    dsimp only at hK hK2
    refine ⟨A.reverse ++ [1], by omega, ⟨K + 1, fun k hk => ?_⟩, K2 + 1, fun k hk => ?_⟩
    · obtain ⟨k', rfl, hk'⟩ := ex_succ hk
      simp only [finitefield_Modulus.l0]
      rw [hK k' hk', Option.bind_some, if_pos rfl]
    · obtain ⟨k', rfl, hk'⟩ := ex_succ hk
      simp only [galoisref15_Modulus.l0]
      rw [ref_Copy_spec _ (by simp; omega), Option.bind_some, if_pos (by simp; omega), Option.bind_some, hK2 k' hk', Option.bind_some, if_pos rfl]
  | succ d ih =>
    intro A hA hAl hd
    have hnl := nl_mon hp.1 hA
    have hlen : (A.reverse ++ [1]).length = n + 1 := by simp [hAl]
    obtain ⟨b, hb, K, hK⟩ := fp_Irreducible_spec hp hP hnl (by omega)
    obtain ⟨b2, hb2, K2, hK2⟩ := ref_Irreducible_spec hp hP hnl (by omega)
    dsimp only at hK hK2
    by_cases hDA : Dom p (P (A.reverse ++ [1]))
    · have t1 : b = true := hb.2 ⟨by omega, hDA⟩
      have t2 : b2 = true := hb2.2 ⟨by omega, hDA⟩
      subst t1 t2
      refine ⟨A.reverse ++ [1], by omega, ⟨K + 1, fun k hk => ?_⟩, K2 + 1, fun k hk => ?_⟩
      · obtain ⟨k', rfl, hk'⟩ := ex_succ hk
        simp only [finitefield_Modulus.l0]
        rw [hK k' hk', Option.bind_some, if_pos rfl]
      · obtain ⟨k', rfl, hk'⟩ := ex_succ hk
        simp only [galoisref15_Modulus.l0]
        rw [ref_Copy_spec _ (by simp; omega), Option.bind_some, if_pos (by simp; omega), Option.bind_some, hK2 k' hk', Option.bind_some, if_pos rfl]
    · have t1 : b = false := Bool.eq_false_iff.2 fun e => hDA (hb.1 e).2
      have t2 : b2 = false := Bool.eq_false_iff.2 fun e => hDA (hb2.1 e).2
      subst t1 t2
      have hb3 := (nl_num hW).2
      rw [hWl] at hb3
      have hlt : hv A p + 1 < ((p ^ A.length : Nat) : Int) := by rw [hAl]; omega
      have hv1 := inc_hv (prm_pos hp) hA hlt
      obtain ⟨l, hl, e1, e2⟩ := ih (inc p A) (inc_rs (prm_pos hp) hA) (by rw [inc_len, hAl]) (by omega)
      obtain ⟨K3, hK3⟩ := prog_inc hp.1 hP n A [1] hA hlt (by omega) e1
      obtain ⟨K4, hK4⟩ := ref_inc hp.1 hP A [] hA hlt (by omega)
      obtain ⟨K5, hK5⟩ := e2
      dsimp only at hK3 hK4 hK5
      rw [List.append_nil, List.append_nil] at hK4
      refine ⟨l, hl, ⟨K + K3 + 1, fun k hk => ?_⟩, K2 + K4 + K5 + 1, fun k hk => ?_⟩
      · obtain ⟨k', rfl, hk'⟩ := ex_succ hk
        simp only [finitefield_Modulus.l0]
        rw [hK k' (by omega), Option.bind_some, if_neg (by simp), wrap_id (by omega) (by omega)]
        have := hK3 k' (by omega)
        rwa [hAl] at this
      · obtain ⟨k', rfl, hk'⟩ := ex_succ hk
        simp only [galoisref15_Modulus.l0, galoisref09_Next.f]
        rw [ref_Copy_spec _ (by simp; omega), Option.bind_some, if_pos (by simp; omega), Option.bind_some, hK2 k' (by omega), Option.bind_some, if_neg (by simp), Option.bind_some, List.length_reverse, wrap_id (by omega) (by omega), hK4 k' (by omega), Option.bind_some]
        exact hK5 k' (by omega)
theorem exists_monic {p n : Nat} (hp : Prm p) (h1 : 1 ≤ n) : ∃ W : List Int, Rs p W ∧ W.length = n ∧ Dom p (P (W.reverse ++ [1])) ∧ (2 ≤ n → ((p ^ (n - 1) : Nat) : Int) ≤ hv W p) := by
  have hp0 := prm_pos hp
  obtain ⟨g, hg, hgl, hgD⟩ := exists_degree hp h1
  have hne : g ≠ [] := by intro e; rw [e] at hgl; simp at hgl
  obtain ⟨l0, l1⟩ := hg.lead hp hne
  rw [show g.length - 1 = n by omega] at l0 l1
  obtain ⟨v, hvv⟩ := exists_inv hp (c := g.getD n 0) (fun h => by have := Int.le_of_dvd l0 h; omega)
  obtain ⟨m1, m2⟩ := nf_spec hp0 (C v * P g)
  have mlen : (nf p (C v * P g)).length ≤ n + 1 := nf_dg hp0 ((Dg.of_P (by omega)).scale v)
  have top : (nf p (C v * P g)).getD n 0 = 1 := by
    rw [← P_scale] at m2 ⊢
    have t1 := cg_getD m2 n
    rw [P_scale] at t1
    have r := m1.getD hp0 n
    rw [P_scale] at *
    refine small_eq r ⟨by omega, by have := hp.1; omega⟩ ?_
    have e : (g.map (v * ·)).getD n 0 = v * g.getD n 0 := by
      rw [List.getD_eq_getElem?_getD, List.getElem?_map, List.getD_eq_getElem?_getD, List.getElem?_eq_getElem (by omega)]
      rfl
    rw [e] at t1
    have := Int.dvd_add t1 hvv
    rwa [show (nf p (C v * P g)).getD n 0 - v * g.getD n 0 + (v * g.getD n 0 - 1) = (nf p (C v * P g)).getD n 0 - 1 by omega] at this
  have mlen2 : (nf p (C v * P g)).length = n + 1 := by
    by_cases h : (nf p (C v * P g)).length = n + 1
    · exact h
    · rw [getD_of_len (by omega)] at top; omega
  obtain ⟨h, hh⟩ : ∃ h, h = nf p (C v * P g) := ⟨_, rfl⟩
  rw [← hh] at m1 m2 top mlen2
  have hsplit : h = h.take n ++ [1] := by
    have := take_snoc (l := h) (n := n) (by omega)
    rw [top, List.take_of_length_le (by omega)] at this
    exact this
  have hD : Dom p (P h) := by
    have i1 : In p (P g) (P h) := m2.mono.in_iff.2 (by rw [mul_comm]; exact In.pol _)
    have i2 : In p (P h) (P g) := by
      have e1 : Cg p (P h) (C (g.getD n 0) * P h) (C (g.getD n 0) * (C v * P g)) := (Cg.refl _).mul m2.mono
      have e2 : Cg p (P h) (C (g.getD n 0) * (C v * P g)) (P g) := by
        have e3 : Cg p (P h) (C (v * g.getD n 0)) (C 1) := Cg.num hvv
        refine (Cg.of_eq ?_).trans (((e3).mul (Cg.refl (P g))).trans (Cg.of_eq ?_))
        · exact ZX.ext fun x => by simp only [mul_v, C_v]; grind
        · exact ZX.ext fun x => by simp only [mul_v, C_v]; grind
      exact (e1.trans e2).in_iff.1 (by rw [mul_comm]; exact In.pol _)
    intro a b hab
    exact (hgD a b (hab.trans i1)).elim (fun k => .inl (k.trans i2)) (fun k => .inr (k.trans i2))
  refine ⟨(h.take n).reverse, fun c hc => m1.1 c (List.mem_of_mem_take (List.mem_reverse.1 hc)), by simp; omega, by rw [List.reverse_reverse, ← hsplit]; exact hD, fun h2 => ?_⟩
  obtain ⟨c, t, rfl⟩ : ∃ c t, h = c :: t := by cases h with
    | nil => simp at mlen2
    | cons c t => exact ⟨c, t, rfl⟩
  have hc := m1.1 c (List.mem_cons_self ..)
  have hc0 : c ≠ 0 := by
    rintro rfl
    have ht : NL p t := ⟨fun x hx => m1.1 x (List.mem_cons_of_mem _ hx), m1.2.tail⟩
    simp only [List.length_cons] at mlen2
    have hin : In p (P (0 :: t)) (X * P t) := by rw [show X * P t = P (0 :: t) from by rw [P_cons]; exact ZX.ext fun x => by simp [add_v, mul_v, C_v]]; exact In.self
    rcases hD _ _ hin with h | h
    · rw [← P_X] at h
      have := in_nf hp m1 (by simp; omega) (NL.x hp.1) (by simp; omega) h
      simp at this
    · have := in_nf hp m1 (by simp; omega) ht (by simp) h
      rw [this] at mlen2; simp at mlen2; omega
  obtain ⟨m, rfl⟩ : ∃ m, n = m + 1 := ⟨n - 1, by omega⟩
  rw [List.take_succ_cons, List.reverse_cons]
  have hlt : (t.take m).length = m := by simp only [List.length_cons] at mlen2; simp; omega
  have e : hv ((t.take m).reverse ++ [c]) (p : Int) = hv ((t.take m).reverse) p + ((p ^ m : Nat) : Int) * c := by
    have := congrArg (fun z : ZX => z.v (p : Int)) (P_snoc (t.take m).reverse c)
    simp only [P_v, add_v, mul_v, pow_v, X_v, C_v, List.length_reverse, hlt] at this
    rw [this, Int.natCast_pow]
  have hr : 0 ≤ hv (t.take m).reverse (p : Int) := (nl_num fun x hx => m1.1 x (List.mem_cons_of_mem _ (List.mem_of_mem_take (List.mem_reverse.1 hx)))).1
  rw [e, Nat.add_sub_cancel]
  have : ((p ^ m : Nat) : Int) * 1 ≤ ((p ^ m : Nat) : Int) * c := Int.mul_le_mul_of_nonneg_left (by omega) (by omega)
  omega
theorem Modulus_both {p n : Nat} (hp : Prm p) (hP : p ≤ 65521) (h1 : 1 ≤ n) (hn : n ≤ 16) : ∃ l : List Int, l.length ≤ 1000 ∧ Ev (fun k => finitefield_Modulus.f k p n) (l, 0) ∧ Ev (fun k => galoisref15_Modulus.f k p n) l := by
  obtain ⟨W, hW, hWl, hD, hWv⟩ := exists_monic hp h1
  obtain ⟨A, hA, hAl, hAv, eA, eA2⟩ : ∃ A : List Int, Rs p A ∧ A.length = n ∧ hv A p ≤ hv W p ∧
      A.reverse ++ [1] = (if 1 < n then ((List.replicate (n + 1) (0 : Int)).set n 1).set 0 1 else (List.replicate (n + 1) (0 : Int)).set n 1) ∧ A.reverse = (if 1 < n then (List.replicate n (0 : Int)).set 0 1 else List.replicate n (0 : Int)) := by
    have hW0 := (nl_num hW).1
    by_cases hn1 : n = 1
    · subst hn1
      exact ⟨[0], fun c hc => by simp only [List.mem_singleton] at hc; have := prm_pos hp; omega, rfl, by simpa [hv] using hW0, by simp, by simp⟩
    · obtain ⟨m, rfl⟩ : ∃ m, n = m + 2 := ⟨n - 2, by omega⟩
      refine ⟨List.replicate (m + 1) 0 ++ [1], ?_, by simp, ?_, ?_, ?_⟩
      · intro c hc
        have := hp.1
        simp only [List.mem_append, List.mem_replicate, List.mem_singleton] at hc
        omega
      · have e := congrArg (fun z : ZX => z.v (p : Int)) (P_snoc (List.replicate (m + 1) 0) 1)
        rw [P_zeros] at e
        simp only [P_v, add_v, mul_v, pow_v, X_v, C_v, zero_v, List.length_replicate] at e
        rw [e]
        have := hWv (by omega)
        rw [show m + 2 - 1 = m + 1 by omega, Int.natCast_pow] at this
        omega
      · rw [if_pos (by omega)]
        simp [List.replicate_succ, List.reverse_append]
        apply List.ext_getElem
        · simp
        · intro i h1 h2
          simp only [List.getElem_append, List.getElem_set, List.getElem_replicate, List.length_replicate, List.length_append, List.length_cons, List.getElem_cons, List.length_nil] at *
          grind
      · rw [if_pos (by omega)]
        simp [List.replicate_succ, List.reverse_append]
        rw [← List.replicate_succ', List.replicate_succ]
  obtain ⟨l, hl, ⟨K, hK⟩, K2, hK2⟩ := search hp hP h1 (by omega) hW hWl hD (hv W p - hv A p).toNat A hA hAl (by omega)
  obtain ⟨K3, hK3⟩ := polymod_Check_spec (p : Int) []
  have hc0 : ckP (p : Int) [] = 0 := ckP_of hp hP NL.nil (by simp)
  rw [hc0] at hK3
  dsimp only at hK hK2 hK3
  rw [eA] at hK
  rw [eA2] at hK2
  clear eA eA2 hAv hAl hA hWv hD hWl hW
  refine ⟨l, hl, ⟨K + K3 + 2, fun k hk => ?_⟩, K2 + 1, fun k hk => ?_⟩
  · obtain ⟨k1, rfl, hk1⟩ := ex_succ hk
    obtain ⟨k2, rfl, hk2⟩ := ex_succ (K := K + K3) (k := k1) (by omega)
    have e1 : wrap64 ((n : Int) + 1) = ((n + 1 : Nat) : Int) := by rw [wrap_id (by omega) (by omega)]; omega
    simp only [finitefield_Modulus.f]
    rw [hK3 _ (by omega), Option.bind_some, if_pos rfl, if_neg (by omega), decide_eq_false (by omega)]
    simp only [finitefield_Modulus.j0, finitefield_Modulus.j1]
    rw [if_neg (by simp), e1, if_pos (by omega), if_pos (by omega), Option.bind_some, Int.toNat_natCast, if_pos (by omega), if_pos (by simp; omega), Option.bind_some, Int.toNat_natCast]
    by_cases hn1 : 1 < n
    · have := hK k2 (by omega)
      rw [if_pos hn1] at this
      rw [if_pos (by omega), if_pos (by simp)]
      exact this
    · have := hK k2 (by omega)
      rw [if_neg hn1] at this
      rw [if_neg (by omega)]
      exact this
  · obtain ⟨k1, rfl, hk1⟩ := ex_succ hk
    simp only [galoisref15_Modulus.f, galoisref15_Modulus.j0]
    rw [if_pos (by omega), if_pos (by omega), Option.bind_some, Int.toNat_natCast]
    by_cases hn1 : 1 < n
    · have := hK2 k1 (by omega)
      rw [if_pos hn1] at this
      rw [if_pos (by omega), if_pos (by simp; omega)]
      exact this
    · have := hK2 k1 (by omega)
      rw [if_neg hn1] at this
      rw [if_neg (by omega)]
      exact this
theorem Modulus_bad {p n : Int} (h : ¬ (PrmI p ∧ 1 ≤ n ∧ n ≤ 16)) : Ev (fun k => finitefield_Modulus.f k p n) ([], if PrmI p then 3 else 7) := by
  obtain ⟨K3, hK3⟩ := polymod_Check_spec p []
  dsimp only at hK3
  by_cases hp : PrmI p
  · obtain ⟨q, rfl⟩ : ∃ q : Nat, p = q := ⟨p.toNat, by have := hp.1; omega⟩
    have hc0 : ckP (q : Int) [] = 0 := ckP_of (by simpa using hp.2.2) (by have := hp.2.1; omega) NL.nil (by simp)
    rw [hc0] at hK3
    rw [if_pos hp]
    refine ⟨K3 + 1, fun k hk => ?_⟩
    obtain ⟨k1, rfl, hk1⟩ := ex_succ hk
    simp only [finitefield_Modulus.f]
    rw [hK3 _ (by omega), Option.bind_some, if_pos rfl]
    by_cases h1 : n < 1
    · rw [if_pos h1]; simp only [finitefield_Modulus.j0]; rw [if_pos trivial]
    · have hn : n > 16 := by
        by_cases h2 : n ≤ 16
        · exact absurd ⟨hp, by omega, h2⟩ h
        · omega
      rw [if_neg h1, decide_eq_true hn]; simp only [finitefield_Modulus.j0]; rw [if_pos trivial]
  · have hc : ckP p [] = 7 := by unfold ckP; rw [if_pos hp]
    rw [hc] at hK3
    rw [if_neg hp]
    refine ⟨K3, fun k hk => ?_⟩
    simp only [finitefield_Modulus.f]
    rw [hK3 _ hk, Option.bind_some, if_neg (by decide)]
theorem FinitefieldModuli : galoislaw15_FinitefieldModuli.Pure := by
  intro p n _ _
  obtain ⟨Ka, ha⟩ := awake_ev
  obtain ⟨K1, h1⟩ := ref09_IsPrime_spec p
  dsimp only at h1
  by_cases hp : PrmI p
  · rw [decide_eq_true hp] at h1
    by_cases hn : 1 ≤ n ∧ n ≤ 16
    · by_cases hs : p > 50 ∨ n > 8
      · refine ⟨Ka + K1 + 1, ?_⟩
        simp only [galoislaw15_FinitefieldModuli.f]
        rw [ha _ (by omega), Option.bind_some, if_pos rfl, h1 _ (by omega), Option.bind_some, if_pos rfl, if_pos hn.1, if_pos hn.2]
        by_cases h50 : p > 50
        · rw [if_pos h50]; simp only [galoislaw15_FinitefieldModuli.j0]; rw [if_pos trivial]
        · rw [if_neg h50, decide_eq_true (by omega)]; simp only [galoislaw15_FinitefieldModuli.j0]; rw [if_pos trivial]
      · obtain ⟨q, rfl⟩ : ∃ q : Nat, p = q := ⟨p.toNat, by have := hp.1; omega⟩
        obtain ⟨m, rfl⟩ : ∃ m : Nat, n = m := ⟨n.toNat, by omega⟩
        obtain ⟨l, hl, ⟨K2, h2⟩, K3, h3⟩ := Modulus_both (p := q) (n := m) (by simpa using hp.2.2) (by have := hp.2.1; omega) (by omega) (by omega)
        obtain ⟨K4, h4⟩ := right_ok l (by omega)
        dsimp only at h2 h3 h4
        refine ⟨Ka + K1 + K2 + K3 + K4 + 2, ?_⟩
        simp only [galoislaw15_FinitefieldModuli.f]
        rw [ha _ (by omega), Option.bind_some, if_pos rfl, h1 _ (by omega), Option.bind_some, if_pos rfl, if_pos hn.1, if_pos hn.2, if_neg (by omega), decide_eq_false (by omega)]
        simp only [galoislaw15_FinitefieldModuli.j0]
        rw [if_neg (by simp), h2 _ (by omega), Option.bind_some, h1 _ (by omega), Option.bind_some, if_pos rfl, if_neg (by omega), decide_eq_false (by omega)]
        simp only [galoislaw15_FinitefieldModuli.j1]
        rw [if_neg (by simp), h3 _ (by omega), Option.bind_some, h4 _ (by omega), Option.bind_some]
    · obtain ⟨K2, h2⟩ := Modulus_bad (p := p) (n := n) (fun h => hn h.2)
      dsimp only at h2
      rw [if_pos hp] at h2
      refine ⟨Ka + K1 + K2 + 2, ?_⟩
      have tail : galoislaw15_FinitefieldModuli.j0 (Ka + K1 + K2 + 2) p n false = some true := by
        simp only [galoislaw15_FinitefieldModuli.j0]
        rw [if_neg (by simp), h2 _ (by omega), Option.bind_some, h1 _ (by omega), Option.bind_some, if_pos rfl]
        by_cases h : n < 1
        · rw [if_pos h]; simp only [galoislaw15_FinitefieldModuli.j1]; rw [if_pos trivial, right_bad (by decide), Option.bind_some]
        · rw [if_neg h, decide_eq_true (by omega)]; simp only [galoislaw15_FinitefieldModuli.j1]; rw [if_pos trivial, right_bad (by decide), Option.bind_some]
      simp only [galoislaw15_FinitefieldModuli.f]
      rw [ha _ (by omega), Option.bind_some, if_pos rfl, h1 _ (by omega), Option.bind_some, if_pos rfl]
      by_cases g1 : n ≥ 1
      · rw [if_pos g1, if_neg (by omega)]; exact tail
      · rw [if_neg g1]; exact tail
  · rw [decide_eq_false hp] at h1
    obtain ⟨K2, h2⟩ := Modulus_bad (p := p) (n := n) (fun h => hp h.1)
    dsimp only at h2
    rw [if_neg hp] at h2
    refine ⟨Ka + K1 + K2 + 1, ?_⟩
    simp only [galoislaw15_FinitefieldModuli.f]
    rw [ha _ (by omega), Option.bind_some, if_pos rfl, h1 _ (by omega), Option.bind_some, if_neg (by simp)]
    simp only [galoislaw15_FinitefieldModuli.j0]
    rw [if_neg (by simp), h2 _ (by omega), Option.bind_some, h1 _ (by omega), Option.bind_some, if_neg (by simp), right_bad (by decide), Option.bind_some]
end Go.Proofs.Ytalnaafmonmlmaa.Pure
end

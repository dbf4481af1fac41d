/- Machine side and arithmetic of the law, put together by a program of the session. No conditions. -/
import Derived.WalkKit
import Derived.WalkSmall
import Derived.KernelRfl
import Derived.Test.YtillaipaanancaaGreatKdc0
import Derived.Test.YtillaipaanancaaGreatKdc18
import Derived.Test.YtillaipaanancaaGreatKdc19
import Derived.Test.YtillaipaanancaaGreatKdc21
import Derived.Test.YtillaipaanancaaGreatKdc23
section
namespace Go.Proofs.YtillaipaanancaaGreat.Q
open Go.RowKit Go.Proofs.YtillaipaanancaaGreatW.PrintWords Go.Proofs.YtillaipaanancaaGreatW.PrintLast Go.Proofs.YtillaipaanancaaGreatW.PrintMore Go.Proofs.YtillaipaanancaaGreat.M Go.Proofs.YtillaipaanancaaGreat.M.ZX
set_option linter.unusedVariables false
set_option linter.unusedSimpArgs false
theorem ord_inj {p : Nat} {f A : ZX} {k i j : Nat} (h : IsOrd p f A k) (hij : i < j) (hj : j < k) : ¬ Cg p f (A ^ i) (A ^ j) := by
 intro hc
 have h1 : Cg p f (A ^ (i + (k - j))) 1 := by
  rw [pow_add]
  refine (hc.mul (Cg.refl _)).trans ?_
  rw [← pow_add, show j + (k - j) = k by omega]
  exact h.2.1
 have := Nat.le_of_dvd (by omega) ((h.dvd_iff _).1 h1)
 omega
theorem ord_inj' {p : Nat} {f A : ZX} {k i j : Nat} (h : IsOrd p f A k) (hi : i < k) (hj : j < k) (hc : Cg p f (A ^ i) (A ^ j)) : i = j := by
 rcases Nat.lt_trichotomy i j with h1 | h1 | h1
 ·exact absurd hc (ord_inj h h1 hj)
 ·exact h1
 ·exact absurd hc.symm (ord_inj h h1 hi)
section
variable {q : Nat} {f : List Int} (hF : Fld q f)
include hF
theorem pow_le_Q {n : Nat} (h : n < f.length) : q ^ n ≤ Qn q f := Nat.pow_le_pow_right (by have := hF.prm.1; omega) (by omega)
theorem num_bound {l : List Int} {x : ZX} (hl : El q f l x) : 0 ≤ hv l q ∧ hv l q < Qn q f := by
 have h1 := nl_num (p := q) hl.1.1
 have h2 := pow_le_Q hF hl.2.1
 omega
theorem num_el {l : List Int} {x : ZX} (hl : El q f l x) : ∃ n : Nat, hv l q = n ∧ n < Qn q f ∧ l = dg q n := by
 have h := num_bound hF hl
 exact ⟨(hv l q).toNat, by omega, by omega, (dg_num hF.prm.1 hl.1).symm⟩
theorem num_eq {l m : List Int} {x y : ZX} (hl : El q f l x) (hm : El q f m y) (h : hv l q = hv m q) : Cg q (P f) x y := by
 have e : l = m := by rw [← dg_num hF.prm.1 hl.1, ← dg_num hF.prm.1 hm.1, h]
 subst e
 exact hl.2.2.symm.trans hm.2.2
section
variable {G : ZX} (ho : IsOrd q (P f) G (Qn q f - 1))
include ho
theorem gpow_ne (k : Nat) : ¬ In q (P f) (G ^ k) := by
 intro h
 have h1 : In q (P f) (G ^ (k * (Qn q f - 1))) := by
  have hp := Qn_pos hF
  rw [show k * (Qn q f - 1) = k * (Qn q f - 1 - 1) + k by rw [← Nat.mul_succ]; congr 1; omega, pow_add]
  exact h.mul' _
 rw [Nat.mul_comm, pow_mul] at h1
 exact not_in_one hF.prm hF.nl hF.two ((Cg.one_pow ho.2.1 k).in_iff.1 h1)
theorem lg_exists {n : Nat} (hn : n < Qn q f) (h0 : n ≠ 0) : ∃ k, k < Qn q f - 1 ∧ Cg q (P f) (P (dg q n)) (G ^ k) := by
 have hp := Qn_pos hF
 let φ : Nat → Nat := fun m => (hv (rm q f (G ^ (m - 1))) q).toNat
 have hel : ∀ m, El q f (rm q f (G ^ (m - 1))) (G ^ (m - 1)) := fun m => El.rm hF _
 have hmem : ∀ x, x ∈ List.range' 1 (Qn q f - 1) ↔ 1 ≤ x ∧ x < Qn q f := fun x => by rw [List.mem_range'_1]; omega
 have hperm := perm_map_self (l := List.range' 1 (Qn q f - 1)) List.nodup_range' φ (fun m hm => by
  rw [hmem]
  have hb := num_bound hF (hel m)
  refine ⟨?_, by show (hv _ q).toNat < _; omega⟩
  rcases Int.lt_or_le 0 (hv (rm q f (G ^ (m - 1))) q) with h | h
  ·show 1 ≤ (hv _ q).toNat; omega
  ·exact absurd (((hel m).nil_iff hF).1 (nl_num_zero (hel m).1.1 (hel m).1.2 (by omega))) (gpow_ne hF ho _)) (fun m hm m' hm' e => by
  rw [hmem] at hm hm'
  have b1 := num_bound hF (hel m)
  have b2 := num_bound hF (hel m')
  have e : (hv (rm q f (G ^ (m - 1))) q).toNat = (hv (rm q f (G ^ (m' - 1))) q).toNat := e
  have := ord_inj' ho (by omega) (by omega) (num_eq hF (hel m) (hel m') (by omega))
  omega)
 have h1 : n ∈ (List.range' 1 (Qn q f - 1)).map φ := hperm.mem_iff.2 ((hmem n).2 ⟨by omega, hn⟩)
 obtain ⟨m, hm, e⟩ := List.mem_map.1 h1
 rw [hmem] at hm
 refine ⟨m - 1, by omega, ?_⟩
 have e2 : dg q n = rm q f (G ^ (m - 1)) := by rw [← e]; exact dg_num hF.prm.1 (hel m).1
 rw [e2]
 exact (hel m).2.2
def IsLg (q : Nat) (f : List Int) (G : ZX) (n : Nat) (L : Int) : Prop := (n = 0 ∧ L = -1) ∨ (n ≠ 0 ∧ ∃ k : Nat, L = k ∧ k < Qn q f - 1 ∧ Cg q (P f) (P (dg q n)) (G ^ k))
theorem lg_el {l : List Int} {k : Nat} (hl : El q f l (G ^ k)) (hk : k < Qn q f - 1) : IsLg q f G (hv l q).toNat k := by
 refine .inr ⟨fun h => ?_, k, rfl, hk, ?_⟩
 ·have hb := num_bound hF hl
  exact gpow_ne hF ho k ((hl.nil_iff hF).1 (nl_num_zero hl.1.1 hl.1.2 (by omega)))
 ·rw [dg_num hF.prm.1 hl.1]; exact hl.2.2
end
end
end Go.Proofs.YtillaipaanancaaGreat.Q
end
section
namespace Go.Proofs.YtillaipaanancaaGreat.Q
open Go.RowKit Go.Proofs.YtillaipaanancaaGreatW.PrintWords Go.Proofs.YtillaipaanancaaGreatW.PrintLast Go.Proofs.YtillaipaanancaaGreatW.PrintMore Go.Proofs.YtillaipaanancaaGreat.M Go.Proofs.YtillaipaanancaaGreat.M.ZX
set_option linter.unusedVariables false
set_option linter.unusedSimpArgs false
noncomputable def opE (q : Nat) (f : List Int) (most : Nat) : List (List Int) → Int × Int
 | [] => if Qn q f ≤ 2147483647 ∧ Qn q f ≤ most then (((Qn q f : Nat) : Int), 0) else (0, 5)
 | l :: ls => if ckE q f l = 0 then opE q f most ls else (0, ckE q f l)
section
variable {q : Nat} {f : List Int} (hF : Fld q f)
include hF
theorem open_loop (most : Nat) (ls : List (List Int)) (hn : ls.length ≤ 1000) : ∀ (d i : Nat), i + d = ls.length → Ev (fun k => dl_open.l0 k (most : Int) ls (ls.length : Int) (i : Int) q f q f) ((q : Int), f, (opE q f most (ls.drop i)).1, (opE q f most (ls.drop i)).2) := by
 intro d
 induction d with
 | zero =>
  intro i hi
  obtain ⟨K, hK⟩ := gf_Size_ok hF
  rw [List.drop_of_length_le (by omega)]
  dsimp only at hK
  refine ⟨K + 1, fun k hk => ?_⟩
  obtain ⟨k', rfl, hk'⟩ := ex_succ hk
  simp only [dl_open.l0]
  rw [if_neg (by omega), hK k' (by omega), Option.bind_some]
  unfold opE
  by_cases h1 : Qn q f ≤ 2147483647
  ·rw [if_pos h1, if_pos rfl]
   by_cases h2 : Qn q f ≤ most
   ·rw [if_neg (by omega), if_pos ⟨h1, h2⟩]
   ·rw [if_pos (by omega), if_neg (fun h => h2 h.2)]
  ·rw [if_neg h1, if_neg (by simp), if_neg (fun h => h1 h.1)]
 | succ d ih =>
  intro i hi
  obtain ⟨K1, h1⟩ := pm_Check_spec (q : Int) (ls.getD i [])
  obtain ⟨K2, h2⟩ := ih (i + 1) (by omega)
  dsimp only at h1 h2
  have e : ls.drop i = ls.getD i [] :: ls.drop (i + 1) := by rw [List.drop_eq_getElem_cons (by omega), List.getD_eq_getElem?_getD, List.getElem?_eq_getElem (by omega)]; rfl
  have hr : rd_L1 ls (i : Int) = ls.getD i [] := by unfold rd_L1; rw [Int.toNat_natCast]
  refine ⟨K1 + K2 + 1, fun k hk => ?_⟩
  obtain ⟨k', rfl, hk'⟩ := ex_succ hk
  simp only [dl_open.l0]
  rw [if_pos (by omega), if_pos (by omega), if_pos (by omega), hr, h1 k' (by omega), Option.bind_some, e]
  unfold opE ckE
  by_cases h0 : ckP q (ls.getD i []) = 0
  ·rw [if_pos h0, if_pos h0]
   by_cases h3 : (ls.getD i []).length ≥ f.length
   ·rw [if_pos (by omega), if_pos h3, if_neg (by decide)]
   ·rw [if_neg (by omega), if_neg h3, if_pos rfl, succ_wrap (by omega)]
    exact h2 k' (by omega)
  ·rw [if_neg h0, if_neg h0, if_neg h0]
theorem open_ok (most : Nat) (ls : List (List Int)) (hn : ls.length ≤ 1000) : Ev (fun k => dl_open.f k q f (most : Int) ls) ((q : Int), f, (opE q f most ls).1, (opE q f most ls).2) := by
 obtain ⟨K1, h1⟩ := Check_ok hF
 obtain ⟨K2, h2⟩ := open_loop hF most ls hn ls.length 0 (by omega)
 rw [List.drop_zero] at h2
 dsimp only at h1 h2
 refine ⟨K1 + K2, fun k hk => ?_⟩
 simp only [dl_open.f]
 rw [h1 k (by omega), Option.bind_some, if_pos rfl]
 exact h2 k (by omega)
theorem opE_ok {most : Nat} (hQ : Qn q f ≤ 2147483647) (hm : Qn q f ≤ most) : ∀ {ls : List (List Int)}, (∀ l ∈ ls, ckE q f l = 0) → opE q f most ls = (((Qn q f : Nat) : Int), 0)
 | [], _ => by have _ := hF; unfold opE; rw [if_pos ⟨hQ, hm⟩]
 | l :: ls, h => by
  unfold opE
  rw [if_pos (h l List.mem_cons_self)]
  exact opE_ok hQ hm fun x hx => h x (List.mem_cons_of_mem _ hx)
end
end Go.Proofs.YtillaipaanancaaGreat.Q
end
section
namespace Go.Proofs.YtillaipaanancaaGreat.Q
open Go.RowKit Go.Proofs.YtillaipaanancaaGreatW.PrintWords Go.Proofs.YtillaipaanancaaGreatW.PrintLast Go.Proofs.YtillaipaanancaaGreatW.PrintMore Go.Proofs.YtillaipaanancaaGreat.M Go.Proofs.YtillaipaanancaaGreat.M.ZX
set_option linter.unusedVariables false
set_option linter.unusedSimpArgs false
section
variable {q : Nat} {f : List Int} (hF : Fld q f)
include hF
theorem opE_one {most : Nat} (hQ : Qn q f ≤ 2147483647) (hm : Qn q f ≤ most) {g : List Int} {x : ZX} (hg : El q f g x) : opE q f most [g] = (((Qn q f : Nat) : Int), 0) :=
 opE_ok hF hQ hm (by intro l hl; rw [List.mem_singleton] at hl; subst hl; exact ckE_of hF hg.1 hg.2.1)
theorem el_log {G : ZX} (ho : IsOrd q (P f) G (Qn q f - 1)) {a : List Int} {x : ZX} (ha : El q f a x) (hne : a ≠ []) : ∃ L n : Nat, L < Qn q f - 1 ∧ El q f a (G ^ L) ∧ hv a q = n ∧ 1 ≤ n ∧ n < Qn q f ∧ IsLg q f G n L := by
 obtain ⟨n, hn, hnlt, hdg⟩ := num_el hF ha
 have hn0 : n ≠ 0 := by
  rintro rfl
  exact hne (nl_num_zero ha.1.1 ha.1.2 (by omega))
 obtain ⟨L, hL, hc⟩ := lg_exists hF ho hnlt hn0
 rw [← hdg] at hc
 have he : El q f a (G ^ L) := ⟨ha.1, ha.2.1, hc⟩
 have e1 := lg_el hF ho he hL
 rw [hn, Int.toNat_natCast] at e1
 exact ⟨L, n, hL, he, hn, by omega, hnlt, e1⟩
end
end Go.Proofs.YtillaipaanancaaGreat.Q
end
section
namespace Go.Proofs.YtillaipaanancaaGreat.Q
open Go.RowKit Go.Proofs.YtillaipaanancaaGreatW.PrintWords Go.Proofs.YtillaipaanancaaGreatW.PrintLast Go.Proofs.YtillaipaanancaaGreatW.PrintMore Go.Proofs.YtillaipaanancaaGreat.M Go.Proofs.YtillaipaanancaaGreat.M.ZX
set_option linter.unusedVariables false
set_option linter.unusedSimpArgs false
theorem sol_iff {N m L k0 : Nat} (hN : 0 < N) (hk0 : (k0 * m) % N = L) (k : Nat) : (k * m) % N = L ↔ k % (N / Nat.gcd m N) = k0 % (N / Nat.gcd m N) := by
 have hg : 0 < Nat.gcd m N := Nat.gcd_pos_of_pos_right _ hN
 obtain ⟨N', hN'⟩ := Nat.gcd_dvd_right m N
 obtain ⟨m', hm'⟩ := Nat.gcd_dvd_left m N
 generalize hge : Nat.gcd m N = g at *
 have eN : N / g = N' := by rw [hN', Nat.mul_div_cancel_left _ hg]
 have hcop : Nat.gcd N' m' = 1 := by
  have h1 : Nat.gcd (g * m') (g * N') = g := by rw [← hm', ← hN', hge]
  rw [Nat.gcd_mul_left] at h1
  have h2 : g * Nat.gcd m' N' = g * 1 := by rw [Nat.mul_one]; exact h1
  rw [Nat.gcd_comm]
  exact Nat.eq_of_mul_eq_mul_left hg h2
 rw [eN]
 have key : ∀ a b : Nat, a ≤ b → ((a * m) % N = (b * m) % N ↔ a % N' = b % N') := fun a b hab => by
  constructor
  ·intro h
   have h1 : N ∣ b * m - a * m := Nat.dvd_of_mod_eq_zero (Nat.sub_mod_eq_zero_of_mod_eq h.symm)
   rw [← Nat.sub_mul, hN', hm', Nat.mul_left_comm] at h1
   have h2 : N' ∣ (b - a) * m' := Nat.dvd_of_mul_dvd_mul_left hg h1
   obtain ⟨c, hc⟩ := Nat.Coprime.dvd_of_dvd_mul_right hcop h2
   have : b = a + N' * c := by omega
   rw [this, Nat.add_mul_mod_self_left]
  ·intro h
   have h1 : N' ∣ b - a := Nat.dvd_of_mod_eq_zero (Nat.sub_mod_eq_zero_of_mod_eq h.symm)
   obtain ⟨c, hc⟩ := h1
   have e : b * m = a * m + N * (c * m') := by
    have : b = a + N' * c := by omega
    rw [this, Nat.add_mul]
    congr 1
    rw [hN', hm']
    ac_rfl
   rw [e, Nat.add_mul_mod_self_left]
 rw [← hk0]
 rcases Nat.le_total k k0 with h | h
 ·exact key k k0 h
 ·exact ⟨fun e => ((key k0 k h).1 e.symm).symm, fun e => ((key k0 k h).2 e.symm).symm⟩
theorem sol_count {N m L k0 : Nat} (hN : 0 < N) (hk0 : (k0 * m) % N = L) : ((List.range N).filter fun k => decide ((k * m) % N = L)).length = Nat.gcd m N := by
 have hg : 0 < Nat.gcd m N := Nat.gcd_pos_of_pos_right _ hN
 obtain ⟨N', hN'⟩ := Nat.gcd_dvd_right m N
 have eN : N / Nat.gcd m N = N' := by
  have := Nat.mul_div_cancel_left N' hg
  rw [← hN'] at this; exact this
 have hN0 : 0 < N' := Nat.pos_of_ne_zero (by rintro rfl; omega)
 have hperm : ((List.range (Nat.gcd m N)).map fun t => k0 % N' + t * N').Perm ((List.range N).filter fun k => decide ((k * m) % N = L)) := by
  refine (List.perm_ext_iff_of_nodup ?_ (List.nodup_range.filter _)).2 fun k => ?_
  ·rw [List.nodup_iff_pairwise_ne, List.pairwise_map]
   refine List.Pairwise.imp (fun {a b} hab h => hab ?_) (List.nodup_iff_pairwise_ne.1 List.nodup_range)
   have : a * N' = b * N' := by omega
   exact Nat.eq_of_mul_eq_mul_right hN0 this
  ·have hlt := Nat.mod_lt k0 hN0
   rw [List.mem_map, List.mem_filter, List.mem_range, decide_eq_true_iff, sol_iff hN hk0, eN]
   constructor
   ·rintro ⟨t, ht, rfl⟩
    rw [List.mem_range] at ht
    refine ⟨?_, by rw [Nat.add_mul_mod_self_right, Nat.mod_mod]⟩
    have h1 : (t + 1) * N' ≤ Nat.gcd m N * N' := Nat.mul_le_mul_right _ ht
    rw [Nat.add_mul, Nat.one_mul] at h1
    omega
   ·rintro ⟨h1, h2⟩
    refine ⟨k / N', ?_, ?_⟩
    ·rw [List.mem_range]
     exact Nat.div_lt_of_lt_mul (by rw [Nat.mul_comm]; omega)
    ·have := Nat.div_add_mod k N'
     rw [Nat.mul_comm] at this
     rw [← h2]; omega
 rw [← hperm.length_eq, List.length_map, List.length_range]
section
variable {q : Nat} {f : List Int} (hF : Fld q f)
include hF
noncomputable def rootN (q : Nat) (f : List Int) (A : ZX) (m : Nat) : List Nat := open Classical in (List.range (Qn q f)).filter fun i => decide (Cg q (P f) (P (dg q i) ^ m) A)
theorem mem_rootN {A : ZX} {m i : Nat} : i ∈ rootN q f A m ↔ i < Qn q f ∧ Cg q (P f) (P (dg q i) ^ m) A := by
 have _ := hF
 unfold rootN
 rw [List.mem_filter, List.mem_range]
 exact ⟨fun h => ⟨h.1, @of_decide_eq_true _ (_) h.2⟩, fun h => ⟨h.1, @decide_eq_true _ (_) h.2⟩⟩
theorem nodup_rootN {A : ZX} {m : Nat} : (rootN q f A m).Nodup := by
 have _ := hF
 exact List.nodup_range.filter _
theorem len_rootN {A : ZX} {m : Nat} : (rootN q f A m).length ≤ Qn q f := by
 have _ := hF
 have := List.length_filter_le (p := fun i => @decide (Cg q (P f) (P (dg q i) ^ m) A) (Classical.propDecidable _)) (l := List.range (Qn q f))
 rw [List.length_range] at this
 exact this
theorem rootN_zero {A : ZX} {m : Nat} (hm : 1 ≤ m) (hA : In q (P f) A) : (rootN q f A m).length = 1 := by
 have hp := hF.prm
 have : (rootN q f A m).Perm [0] := by
  refine (List.perm_ext_iff_of_nodup (nodup_rootN hF) (by simp)).2 fun i => ?_
  rw [mem_rootN hF, List.mem_singleton]
  constructor
  ·rintro ⟨hi, hc⟩
   have h1 : In q (P f) (P (dg q i) ^ m) := hc.in_iff.2 hA
   have h2 : ∀ k, In q (P f) (P (dg q i) ^ (k + 1)) → In q (P f) (P (dg q i)) := by
    intro k
    induction k with
    | zero => intro h; rwa [pow_one] at h
    | succ k ih =>
     intro h
     rw [pow_succ] at h
     rcases hF.dom _ _ h with h | h
     ·exact ih h
     ·exact h
   exact (dg_zero_iff hp hF.nl hF.two hi).1 (h2 (m - 1) (by rw [show m - 1 + 1 = m by omega]; exact h1))
  ·rintro rfl
   have hpos := Qn_pos hF
   refine ⟨by omega, ?_⟩
   have e : P (dg q 0) = 0 := P_nil
   have h0 : In q (P f) (P (dg q 0) ^ m) := by
    rw [e, show m = (m - 1) + 1 by omega, pow_succ]
    exact In.zero.mul' _
   exact (Cg.of_in h0).trans (Cg.of_in hA).symm
 rw [this.length_eq]; rfl
section
variable {G : ZX} (ho : IsOrd q (P f) G (Qn q f - 1))
include ho
theorem cg_pow_iff {a b : Nat} : Cg q (P f) (G ^ a) (G ^ b) ↔ a % (Qn q f - 1) = b % (Qn q f - 1) := by
 have hpos := Qn_pos hF
 constructor
 ·intro h
  exact ord_inj' ho (Nat.mod_lt _ (by omega)) (Nat.mod_lt _ (by omega)) (((pow_mod_one ho.2.1 a).symm.trans h).trans (pow_mod_one ho.2.1 b))
 ·intro h
  refine (pow_mod_one ho.2.1 a).trans ?_
  rw [h]
  exact (pow_mod_one ho.2.1 b).symm
theorem rootN_len {m L : Nat} (hm : 1 ≤ m) (hL : L < Qn q f - 1) : (rootN q f (G ^ L) m).length = ((List.range (Qn q f - 1)).filter fun k => decide ((k * m) % (Qn q f - 1) = L)).length := by
 have hpos := Qn_pos hF
 have hp2 := hF.prm.1
 let φ : Nat → Nat := fun k => (hv (rm q f (G ^ k)) q).toNat
 have hel : ∀ k : Nat, El q f (rm q f (G ^ k)) (G ^ k) := fun k => El.rm hF _
 have hdg : ∀ k : Nat, dg q (φ k) = rm q f (G ^ k) := fun k => dg_num hp2 (hel k).1
 have hperm : (((List.range (Qn q f - 1)).filter fun k => decide ((k * m) % (Qn q f - 1) = L)).map φ).Perm (rootN q f (G ^ L) m) := by
  refine (List.perm_ext_iff_of_nodup ?_ (nodup_rootN hF)).2 fun i => ?_
  ·rw [List.nodup_iff_pairwise_ne, List.pairwise_map]
   refine List.Pairwise.imp_of_mem (fun {a b} ha hb hab h => hab ?_) (List.nodup_iff_pairwise_ne.1 (List.nodup_range.filter _))
   have ha := List.mem_range.1 (List.mem_filter.1 ha).1
   have hb := List.mem_range.1 (List.mem_filter.1 hb).1
   have b1 := num_bound hF (hel a)
   have b2 := num_bound hF (hel b)
   have h : (hv (rm q f (G ^ a)) q).toNat = (hv (rm q f (G ^ b)) q).toNat := h
   exact ord_inj' ho ha hb (num_eq hF (hel a) (hel b) (by omega))
  ·rw [List.mem_map, mem_rootN hF]
   constructor
   ·rintro ⟨k, hk, rfl⟩
    obtain ⟨h1, h2⟩ := List.mem_filter.1 hk
    have h2 := of_decide_eq_true h2
    have b1 := num_bound hF (hel k)
    refine ⟨by show (hv _ q).toNat < _; omega, ?_⟩
    rw [hdg]
    refine ((hel k).2.2.pow m).trans ?_
    rw [← pow_mul, cg_pow_iff hF ho, h2, Nat.mod_eq_of_lt hL]
   ·rintro ⟨hi, hc⟩
    have hi0 : i ≠ 0 := by
     rintro rfl
     have e : P (dg q 0) = 0 := P_nil
     have h0 : In q (P f) (P (dg q 0) ^ m) := by
      rw [e, show m = (m - 1) + 1 by omega, pow_succ]
      exact In.zero.mul' _
     exact gpow_ne hF ho L (hc.in_iff.1 h0)
    obtain ⟨k, hk, hck⟩ := lg_exists hF ho hi hi0
    refine ⟨k, List.mem_filter.2 ⟨List.mem_range.2 hk, decide_eq_true ?_⟩, ?_⟩
    ·have := ((hck.pow m).symm.trans hc)
     rw [← pow_mul, cg_pow_iff hF ho, Nat.mod_eq_of_lt hL] at this
     exact this
    ·have h1 : rm q f (G ^ k) = dg q i := (hel k).eq hF ⟨(dg_el hF hi).1, (dg_el hF hi).2.1, hck⟩ (Cg.refl _)
     show (hv (rm q f (G ^ k)) q).toNat = i
     rw [h1, dg_val hp2]; rfl
 rw [← hperm.length_eq, List.length_map]
theorem rootN_count {m L : Nat} (hm : 1 ≤ m) (hL : L < Qn q f - 1) : (rootN q f (G ^ L) m).length = 0 ∨ (rootN q f (G ^ L) m).length = Nat.gcd m (Qn q f - 1) := by
 have hpos := Qn_pos hF
 rw [rootN_len hF ho hm hL]
 by_cases h : ∃ k0, (k0 * m) % (Qn q f - 1) = L
 ·obtain ⟨k0, hk0⟩ := h
  exact .inr (sol_count (by omega) hk0)
 ·left
  rw [List.length_eq_zero_iff, List.filter_eq_nil_iff]
  exact fun k _ hk => h ⟨k, of_decide_eq_true hk⟩
theorem rootN_some {m k0 : Nat} (hm : 1 ≤ m) : (rootN q f (G ^ ((k0 * m) % (Qn q f - 1))) m).length = Nat.gcd m (Qn q f - 1) := by
 have hpos := Qn_pos hF
 rw [rootN_len hF ho hm (Nat.mod_lt _ (by omega))]
 exact sol_count (by omega) rfl
end
theorem equal_loop (l m : List Int) (h : l.length = m.length) (hl : l.length ≤ 1000000) : ∀ (d i : Nat), i + d = l.length → (∀ j, j < i → l.getD j 0 = m.getD j 0) → Ev (fun k => api_ModPoly_int_66.l0 k l m (l.length : Int) i) (decide (l = m)) := by
 have _ := hF
 intro d
 induction d with
 | zero =>
  intro i hi he
  refine ⟨1, fun k hk => ?_⟩
  obtain ⟨k', rfl, hk'⟩ := ex_succ hk
  simp only [api_ModPoly_int_66.l0]
  rw [if_neg (by omega), decide_eq_true]
  refine ext_getD h fun j => ?_
  rcases Nat.lt_or_ge j i with h3 | h3
  ·exact he j h3
  ·rw [getD_of_len (by omega), getD_of_len (by omega)]
 | succ d ih =>
  intro i hi he
  by_cases hc : l.getD i 0 = m.getD i 0
  ·obtain ⟨K, hK⟩ := ih (i + 1) (by omega) (fun j hj => by
    rcases Nat.lt_or_ge j i with h3 | h3
    ·exact he j h3
    ·obtain rfl : j = i := by omega
     exact hc)
   dsimp only at hK
   refine ⟨K + 1, fun k hk => ?_⟩
   obtain ⟨k', rfl, hk'⟩ := ex_succ hk
   simp only [api_ModPoly_int_66.l0]
   rw [if_pos (by omega), if_pos (by omega), if_pos (by omega), if_pos (by omega), rd_nat, rd_nat, if_pos hc, succ_wrap (by omega)]
   exact hK k' hk'
  ·refine ⟨1, fun k hk => ?_⟩
   obtain ⟨k', rfl, hk'⟩ := ex_succ hk
   simp only [api_ModPoly_int_66.l0]
   rw [if_pos (by omega), if_pos (by omega), if_pos (by omega), if_pos (by omega), rd_nat, rd_nat, if_neg hc, decide_eq_false (fun e => hc (by rw [e]))]
theorem equal_ok (l m : List Int) (hl : l.length ≤ 1000000) : Ev (fun k => api_ModPoly_int_66.f k l m) (decide (l = m)) := by
 by_cases h : l.length = m.length
 ·obtain ⟨K, hK⟩ := equal_loop hF l m h hl l.length 0 (by omega) (fun j hj => by omega)
  dsimp only at hK
  refine ⟨K, fun k hk => ?_⟩
  simp only [api_ModPoly_int_66.f]
  rw [if_pos (by omega)]
  exact hK k hk
 ·refine ⟨0, fun k _ => ?_⟩
  simp only [api_ModPoly_int_66.f]
  rw [if_neg (by omega), decide_eq_false (fun e => h (by rw [e]))]
theorem roots_loop (hQ : Qn q f ≤ 4096) {a : List Int} {A : ZX} (ha : El q f a A) {m : Nat} (hm : m ≤ 2147483647) : ∀ (d i : Nat) (out : List (List Int)), i + d = Qn q f → out.length ≤ i → ∃ K, ∀ kk k, K ≤ kk → K ≤ k → dl_Roots.l0 kk q f a m (Qn q f) k i out = some (out ++ ((List.range' i d).filter fun i => @decide (Cg q (P f) (P (dg q i) ^ m) A) (Classical.propDecidable _)).map (dg q)) := by
 intro d
 induction d with
 | zero =>
  intro i out hi _
  refine ⟨1, fun kk k _ hk => ?_⟩
  obtain ⟨k', rfl, hk'⟩ := ex_succ hk
  simp only [dl_Roots.l0]
  rw [if_neg (by omega)]
  simp
 | succ d ih =>
  intro i out hi hl
  have hel := dg_el hF (show i < Qn q f by omega)
  obtain ⟨K1, h1⟩ := gf_Element_ok hF (m := i) (by omega)
  obtain ⟨c, hc, K2, h2⟩ := gf_Pow_ok hF hel (e := m) (by omega)
  obtain ⟨K3, h3⟩ := equal_ok hF c a (hc.small hF)
  have hiff : c = a ↔ Cg q (P f) (P (dg q i) ^ m) A := ⟨fun e => hc.2.2.symm.trans (e ▸ ha.2.2), fun h => hc.eq hF ha h⟩
  dsimp only at h1 h2 h3
  rw [List.range'_succ]
  by_cases he : Cg q (P f) (P (dg q i) ^ m) A
  ·obtain ⟨K4, h4⟩ := ih (i + 1) (out ++ [dg q i]) (by omega) (by simp; omega)
   refine ⟨K1 + K2 + K3 + K4 + 1, fun kk k hkk hk => ?_⟩
   obtain ⟨k', rfl, hk'⟩ := ex_succ hk
   simp only [dl_Roots.l0]
   rw [if_pos (by omega), h1 kk (by omega), Option.bind_some, h2 kk (by omega), Option.bind_some, h3 kk (by omega), Option.bind_some, decide_eq_true (hiff.2 he), if_pos rfl, if_pos (by omega), h4 kk k' (by omega) (by omega), List.filter_cons_of_pos (by simpa using he), List.map_cons, List.append_assoc]
   rfl
  ·obtain ⟨K4, h4⟩ := ih (i + 1) out (by omega) (by omega)
   refine ⟨K1 + K2 + K3 + K4 + 1, fun kk k hkk hk => ?_⟩
   obtain ⟨k', rfl, hk'⟩ := ex_succ hk
   simp only [dl_Roots.l0]
   rw [if_pos (by omega), h1 kk (by omega), Option.bind_some, h2 kk (by omega), Option.bind_some, h3 kk (by omega), Option.bind_some, decide_eq_false (fun e => he (hiff.1 e)), if_neg (by simp), h4 kk k' (by omega) (by omega), List.filter_cons_of_neg (by simpa using he)]
noncomputable def rootS (q : Nat) (f : List Int) (A : ZX) (m : Nat) : List (List Int) := ((rootN q f A m).map (dg q)).mergeSort fun x y => !decide (dlP y x < 0)
theorem rootS_perm {A : ZX} {m : Nat} : (rootS q f A m).Perm ((rootN q f A m).map (dg q)) := by
 have _ := hF
 exact List.mergeSort_perm _ _
theorem rootS_len {A : ZX} {m : Nat} : (rootS q f A m).length = (rootN q f A m).length := by
 rw [(rootS_perm hF).length_eq, List.length_map]
theorem rootS_sorted {A : ZX} {m : Nat} : (rootS q f A m).Pairwise fun x y => ¬ dlP y x < 0 := by
 have _ := hF
 have h := List.pairwise_mergeSort (le := fun x y => !decide (dlP y x < 0)) (fun a b c h1 h2 => by
  simp only [Bool.not_eq_true', decide_eq_false_iff_not] at h1 h2 ⊢
  intro h3
  have n1 := dlP_neg a b
  have n2 := dlP_neg b c
  have n3 := dlP_neg a c
  by_cases e : dlP b a = 0
  ·have := dlP_eq b a e; subst this; exact h2 h3
  ·exact h2 (dlP_trans c a b h3 (by omega))) (fun a b => by
  simp only [Bool.or_eq_true, Bool.not_eq_true', decide_eq_false_iff_not]
  have := dlP_neg a b
  omega) ((rootN q f A m).map (dg q))
 exact h.imp fun {a b} h => by simpa using h
theorem rootS_mem {A : ZX} {m : Nat} {x : List Int} : x ∈ rootS q f A m ↔ ∃ i, i < Qn q f ∧ Cg q (P f) (P (dg q i) ^ m) A ∧ x = dg q i := by
 rw [(rootS_perm hF).mem_iff, List.mem_map]
 constructor
 ·rintro ⟨i, hi, rfl⟩
  have := (mem_rootN hF).1 hi
  exact ⟨i, this.1, this.2, rfl⟩
 ·rintro ⟨i, h1, h2, rfl⟩
  exact ⟨i, (mem_rootN hF).2 ⟨h1, h2⟩, rfl⟩
theorem rootS_nodup {A : ZX} {m : Nat} : (rootS q f A m).Nodup := by
 rw [(rootS_perm hF).nodup_iff, List.nodup_iff_pairwise_ne, List.pairwise_map]
 refine List.Pairwise.imp (fun {a b} hab h => hab ?_) (List.nodup_iff_pairwise_ne.1 (nodup_rootN hF))
 have h1 := dg_val hF.prm.1 a
 have h2 := dg_val hF.prm.1 b
 rw [h, h2] at h1
 exact (Int.ofNat_inj.1 h1).symm
theorem Roots_ok (hQ : Qn q f ≤ 4096) {a : List Int} {A : ZX} (ha : El q f a A) {m : Nat} (h1 : 1 ≤ m) (hm : m ≤ 2147483647) : Ev (fun k => dl_Roots.f k q f a m) (rootS q f A m, 0) := by
 have hpos := Qn_pos hF
 obtain ⟨K1, k1⟩ := open_ok hF 4096 [a] (by simp)
 rw [opE_one hF (by omega) hQ ha] at k1
 obtain ⟨K2, k2⟩ := roots_loop hF hQ ha hm (Qn q f) 0 [] (by omega) (by simp)
 have e : (([] : List (List Int)) ++ ((List.range' 0 (Qn q f)).filter fun i => @decide (Cg q (P f) (P (dg q i) ^ m) A) (Classical.propDecidable _)).map (dg q)) = (rootN q f A m).map (dg q) := by
  rw [List.nil_append, ← List.range_eq_range']; rfl
 rw [e] at k2
 dsimp only at k1
 refine ⟨K1 + K2, fun k hk => ?_⟩
 simp only [dl_Roots.f]
 rw [show (4096 : Int) = ((4096 : Nat) : Int) from rfl, k1 k (by omega), Option.bind_some, if_pos rfl]
 dsimp only
 rw [if_neg (by omega), if_neg (by omega), if_pos (by omega), Int.toNat_natCast, k2 k k (by omega) (by omega), Option.bind_some, if_pos]
 ·rfl
 ·rw [List.all_eq_true]
  intro x hx
  obtain ⟨i, hi, rfl⟩ := List.mem_map.1 hx
  exact decide_eq_true ((dg_el hF ((mem_rootN hF).1 hi).1).small hF)
end
end Go.Proofs.YtillaipaanancaaGreat.Q
end
section
namespace Go.Proofs.YtillaipaanancaaGreat.Q
open Go.RowKit Go.Proofs.YtillaipaanancaaGreatW.PrintWords Go.Proofs.YtillaipaanancaaGreatW.PrintLast Go.Proofs.YtillaipaanancaaGreatW.PrintMore
set_option maxRecDepth 100000
theorem aw_1 (k : Nat) : dl_Table.f (k + 60) 7 [0, 1] [3] = some ([-1, 0, 2, 1, 4, 5, 3], 0) := by kernel_rfl
theorem aw_2 (k : Nat) : dl_Zech.f (k + 60) 2 [1, 1, 1] [0, 1] = some ([-1, 2, 1], 0) := by kernel_rfl
theorem aw_4 (k : Nat) : dl_Cosets.f (k + 60) 2 [1, 1, 0, 1] = some ([[0], [1, 2, 4], [3, 6, 5]], 0) := by kernel_rfl
theorem aw_5 (k : Nat) : dl_Log.f (k + 60) 7 [0, 1] [3] [6] = some (3, 0) := by kernel_rfl
theorem aw_6 (k : Nat) : dl_open.f (k + 60) 7 [0, 1] 4096 [[2]] = some (7, [0, 1], 7, 0) := by kernel_rfl
theorem aw_7 (k : Nat) : dl_Roots.l0 (k + 60) 7 [0, 1] [2] 2 (7 : Int).toNat (k + 60) 0 [] = some [[3], [4]] := by kernel_rfl
theorem aw_8 : [[3], [4]].mergeSort (fun x y => !decide (dlP y x < 0)) = [[3], [4]] := List.mergeSort_of_pairwise (by decide)
theorem aw_3 (k : Nat) : dl_Roots.f (k + 60) 7 [0, 1] [2] 2 = some ([[3], [4]], 0) := by
 unfold dl_Roots.f
 rw [aw_6, Option.bind_some, if_pos rfl, if_neg (by decide), if_neg (by decide), if_pos (by decide)]
 show (dl_Roots.l0 (k + 60) 7 [0, 1] [2] 2 (7 : Int).toNat (k + 60) 0 []).bind _ = _
 rw [aw_7, Option.bind_some, if_pos (by decide), aw_8]
theorem awake_ge (k : Nat) : l18awake.f (k + 60) = some true := by
 simp only [l18awake.f, l18seven.f, l18four.f, l18eight.f, Option.bind_some]
 rw [aw_1, Option.bind_some, aw_2, Option.bind_some, aw_3, Option.bind_some, aw_4, Option.bind_some, aw_5, Option.bind_some]
 kernel_rfl
theorem awake_ev : Ev l18awake.f true := ⟨60, fun k hk => by
 obtain ⟨j, rfl⟩ : ∃ j, k = j + 60 := ⟨k - 60, by omega⟩
 exact awake_ge j⟩
end Go.Proofs.YtillaipaanancaaGreat.Q
end
section
namespace Go.Proofs.YtillaipaanancaaGreat.Pure
open Go.RowKit Go.Proofs.YtillaipaanancaaGreatW.PrintWords Go.Proofs.YtillaipaanancaaGreatW.PrintLast Go.Proofs.YtillaipaanancaaGreatW.PrintMore Go.Proofs.YtillaipaanancaaGreat.M Go.Proofs.YtillaipaanancaaGreat.M.ZX Go.Proofs.YtillaipaanancaaGreat.Q
set_option linter.unusedVariables false
set_option linter.unusedSimpArgs false
theorem Gcd_spec : ∀ (b a : Nat), Ev (fun k => r4Gcd.f k (a : Int) (b : Int)) (Nat.gcd a b : Int) := by
 intro b
 induction b using Nat.strongRecOn with
 | ind b ih =>
  intro a
  by_cases hb : b = 0
  ·subst hb
   refine ⟨1, fun k hk => ?_⟩
   obtain ⟨j, rfl, _⟩ := ex_succ hk
   simp only [r4Gcd.f, r4Gcd.l0]
   rw [if_neg (by omega)]
   simp
  ·obtain ⟨K, h⟩ := ih (a % b) (Nat.mod_lt _ (by omega)) b
   refine ⟨K + 1, fun k hk => ?_⟩
   obtain ⟨j, rfl, hj⟩ := ex_succ hk
   have h1 := h j hj
   simp only [r4Gcd.f] at h1 ⊢
   rw [r4Gcd.l0, if_pos (by omega), if_neg (by omega), Int.tmod_eq_emod_of_nonneg (by omega), ← Int.natCast_emod, h1, Nat.gcd_comm a b, Nat.gcd_rec b a, Nat.gcd_comm]
theorem lexc_range : ∀ a b : List Int, lexc a b = 0 ∨ lexc a b = -1 ∨ lexc a b = 1
 | [], _ => .inl (by cases ‹List Int› <;> rfl)
 | _ :: _, [] => .inl rfl
 | a :: l, b :: m => by
  unfold lexc
  split
  ·exact lexc_range l m
  ·split
   ·exact .inr (.inl rfl)
   ·exact .inr (.inr rfl)
theorem cmpL_range (a b : List Int) : cmpL a b = 0 ∨ cmpL a b = -1 ∨ cmpL a b = 1 := by
 unfold cmpL
 split
 ·exact lexc_range a b
 ·split
  ·exact .inr (.inl rfl)
  ·exact .inr (.inr rfl)
section
variable {q : Nat} {f : List Int} (hF : Fld q f)
include hF
theorem rootS_asc {A : ZX} {m i : Nat} (h1 : i + 1 < (rootS q f A m).length) : cmpL ((rootS q f A m).getD i []) ((rootS q f A m).getD (i + 1) []) = -1 := by
 have hs := List.pairwise_iff_getElem.1 (rootS_sorted hF (A := A) (m := m)) i (i + 1) (by omega) h1 (by omega)
 have hn := List.pairwise_iff_getElem.1 (List.nodup_iff_pairwise_ne.1 (rootS_nodup hF (A := A) (m := m))) i (i + 1) (by omega) h1 (by omega)
 rw [List.getD_eq_getElem?_getD, List.getElem?_eq_getElem (by omega), List.getD_eq_getElem?_getD, List.getElem?_eq_getElem h1]
 generalize (rootS q f A m)[i] = x at *
 generalize (rootS q f A m)[i + 1] = y at *
 show cmpL x y = -1
 have n1 := dlP_neg y x
 have e0 : dlP x y ≠ 0 := fun e => hn (dlP_eq x y e)
 rw [← dlP_cmp]
 have := cmpL_range x y
 rw [← dlP_cmp] at this
 omega
theorem counts_loop {a : List Int} {A : ZX} (ha : El q f a A) {n : Nat} (hn : n ≤ 65536) {s : List (List Int)} (hlen : (rootS q f A n).length ≤ 4096)
  (hend : Ev (fun k => lw.l0 k a n (rootS q f A n) s ((rootS q f A n).length : Int) q f) true) : ∀ (d i : Nat), i + d = (rootS q f A n).length → Ev (fun k => lw.l0 k a n (rootS q f A n) s (i : Int) q f) true := by
 intro d
 induction d with
 | zero =>
  intro i hi
  obtain rfl : i = (rootS q f A n).length := by omega
  exact hend
 | succ d ih =>
  intro i hi
  have hil : i < (rootS q f A n).length := by omega
  obtain ⟨j, hj, hc, hx⟩ := (rootS_mem hF).1 (List.getElem_mem hil)
  have hel := dg_el hF hj
  have hrd : rd_L1 (rootS q f A n) (i : Int) = dg q j := by
   unfold rd_L1
   rw [Int.toNat_natCast, List.getD_eq_getElem?_getD, List.getElem?_eq_getElem hil, ← hx]; rfl
  obtain ⟨c, e, hcE, ⟨K1, h1⟩, K2, h2⟩ := Pow_nat hF hel (m := n) (by omega)
  have ec : c = a := hcE.eq hF ha hc
  obtain ⟨K3, h3⟩ := Same_ok ec (hcE.small hF)
  obtain ⟨K4, h4⟩ := ih (i + 1) (by omega)
  dsimp only at h1 h2 h3 h4
  rcases Nat.eq_zero_or_pos i with h0 | h0
  ·subst h0
   refine ⟨K1 + K2 + K3 + K4 + 1, fun k hk => ?_⟩
   obtain ⟨k', rfl, hk'⟩ := ex_succ hk
   simp only [lw.l0]
   rw [if_pos (by omega), if_pos (by omega), h1 k' (by omega), Option.bind_some, hrd, h2 k' (by omega), Option.bind_some, if_pos rfl, h3 k' (by omega), Option.bind_some, if_pos rfl, if_neg (by omega), succ_wrap (by omega)]
   exact h4 k' (by omega)
  ·obtain ⟨t, rfl⟩ : ∃ t, i = t + 1 := ⟨i - 1, by omega⟩
   obtain ⟨j2, hj2, _, hx2⟩ := (rootS_mem hF).1 (List.getElem_mem (show t < (rootS q f A n).length by omega))
   have hr2 : rd_L1 (rootS q f A n) (t : Int) = (rootS q f A n).getD t [] := by unfold rd_L1; rw [Int.toNat_natCast]
   have hsm : ((rootS q f A n).getD t []).length ≤ 1000000 := by
    rw [List.getD_eq_getElem?_getD, List.getElem?_eq_getElem (show t < (rootS q f A n).length by omega)]
    show ((rootS q f A n)[t]).length ≤ 1000000
    rw [hx2]
    exact (dg_el hF hj2).small hF
   obtain ⟨K5, h5⟩ := ref_Compare_ok ((rootS q f A n).getD t []) ((rootS q f A n).getD (t + 1) []) hsm
   rw [rootS_asc hF hil] at h5
   have hrd' : (rootS q f A n).getD (t + 1) [] = dg q j := by rw [← hrd]; unfold rd_L1; rw [Int.toNat_natCast]
   have ew : wrap64 (((t + 1 : Nat) : Int) - 1) = (t : Int) := by rw [show ((t + 1 : Nat) : Int) - 1 = (t : Int) by omega, wrap_nat (by omega)]
   rw [hrd'] at h5
   dsimp only at h5
   refine ⟨K1 + K2 + K3 + K4 + K5 + 1, fun k hk => ?_⟩
   obtain ⟨k', rfl, hk'⟩ := ex_succ hk
   simp only [lw.l0]
   rw [if_pos (by omega), if_pos (by omega), h1 k' (by omega), Option.bind_some, hrd, h2 k' (by omega), Option.bind_some, if_pos rfl, h3 k' (by omega), Option.bind_some, if_pos rfl, if_pos (by omega), ew, if_pos (by omega), if_pos (by omega), hr2, h5 k' (by omega), Option.bind_some, if_pos rfl, succ_wrap (by omega)]
   exact h4 k' (by omega)
theorem counts_good (hQ : Qn q f ≤ 128) {a : List Int} {A : ZX} (ha : El q f a A) {m : Nat} (hm : m ≤ 65535) : Ev (fun k => lw.j0 k a m false q f) true := by
 have hpos := Qn_pos hF
 obtain ⟨n, hn⟩ : ∃ n, n = 1 + m := ⟨_, rfl⟩
 have ew : wrap64 (1 + wrap64 (m : Int)) = (n : Int) := by rw [wrap_nat (by omega), show (1 : Int) + (m : Int) = ((n : Nat) : Int) by omega, wrap_nat (by omega)]
 obtain ⟨c, e, hc, ⟨K1, h1⟩, K2, h2⟩ := Pow_nat hF ha (m := n) (by omega)
 obtain ⟨K3, h3⟩ := Roots_ok hF (by omega) ha (m := n) (by omega) (by omega)
 obtain ⟨K4, h4⟩ := Roots_ok hF (by omega) hc (m := n) (by omega) (by omega)
 obtain ⟨K5, h5⟩ := ref_Size_ok hF
 rw [if_pos (by omega)] at h5
 obtain ⟨K6, h6⟩ := Gcd_spec (Qn q f - 1) n
 have hl1 := len_rootN hF (A := A) (m := n)
 have hl2 := rootS_len hF (A := A) (m := n)
 have hl3 := rootS_len hF (A := A ^ n) (m := n)
 have eq1 : wrap64 ((Qn q f : Int) - 1) = ((Qn q f - 1 : Nat) : Int) := by rw [show (Qn q f : Int) - 1 = ((Qn q f - 1 : Nat) : Int) by omega, wrap_nat (by omega)]
 dsimp only at h1 h2 h3 h4 h5 h6
 have hend : Ev (fun k => lw.l0 k a n (rootS q f A n) (rootS q f (A ^ n) n) ((rootS q f A n).length : Int) q f) true := by
  by_cases hane : a = []
  ·subst hane
   have h0 : In q (P f) A := (ha.nil_iff hF).1 rfl
   have c1 := rootN_zero hF (A := A) (m := n) (by omega) h0
   have c2 := rootN_zero hF (A := A ^ n) (m := n) (by omega) (by
    rw [show n = (n - 1) + 1 by omega, pow_succ]
    exact h0.mul' _)
   refine ⟨1, fun k hk => ?_⟩
   obtain ⟨k', rfl, hk'⟩ := ex_succ hk
   simp only [lw.l0]
   rw [if_neg (by omega), if_pos (by simp), if_pos (by omega), beq_iff_eq.2 (by omega)]
  ·have hal := List.length_pos_iff.2 hane
   obtain ⟨ng, hng, hgen, _⟩ := exists_gen hF
   have ho := hgen.2
   obtain ⟨L, _, hL, haL, _⟩ := el_log hF ho ha hane
   have e1 : rootN q f A n = rootN q f (P (dg q ng) ^ L) n := by
    unfold rootN
    refine List.filter_congr fun i _ => ?_
    have : Cg q (P f) A (P (dg q ng) ^ L) := ha.2.2.symm.trans haL.2.2
    by_cases h : Cg q (P f) (P (dg q i) ^ n) A
    ·rw [@decide_eq_true _ (_) h, @decide_eq_true _ (_) (h.trans this)]
    ·rw [@decide_eq_false _ (_) h, @decide_eq_false _ (_) (fun h' => h (h'.trans this.symm))]
   have e2 : rootN q f (A ^ n) n = rootN q f (P (dg q ng) ^ ((L * n) % (Qn q f - 1))) n := by
    unfold rootN
    refine List.filter_congr fun i _ => ?_
    have : Cg q (P f) (A ^ n) (P (dg q ng) ^ ((L * n) % (Qn q f - 1))) := by
     refine ((ha.2.2.symm.trans haL.2.2).pow n).trans ?_
     rw [← pow_mul]
     exact pow_mod_one ho.2.1 _
    by_cases h : Cg q (P f) (P (dg q i) ^ n) (A ^ n)
    ·rw [@decide_eq_true _ (_) h, @decide_eq_true _ (_) (h.trans this)]
    ·rw [@decide_eq_false _ (_) h, @decide_eq_false _ (_) (fun h' => h (h'.trans this.symm))]
   have c1 := rootN_count hF ho (m := n) (by omega) hL
   have c2 := rootN_some hF ho (m := n) (k0 := L) (by omega)
   rw [← e1] at c1
   rw [← e2] at c2
   generalize hg : Nat.gcd n (Qn q f - 1) = g at *
   refine ⟨K5 + K6 + 1, fun k hk => ?_⟩
   obtain ⟨k', rfl, hk'⟩ := ex_succ hk
   simp only [lw.l0]
   rw [if_neg (by omega), if_neg (by omega), h5 k' (by omega), Option.bind_some, eq1, h6 k' (by omega), Option.bind_some]
   rcases c1 with c1 | c1
   ·rw [if_pos (by omega), beq_iff_eq.2 (by omega)]
   ·by_cases hz : (rootS q f A n).length = 0
    ·rw [if_pos (by omega), beq_iff_eq.2 (by omega)]
    ·rw [if_neg (by omega), if_pos (by omega), beq_iff_eq.2 (by omega)]
 obtain ⟨K7, h7⟩ := counts_loop hF ha (by omega) (by omega) hend (rootS q f A n).length 0 (by omega)
 dsimp only at h7
 refine ⟨K1 + K2 + K3 + K4 + K7 + 2, fun k hk => ?_⟩
 obtain ⟨k1, rfl, hk1⟩ := ex_succ (K := K1 + K2 + K3 + K4 + K7 + 1) hk
 obtain ⟨k2, rfl, hk2⟩ := ex_succ (K := K1 + K2 + K3 + K4 + K7) (k := k1) (by omega)
 simp only [lw.j0]
 rw [if_neg (by simp), ew, h1 _ (by omega), Option.bind_some, h2 _ (by omega), Option.bind_some, h3 _ (by omega), Option.bind_some, h4 _ (by omega), Option.bind_some, if_pos rfl, if_pos rfl]
 simp only [lw.j1]
 rw [if_neg (by simp)]
 exact h7 _ (by omega)
end
theorem DiscretelogCounts : lw.Pure := by
 intro p f a m _ _ _ _ _ _ _ hwf
 obtain ⟨m, rfl, hm⟩ : ∃ n : Nat, m = n ∧ n ≤ 65535 := by
  have h : 0 ≤ m ∧ m ≤ 65535 := by simpa [Lit.wf, IntKind.min, IntKind.max, IntKind.signed, IntKind.bits] using hwf
  exact ⟨m.toNat, by omega, by omega⟩
 obtain ⟨Ka, ha⟩ := awake_ev
 obtain ⟨b, hb, K1, h1⟩ := Few_spec p f 128
 have out : ∀ k, Ka ≤ k → lw.j0 (k + 1) a m true p f = some true := fun k hk => by
  simp only [lw.j0]
  rw [if_pos trivial, ha k hk, Option.bind_some]
 dsimp only at h1
 cases b with
 | false =>
  refine ⟨Ka + K1 + 1, ?_⟩
  simp only [lw.f]
  rw [ha _ (by omega), Option.bind_some, if_pos rfl, show (128 : Int) = ((128 : Nat) : Int) from rfl, h1 _ (by omega), Option.bind_some, if_neg (by simp)]
  exact out _ (by omega)
 | true =>
  obtain ⟨q, rfl, hF, hQ, hQ2⟩ := hb.1 rfl
  obtain ⟨K2, h2⟩ := Member_spec (q : Int) f a
  dsimp only at h2
  by_cases h0 : ckE q f a = 0
  ·obtain ⟨K3, h3⟩ := counts_good hF hQ2 (El.of hF (ckE_zero h0).1 (ckE_zero h0).2) hm
   dsimp only at h3
   refine ⟨Ka + K1 + K2 + K3, ?_⟩
   simp only [lw.f]
   rw [ha _ (by omega), Option.bind_some, if_pos rfl, show (128 : Int) = ((128 : Nat) : Int) from rfl, h1 _ (by omega), Option.bind_some, if_pos rfl, h2 _ (by omega), Option.bind_some, h0]
   exact h3 _ (by omega)
  ·refine ⟨Ka + K1 + K2 + 1, ?_⟩
   simp only [lw.f]
   rw [ha _ (by omega), Option.bind_some, if_pos rfl, show (128 : Int) = ((128 : Nat) : Int) from rfl, h1 _ (by omega), Option.bind_some, if_pos rfl, h2 _ (by omega), Option.bind_some, bne_iff_ne.2 h0]
   exact out _ (by omega)
end Go.Proofs.YtillaipaanancaaGreat.Pure
end

/- Machine side and arithmetic of the law, put together by a program of the session. No conditions. -/
import Derived.WalkKit
import Derived.WalkSmall
import Derived.KernelRfl
import Derived.Test.YtillaipaanancaaGreatKdr0
import Derived.Test.YtillaipaanancaaGreatKdr17
import Derived.Test.YtillaipaanancaaGreatKdr18
import Derived.Test.YtillaipaanancaaGreatKdr20
import Derived.Test.YtillaipaanancaaGreatKdr22
section
namespace Go.Proofs.YtillaipaanancaaGreat.Q
open Go.RowKit Go.Proofs.YtillaipaanancaaGreatW.PrintWords Go.Proofs.YtillaipaanancaaGreatW.PrintLast Go.Proofs.YtillaipaanancaaGreatW.PrintMore Go.Proofs.YtillaipaanancaaGreat.M Go.Proofs.YtillaipaanancaaGreat.M.ZX
set_option linter.unusedVariables false
set_option linter.unusedSimpArgs false
noncomputable def opE (q : Nat) (f : List Int) (most : Nat) : List (List Int) → Int × Int
 | [] => if Qn q f ≤ 2147483647 ∧ Qn q f ≤ most then (((Qn q f : Nat) : Int), 0) else (0, 5)
 | l :: ls => if ckE q f l = 0 then opE q f most ls else (0, ckE q f l)
theorem open_bad {p : Int} {f : List Int} (h : ckF p f ≠ 0) (most : Int) (ls : List (List Int)) : Ev (fun k => dl_open.f k p f most ls) (p, f, 0, ckF p f) := by
 obtain ⟨K, hK⟩ := field_Check_spec p f
 dsimp only at hK
 refine ⟨K, fun k hk => ?_⟩
 simp only [dl_open.f]
 rw [hK k hk, Option.bind_some, if_neg h]
theorem small_bad {p : Int} {f : List Int} (h : ckF p f ≠ 0) (g a : List Int) (most : Int) : Ev (fun k => r18CheckSmall.f k p f g a most) (ckF p f) := by
 obtain ⟨K, hK⟩ := ref15_CheckElement_spec p f g
 rw [if_neg h] at hK
 dsimp only at hK
 refine ⟨K + 1, fun k hk => ?_⟩
 obtain ⟨k', rfl, hk'⟩ := ex_succ hk
 simp only [r18CheckSmall.f]
 rw [hK (k' + 1) (by omega), Option.bind_some, if_neg h]
 simp only [r18CheckSmall.j0]
 rw [if_neg h]
section
variable {q : Nat} {f : List Int} (hF : Fld q f)
include hF
theorem open_loop (most : Nat) (ls : List (List Int)) (hn : ls.length ≤ 1000) : ∀ (d i : Nat), i + d = ls.length → Ev (fun k => dl_open.l0 k (most : Int) ls (ls.length : Int) (i : Int) q f q f) ((q : Int), f, (opE q f most (ls.drop i)).1, (opE q f most (ls.drop i)).2) := by
 intro d
 induction d with
 | zero =>
  intro i hi
  obtain ⟨K, hK⟩ := gf_Size_ok hF
  rw [List.drop_of_length_le (by omega)]
  dsimp only at hK
  refine ⟨K + 1, fun k hk => ?_⟩
  obtain ⟨k', rfl, hk'⟩ := ex_succ hk
  simp only [dl_open.l0]
  rw [if_neg (by omega), hK k' (by omega), Option.bind_some]
  unfold opE
  by_cases h1 : Qn q f ≤ 2147483647
  ·rw [if_pos h1, if_pos rfl]
   by_cases h2 : Qn q f ≤ most
   ·rw [if_neg (by omega), if_pos ⟨h1, h2⟩]
   ·rw [if_pos (by omega), if_neg (fun h => h2 h.2)]
  ·rw [if_neg h1, if_neg (by simp), if_neg (fun h => h1 h.1)]
 | succ d ih =>
  intro i hi
  obtain ⟨K1, h1⟩ := pm_Check_spec (q : Int) (ls.getD i [])
  obtain ⟨K2, h2⟩ := ih (i + 1) (by omega)
  dsimp only at h1 h2
  have e : ls.drop i = ls.getD i [] :: ls.drop (i + 1) := by rw [List.drop_eq_getElem_cons (by omega), List.getD_eq_getElem?_getD, List.getElem?_eq_getElem (by omega)]; rfl
  have hr : rd_L1 ls (i : Int) = ls.getD i [] := by unfold rd_L1; rw [Int.toNat_natCast]
  refine ⟨K1 + K2 + 1, fun k hk => ?_⟩
  obtain ⟨k', rfl, hk'⟩ := ex_succ hk
  simp only [dl_open.l0]
  rw [if_pos (by omega), if_pos (by omega), if_pos (by omega), hr, h1 k' (by omega), Option.bind_some, e]
  unfold opE ckE
  by_cases h0 : ckP q (ls.getD i []) = 0
  ·rw [if_pos h0, if_pos h0]
   by_cases h3 : (ls.getD i []).length ≥ f.length
   ·rw [if_pos (by omega), if_pos h3, if_neg (by decide)]
   ·rw [if_neg (by omega), if_neg h3, if_pos rfl, succ_wrap (by omega)]
    exact h2 k' (by omega)
  ·rw [if_neg h0, if_neg h0, if_neg h0]
theorem open_ok (most : Nat) (ls : List (List Int)) (hn : ls.length ≤ 1000) : Ev (fun k => dl_open.f k q f (most : Int) ls) ((q : Int), f, (opE q f most ls).1, (opE q f most ls).2) := by
 obtain ⟨K1, h1⟩ := Check_ok hF
 obtain ⟨K2, h2⟩ := open_loop hF most ls hn ls.length 0 (by omega)
 rw [List.drop_zero] at h2
 dsimp only at h1 h2
 refine ⟨K1 + K2, fun k hk => ?_⟩
 simp only [dl_open.f]
 rw [h1 k (by omega), Option.bind_some, if_pos rfl]
 exact h2 k (by omega)
theorem opE_ok {most : Nat} (hQ : Qn q f ≤ 2147483647) (hm : Qn q f ≤ most) : ∀ {ls : List (List Int)}, (∀ l ∈ ls, ckE q f l = 0) → opE q f most ls = (((Qn q f : Nat) : Int), 0)
 | [], _ => by have _ := hF; unfold opE; rw [if_pos ⟨hQ, hm⟩]
 | l :: ls, h => by
  unfold opE
  rw [if_pos (h l List.mem_cons_self)]
  exact opE_ok hQ hm fun x hx => h x (List.mem_cons_of_mem _ hx)
theorem small_ok (most : Nat) (g a : List Int) : Ev (fun k => r18CheckSmall.f k q f g a (most : Int)) (opE q f most [g, a]).2 := by
 obtain ⟨K1, h1⟩ := ref15_CheckElement_spec (q : Int) f g
 obtain ⟨K2, h2⟩ := Member_spec (q : Int) f a
 obtain ⟨K3, h3⟩ := ref_Size_ok hF
 rw [if_pos (ckF_of hF)] at h1
 have hpos := Qn_pos hF
 dsimp only at h1 h2 h3
 refine ⟨K1 + K2 + K3 + 1, fun k hk => ?_⟩
 obtain ⟨k', rfl, hk'⟩ := ex_succ hk
 simp only [r18CheckSmall.f]
 rw [h1 _ (by omega), Option.bind_some]
 unfold opE
 by_cases hg : ckE q f g = 0
 ·rw [if_pos hg, if_pos hg, h2 _ (by omega), Option.bind_some]
  unfold opE
  simp only [r18CheckSmall.j0]
  by_cases ha : ckE q f a = 0
  ·rw [if_pos ha, if_pos ha, h3 _ (by omega), Option.bind_some, ha]
   unfold opE
   by_cases hq : Qn q f ≤ 2147483647
   ·rw [if_pos hq, if_neg (by omega), Option.bind_some]
    by_cases hm : Qn q f ≤ most
    ·rw [if_neg (by omega), if_pos ⟨hq, hm⟩]
    ·rw [if_pos (by omega), if_neg (fun h => hm h.2)]
   ·rw [if_neg hq, if_pos rfl, if_neg (fun h => hq h.1)]
  ·rw [if_neg ha, if_neg ha]
 ·rw [if_neg hg, if_neg hg]
  simp only [r18CheckSmall.j0]
  rw [if_neg hg]
end
end Go.Proofs.YtillaipaanancaaGreat.Q
end
section
namespace Go.Proofs.YtillaipaanancaaGreat.Q
open Go.RowKit Go.Proofs.YtillaipaanancaaGreatW.PrintWords Go.Proofs.YtillaipaanancaaGreatW.PrintLast Go.Proofs.YtillaipaanancaaGreatW.PrintMore Go.Proofs.YtillaipaanancaaGreat.M Go.Proofs.YtillaipaanancaaGreat.M.ZX
set_option linter.unusedVariables false
set_option linter.unusedSimpArgs false
section
variable {q : Nat} {f : List Int} (hF : Fld q f)
include hF
theorem opE_one {most : Nat} (hQ : Qn q f ≤ 2147483647) (hm : Qn q f ≤ most) {g : List Int} {x : ZX} (hg : El q f g x) : opE q f most [g] = (((Qn q f : Nat) : Int), 0) :=
 opE_ok hF hQ hm (by intro l hl; rw [List.mem_singleton] at hl; subst hl; exact ckE_of hF hg.1 hg.2.1)
end
end Go.Proofs.YtillaipaanancaaGreat.Q
end
section
namespace Go.Proofs.YtillaipaanancaaGreat.Q
open Go.RowKit Go.Proofs.YtillaipaanancaaGreatW.PrintWords Go.Proofs.YtillaipaanancaaGreatW.PrintLast Go.Proofs.YtillaipaanancaaGreatW.PrintMore Go.Proofs.YtillaipaanancaaGreat.M Go.Proofs.YtillaipaanancaaGreat.M.ZX
set_option linter.unusedVariables false
set_option linter.unusedSimpArgs false
theorem same_loop (a : List Int) (hl : a.length ≤ 1000000) : ∀ (d i : Nat), i + d = a.length → Ev (fun k => l18same.l0 k a a i) true := by
 intro d
 induction d with
 | zero =>
  intro i hi
  refine ⟨1, fun k hk => ?_⟩
  obtain ⟨k', rfl, hk'⟩ := ex_succ hk
  simp only [l18same.l0]
  rw [if_neg (by omega)]
 | succ d ih =>
  intro i hi
  obtain ⟨K, hK⟩ := ih (i + 1) (by omega)
  dsimp only at hK
  refine ⟨K + 1, fun k hk => ?_⟩
  obtain ⟨k', rfl, hk'⟩ := ex_succ hk
  simp only [l18same.l0]
  rw [if_pos (by omega), if_pos (by omega), if_pos (by omega), if_pos trivial, succ_wrap (by omega)]
  exact hK k' hk'
theorem same_ok {a b : List Int} (e : a = b) (hl : a.length ≤ 1000000) : Ev (fun k => l18same.f k a b) true := by
 subst e
 obtain ⟨K, hK⟩ := same_loop a hl a.length 0 (by omega)
 dsimp only at hK
 refine ⟨K, fun k hk => ?_⟩
 simp only [l18same.f]
 rw [if_pos trivial]
 exact hK k hk
section
variable {q : Nat} {f : List Int} (hF : Fld q f)
include hF
section
variable {G : ZX} (ho : IsOrd q (P f) G (Qn q f - 1))
include ho
def ex (q : Nat) (f : List Int) (x : Int) : Nat := (x % ((Qn q f - 1 : Nat) : Int)).toNat
end
end
theorem light_spec (p : Int) (f : List Int) : ∃ b : Bool, (b = true → ckF p f ≠ 0 ∨ ∃ q : Nat, p = q ∧ Fld q f ∧ (Qn q f ≤ 256 ∨ ¬ Qn q f ≤ 4096)) ∧ Ev (fun k => l18light.f k p f) b := by
 by_cases hl : f.length ≤ 70
 ·obtain ⟨K1, h1⟩ := ref15_Check_spec p f
  dsimp only at h1
  by_cases h0 : ckF p f = 0
  ·obtain ⟨b, hb, K2, h2⟩ := Few_spec p f 256
   obtain ⟨c, hc, K3, h3⟩ := Few_spec p f 4096
   dsimp only at h2 h3
   cases b with
   | true =>
    obtain ⟨q, e, hF, _, hQ⟩ := hb.1 rfl
    refine ⟨true, fun _ => .inr ⟨q, e, hF, .inl hQ⟩, K1 + K2, fun k hk => ?_⟩
    simp only [l18light.f]
    rw [if_neg (by omega), h1 k (by omega), Option.bind_some, if_pos h0, show (256 : Int) = ((256 : Nat) : Int) from rfl, h2 k (by omega), Option.bind_some, if_pos rfl]
   | false =>
    obtain ⟨q, e, hF⟩ := ckF_zero h0
    refine ⟨!c, fun hcn => .inr ⟨q, e, hF, .inr fun hQ => ?_⟩, K1 + K2 + K3, fun k hk => ?_⟩
    ·have := hc.2 ⟨q, e, hF, by omega, hQ⟩
     rw [this] at hcn; cases hcn
    ·simp only [l18light.f]
     rw [if_neg (by omega), h1 k (by omega), Option.bind_some, if_pos h0, show (256 : Int) = ((256 : Nat) : Int) from rfl, h2 k (by omega), Option.bind_some, if_neg (by simp), show (4096 : Int) = ((4096 : Nat) : Int) from rfl, h3 k (by omega), Option.bind_some]
  ·refine ⟨true, fun _ => .inl h0, K1, fun k hk => ?_⟩
   simp only [l18light.f]
   rw [if_neg (by omega), h1 k (by omega), Option.bind_some, if_neg h0]
 ·refine ⟨false, fun h => (by cases h), 0, fun k _ => ?_⟩
  simp only [l18light.f]
  rw [if_pos (by omega)]
end Go.Proofs.YtillaipaanancaaGreat.Q
end
section
namespace Go.Proofs.YtillaipaanancaaGreat.Q
open Go.RowKit Go.Proofs.YtillaipaanancaaGreatW.PrintWords Go.Proofs.YtillaipaanancaaGreatW.PrintLast Go.Proofs.YtillaipaanancaaGreatW.PrintMore Go.Proofs.YtillaipaanancaaGreat.M Go.Proofs.YtillaipaanancaaGreat.M.ZX
set_option linter.unusedVariables false
set_option linter.unusedSimpArgs false
section
variable {q : Nat} {f : List Int} (hF : Fld q f)
include hF
noncomputable def rootN (q : Nat) (f : List Int) (A : ZX) (m : Nat) : List Nat := open Classical in (List.range (Qn q f)).filter fun i => decide (Cg q (P f) (P (dg q i) ^ m) A)
theorem mem_rootN {A : ZX} {m i : Nat} : i ∈ rootN q f A m ↔ i < Qn q f ∧ Cg q (P f) (P (dg q i) ^ m) A := by
 have _ := hF
 unfold rootN
 rw [List.mem_filter, List.mem_range]
 exact ⟨fun h => ⟨h.1, @of_decide_eq_true _ (_) h.2⟩, fun h => ⟨h.1, @decide_eq_true _ (_) h.2⟩⟩
theorem len_rootN {A : ZX} {m : Nat} : (rootN q f A m).length ≤ Qn q f := by
 have _ := hF
 have := List.length_filter_le (p := fun i => @decide (Cg q (P f) (P (dg q i) ^ m) A) (Classical.propDecidable _)) (l := List.range (Qn q f))
 rw [List.length_range] at this
 exact this
theorem equal_loop (l m : List Int) (h : l.length = m.length) (hl : l.length ≤ 1000000) : ∀ (d i : Nat), i + d = l.length → (∀ j, j < i → l.getD j 0 = m.getD j 0) → Ev (fun k => api_ModPoly_int_66.l0 k l m (l.length : Int) i) (decide (l = m)) := by
 have _ := hF
 intro d
 induction d with
 | zero =>
  intro i hi he
  refine ⟨1, fun k hk => ?_⟩
  obtain ⟨k', rfl, hk'⟩ := ex_succ hk
  simp only [api_ModPoly_int_66.l0]
  rw [if_neg (by omega), decide_eq_true]
  refine ext_getD h fun j => ?_
  rcases Nat.lt_or_ge j i with h3 | h3
  ·exact he j h3
  ·rw [getD_of_len (by omega), getD_of_len (by omega)]
 | succ d ih =>
  intro i hi he
  by_cases hc : l.getD i 0 = m.getD i 0
  ·obtain ⟨K, hK⟩ := ih (i + 1) (by omega) (fun j hj => by
    rcases Nat.lt_or_ge j i with h3 | h3
    ·exact he j h3
    ·obtain rfl : j = i := by omega
     exact hc)
   dsimp only at hK
   refine ⟨K + 1, fun k hk => ?_⟩
   obtain ⟨k', rfl, hk'⟩ := ex_succ hk
   simp only [api_ModPoly_int_66.l0]
   rw [if_pos (by omega), if_pos (by omega), if_pos (by omega), if_pos (by omega), rd_nat, rd_nat, if_pos hc, succ_wrap (by omega)]
   exact hK k' hk'
  ·refine ⟨1, fun k hk => ?_⟩
   obtain ⟨k', rfl, hk'⟩ := ex_succ hk
   simp only [api_ModPoly_int_66.l0]
   rw [if_pos (by omega), if_pos (by omega), if_pos (by omega), if_pos (by omega), rd_nat, rd_nat, if_neg hc, decide_eq_false (fun e => hc (by rw [e]))]
theorem equal_ok (l m : List Int) (hl : l.length ≤ 1000000) : Ev (fun k => api_ModPoly_int_66.f k l m) (decide (l = m)) := by
 by_cases h : l.length = m.length
 ·obtain ⟨K, hK⟩ := equal_loop hF l m h hl l.length 0 (by omega) (fun j hj => by omega)
  dsimp only at hK
  refine ⟨K, fun k hk => ?_⟩
  simp only [api_ModPoly_int_66.f]
  rw [if_pos (by omega)]
  exact hK k hk
 ·refine ⟨0, fun k _ => ?_⟩
  simp only [api_ModPoly_int_66.f]
  rw [if_neg (by omega), decide_eq_false (fun e => h (by rw [e]))]
theorem roots_loop (hQ : Qn q f ≤ 4096) {a : List Int} {A : ZX} (ha : El q f a A) {m : Nat} (hm : m ≤ 2147483647) : ∀ (d i : Nat) (out : List (List Int)), i + d = Qn q f → out.length ≤ i → ∃ K, ∀ kk k, K ≤ kk → K ≤ k → dl_Roots.l0 kk q f a m (Qn q f) k i out = some (out ++ ((List.range' i d).filter fun i => @decide (Cg q (P f) (P (dg q i) ^ m) A) (Classical.propDecidable _)).map (dg q)) := by
 intro d
 induction d with
 | zero =>
  intro i out hi _
  refine ⟨1, fun kk k _ hk => ?_⟩
  obtain ⟨k', rfl, hk'⟩ := ex_succ hk
  simp only [dl_Roots.l0]
  rw [if_neg (by omega)]
  simp
 | succ d ih =>
  intro i out hi hl
  have hel := dg_el hF (show i < Qn q f by omega)
  obtain ⟨K1, h1⟩ := gf_Element_ok hF (m := i) (by omega)
  obtain ⟨c, hc, K2, h2⟩ := gf_Pow_ok hF hel (e := m) (by omega)
  obtain ⟨K3, h3⟩ := equal_ok hF c a (hc.small hF)
  have hiff : c = a ↔ Cg q (P f) (P (dg q i) ^ m) A := ⟨fun e => hc.2.2.symm.trans (e ▸ ha.2.2), fun h => hc.eq hF ha h⟩
  dsimp only at h1 h2 h3
  rw [List.range'_succ]
  by_cases he : Cg q (P f) (P (dg q i) ^ m) A
  ·obtain ⟨K4, h4⟩ := ih (i + 1) (out ++ [dg q i]) (by omega) (by simp; omega)
   refine ⟨K1 + K2 + K3 + K4 + 1, fun kk k hkk hk => ?_⟩
   obtain ⟨k', rfl, hk'⟩ := ex_succ hk
   simp only [dl_Roots.l0]
   rw [if_pos (by omega), h1 kk (by omega), Option.bind_some, h2 kk (by omega), Option.bind_some, h3 kk (by omega), Option.bind_some, decide_eq_true (hiff.2 he), if_pos rfl, if_pos (by omega), h4 kk k' (by omega) (by omega), List.filter_cons_of_pos (by simpa using he), List.map_cons, List.append_assoc]
   rfl
  ·obtain ⟨K4, h4⟩ := ih (i + 1) out (by omega) (by omega)
   refine ⟨K1 + K2 + K3 + K4 + 1, fun kk k hkk hk => ?_⟩
   obtain ⟨k', rfl, hk'⟩ := ex_succ hk
   simp only [dl_Roots.l0]
   rw [if_pos (by omega), h1 kk (by omega), Option.bind_some, h2 kk (by omega), Option.bind_some, h3 kk (by omega), Option.bind_some, decide_eq_false (fun e => he (hiff.1 e)), if_neg (by simp), h4 kk k' (by omega) (by omega), List.filter_cons_of_neg (by simpa using he)]
noncomputable def rootS (q : Nat) (f : List Int) (A : ZX) (m : Nat) : List (List Int) := ((rootN q f A m).map (dg q)).mergeSort fun x y => !decide (dlP y x < 0)
theorem rootS_perm {A : ZX} {m : Nat} : (rootS q f A m).Perm ((rootN q f A m).map (dg q)) := by
 have _ := hF
 exact List.mergeSort_perm _ _
theorem rootS_len {A : ZX} {m : Nat} : (rootS q f A m).length = (rootN q f A m).length := by
 rw [(rootS_perm hF).length_eq, List.length_map]
theorem rootS_sorted {A : ZX} {m : Nat} : (rootS q f A m).Pairwise fun x y => ¬ dlP y x < 0 := by
 have _ := hF
 have h := List.pairwise_mergeSort (le := fun x y => !decide (dlP y x < 0)) (fun a b c h1 h2 => by
  simp only [Bool.not_eq_true', decide_eq_false_iff_not] at h1 h2 ⊢
  intro h3
  have n1 := dlP_neg a b
  have n2 := dlP_neg b c
  have n3 := dlP_neg a c
  by_cases e : dlP b a = 0
  ·have := dlP_eq b a e; subst this; exact h2 h3
  ·exact h2 (dlP_trans c a b h3 (by omega))) (fun a b => by
  simp only [Bool.or_eq_true, Bool.not_eq_true', decide_eq_false_iff_not]
  have := dlP_neg a b
  omega) ((rootN q f A m).map (dg q))
 exact h.imp fun {a b} h => by simpa using h
theorem rootS_mem {A : ZX} {m : Nat} {x : List Int} : x ∈ rootS q f A m ↔ ∃ i, i < Qn q f ∧ Cg q (P f) (P (dg q i) ^ m) A ∧ x = dg q i := by
 rw [(rootS_perm hF).mem_iff, List.mem_map]
 constructor
 ·rintro ⟨i, hi, rfl⟩
  have := (mem_rootN hF).1 hi
  exact ⟨i, this.1, this.2, rfl⟩
 ·rintro ⟨i, h1, h2, rfl⟩
  exact ⟨i, (mem_rootN hF).2 ⟨h1, h2⟩, rfl⟩
theorem Roots_ok (hQ : Qn q f ≤ 4096) {a : List Int} {A : ZX} (ha : El q f a A) {m : Nat} (h1 : 1 ≤ m) (hm : m ≤ 2147483647) : Ev (fun k => dl_Roots.f k q f a m) (rootS q f A m, 0) := by
 have hpos := Qn_pos hF
 obtain ⟨K1, k1⟩ := open_ok hF 4096 [a] (by simp)
 rw [opE_one hF (by omega) hQ ha] at k1
 obtain ⟨K2, k2⟩ := roots_loop hF hQ ha hm (Qn q f) 0 [] (by omega) (by simp)
 have e : (([] : List (List Int)) ++ ((List.range' 0 (Qn q f)).filter fun i => @decide (Cg q (P f) (P (dg q i) ^ m) A) (Classical.propDecidable _)).map (dg q)) = (rootN q f A m).map (dg q) := by
  rw [List.nil_append, ← List.range_eq_range']; rfl
 rw [e] at k2
 dsimp only at k1
 refine ⟨K1 + K2, fun k hk => ?_⟩
 simp only [dl_Roots.f]
 rw [show (4096 : Int) = ((4096 : Nat) : Int) from rfl, k1 k (by omega), Option.bind_some, if_pos rfl]
 dsimp only
 rw [if_neg (by omega), if_neg (by omega), if_pos (by omega), Int.toNat_natCast, k2 k k (by omega) (by omega), Option.bind_some, if_pos]
 ·rfl
 ·rw [List.all_eq_true]
  intro x hx
  obtain ⟨i, hi, rfl⟩ := List.mem_map.1 hx
  exact decide_eq_true ((dg_el hF ((mem_rootN hF).1 hi).1).small hF)
theorem Roots_bad {a : List Int} {m : Int} (h : (opE q f 4096 [a]).2 ≠ 0) : Ev (fun k => dl_Roots.f k q f a m) ([], (opE q f 4096 [a]).2) := by
 obtain ⟨K, hK⟩ := open_ok hF 4096 [a] (by simp)
 dsimp only at hK
 refine ⟨K, fun k hk => ?_⟩
 simp only [dl_Roots.f]
 rw [show (4096 : Int) = ((4096 : Nat) : Int) from rfl, hK k hk, Option.bind_some, if_neg h]
end
end Go.Proofs.YtillaipaanancaaGreat.Q
end
section
namespace Go.Proofs.YtillaipaanancaaGreat.Q
open Go.RowKit Go.Proofs.YtillaipaanancaaGreatW.PrintWords Go.Proofs.YtillaipaanancaaGreatW.PrintLast Go.Proofs.YtillaipaanancaaGreatW.PrintMore Go.Proofs.YtillaipaanancaaGreat.M Go.Proofs.YtillaipaanancaaGreat.M.ZX
set_option linter.unusedVariables false
set_option linter.unusedSimpArgs false
theorem same_lists_loop (a : List (List Int)) (hl : a.length ≤ 1000000) (hs : ∀ x ∈ a, x.length ≤ 1000000) : ∀ (d i : Nat), i + d = a.length → Ev (fun k => r9SameLists.l0 k a a i) true := by
 intro d
 induction d with
 | zero =>
  intro i hi
  refine ⟨1, fun k hk => ?_⟩
  obtain ⟨k', rfl, hk'⟩ := ex_succ hk
  simp only [r9SameLists.l0]
  rw [if_neg (by omega)]
 | succ d ih =>
  intro i hi
  obtain ⟨K, hK⟩ := ih (i + 1) (by omega)
  have hr : rd_L1 a (i : Int) = a[i]'(by omega) := by
   unfold rd_L1
   rw [Int.toNat_natCast, List.getD_eq_getElem?_getD, List.getElem?_eq_getElem (by omega)]; rfl
  obtain ⟨K2, h2⟩ := Same_ok (rfl : a[i]'(by omega) = a[i]'(by omega)) (hs _ (List.getElem_mem _))
  dsimp only at hK h2
  refine ⟨K + K2 + 1, fun k hk => ?_⟩
  obtain ⟨k', rfl, hk'⟩ := ex_succ hk
  simp only [r9SameLists.l0]
  rw [if_pos (by omega), if_pos (by omega), if_pos (by omega), hr, h2 k' (by omega), Option.bind_some, if_pos rfl, succ_wrap (by omega)]
  exact hK k' (by omega)
theorem same_lists_ok {a b : List (List Int)} (e : a = b) (hl : a.length ≤ 1000000) (hs : ∀ x ∈ a, x.length ≤ 1000000) : Ev (fun k => r9SameLists.f k a b) true := by
 subst e
 obtain ⟨K, hK⟩ := same_lists_loop a hl hs a.length 0 (by omega)
 dsimp only at hK
 refine ⟨K, fun k hk => ?_⟩
 simp only [r9SameLists.f]
 rw [if_pos trivial]
 exact hK k hk
def SrtP (l : List (List Int)) : Prop := l.Pairwise fun x y => ¬ dlP y x < 0
theorem le_trans_P {a b c : List Int} (h1 : ¬ dlP b a < 0) (h2 : ¬ dlP c b < 0) : ¬ dlP c a < 0 := by
 intro h3
 have n1 := dlP_neg a b
 have n2 := dlP_neg b c
 have n3 := dlP_neg a c
 by_cases e : dlP b a = 0
 ·have := dlP_eq b a e; subst this; exact h2 h3
 ·exact h2 (dlP_trans c a b h3 (by omega))
theorem srt_unique {l m : List (List Int)} (h1 : SrtP l) (h2 : SrtP m) (hp : l.Perm m) : l = m :=
 hp.eq_of_pairwise (fun a b _ _ ha hb => dlP_eq a b (by have := dlP_neg a b; omega)) h1 h2
theorem srt_insert {A B : List (List Int)} {v : List Int} (h : SrtP (A ++ B)) (hB : ∀ u ∈ B, dlP v u < 0) (hA : A = [] ∨ ∃ A' u, A = A' ++ [u] ∧ ¬ dlP v u < 0) : SrtP (A ++ v :: B) := by
 unfold SrtP at h ⊢
 rw [List.pairwise_append] at h ⊢
 refine ⟨h.1, List.pairwise_cons.2 ⟨fun u hu => ?_, h.2.1⟩, fun a ha b hb => ?_⟩
 ·have := hB u hu
  have := dlP_neg v u
  omega
 ·rcases List.mem_cons.1 hb with rfl | hb
  ·rcases hA with rfl | ⟨A', u, rfl, hu⟩
   ·cases ha
   ·rcases List.mem_append.1 ha with h1 | h1
    ·have h2 := (List.pairwise_append.1 h.1).2.2 a h1 u (by simp)
     exact le_trans_P h2 hu
    ·rw [List.mem_singleton.1 h1]; exact hu
  ·exact h.2.2 a ha b hb
section
variable {q : Nat} {f : List Int} (hF : Fld q f)
include hF
theorem bubble_loop {a : List Int} {m : Int} {xs : List (List Int)} {v : List Int} {Q : Int} (hsm : ∀ x ∈ xs, x.length ≤ 1000000) (hvl : v.length ≤ 1000000) (hlen : xs.length ≤ 1000000) (hsrt : SrtP xs) {i : Nat} (hi : i ≤ 2147483647) {res : List (List Int)}
  (H : ∀ l, SrtP l → l.Perm (xs ++ [v]) → Ev (fun k => r18Roots.l0 k a m l Q ((i + 1 : Nat) : Int) q f) res) :
  ∀ (n : Nat) (A B : List (List Int)), A.length = n → A ++ B = xs → (∀ u ∈ B, dlP v u < 0) → Ev (fun k => r18Roots.l1 k a m (A ++ v :: B) Q (i : Int) (A.length : Int) q f) res := by
 have _ := hF
 have stop : ∀ (A B : List (List Int)), A ++ B = xs → (∀ u ∈ B, dlP v u < 0) → (A = [] ∨ ∃ A' u, A = A' ++ [u] ∧ ¬ dlP v u < 0) → Ev (fun k => r18Roots.l0 k a m (A ++ v :: B) Q ((i + 1 : Nat) : Int) q f) res := fun A B hAB hB hA =>
  H _ (srt_insert (by rw [hAB]; exact hsrt) hB hA) (by
   rw [← hAB, List.append_assoc]
   exact List.Perm.append_left A (List.perm_append_singleton v B).symm)
 intro n
 induction n with
 | zero =>
  intro A B hA hAB hB
  have e : A = [] := List.eq_nil_of_length_eq_zero hA
  subst e
  obtain ⟨K, hK⟩ := stop [] B hAB hB (.inl rfl)
  dsimp only at hK
  refine ⟨K + 1, fun k hk => ?_⟩
  obtain ⟨k', rfl, hk'⟩ := ex_succ hk
  simp only [r18Roots.l1]
  rw [if_neg (by simp), show (i : Int) + 1 = ((i + 1 : Nat) : Int) from rfl, wrap_nat (by omega)]
  exact hK k' hk'
 | succ n ih =>
  intro A B hA hAB hB
  obtain ⟨A', u, rfl⟩ : ∃ A' u, A = A' ++ [u] := ⟨A.dropLast, A.getLast (by intro e; rw [e] at hA; cases hA), (List.dropLast_concat_getLast _).symm⟩
  have hA' : A'.length = n := by simpa using hA
  have hnl : n + 1 ≤ xs.length := by rw [← hAB]; simp; omega
  have e1 : rd_L1 (A' ++ [u] ++ v :: B) (((A' ++ [u]).length : Nat) : Int) = v := by
   unfold rd_L1
   rw [Int.toNat_natCast, List.getD_eq_getElem?_getD, List.getElem?_append_right (Nat.le_refl _), Nat.sub_self]; rfl
  have ew : wrap64 (((A' ++ [u]).length : Int) - 1) = (A'.length : Int) := by
   rw [show ((A' ++ [u]).length : Int) - 1 = ((A'.length : Nat) : Int) by simp, wrap_nat (by omega)]
  have e2 : rd_L1 (A' ++ [u] ++ v :: B) (A'.length : Int) = u := by
   unfold rd_L1
   rw [Int.toNat_natCast, List.getD_eq_getElem?_getD, List.append_assoc, List.getElem?_append_right (Nat.le_refl _), Nat.sub_self]; rfl
  have hul : u.length ≤ 1000000 := hsm u (by rw [← hAB]; simp)
  obtain ⟨K1, h1⟩ := ref_Compare_ok v u hvl
  rw [← dlP_cmp] at h1
  dsimp only at h1
  by_cases hc : dlP v u < 0
  ·obtain ⟨K2, h2⟩ := ih A' (u :: B) hA' (by rw [← hAB]; simp) (fun x hx => by
    rcases List.mem_cons.1 hx with rfl | hx
    ·exact hc
    ·exact hB x hx)
   dsimp only at h2
   have e3 : ((A' ++ [u] ++ v :: B).set (A' ++ [u]).length u).set A'.length v = A' ++ v :: u :: B := by
    rw [List.set_append_right _ _ (Nat.le_refl _), Nat.sub_self, List.append_assoc, List.set_append_right _ _ (Nat.le_refl _), Nat.sub_self]
    rfl
   refine ⟨K1 + K2 + 1, fun k hk => ?_⟩
   obtain ⟨k', rfl, hk'⟩ := ex_succ hk
   simp only [r18Roots.l1]
   rw [ew, e1, e2, Int.toNat_natCast, Int.toNat_natCast, e3, if_pos (by simp <;> omega), if_pos (by omega), if_pos (by simp <;> omega), if_pos (by omega), if_pos (by simp <;> omega), h1 k' (by omega), Option.bind_some, if_pos hc]
   exact h2 k' (by omega)
  ·obtain ⟨K2, h2⟩ := stop (A' ++ [u]) B hAB hB (.inr ⟨A', u, rfl, hc⟩)
   dsimp only at h2
   refine ⟨K1 + K2 + 1, fun k hk => ?_⟩
   obtain ⟨k', rfl, hk'⟩ := ex_succ hk
   simp only [r18Roots.l1]
   rw [ew, e1, e2, if_pos (by simp <;> omega), if_pos (by omega), if_pos (by simp <;> omega), if_pos (by omega), if_pos (by simp <;> omega), h1 k' (by omega), Option.bind_some, if_neg hc, show (i : Int) + 1 = ((i + 1 : Nat) : Int) from rfl, wrap_nat (by omega)]
   exact h2 k' (by omega)
theorem rroots_loop (hQ : Qn q f ≤ 4096) {a : List Int} {A : ZX} (ha : El q f a A) {m : Nat} (hm : m ≤ 2147483647) : ∀ (d i : Nat) (xs : List (List Int)), i + d = Qn q f → xs.length ≤ i → SrtP xs → xs.Perm (((List.range i).filter fun i => @decide (Cg q (P f) (P (dg q i) ^ m) A) (Classical.propDecidable _)).map (dg q)) →
  Ev (fun k => r18Roots.l0 k a m xs (Qn q f : Int) (i : Int) q f) (rootS q f A m) := by
 have hlen := hF.len
 intro d
 induction d with
 | zero =>
  intro i xs hi hl hs hp
  have e : xs = rootS q f A m := by
   refine srt_unique hs (rootS_sorted hF) (hp.trans ?_)
   rw [show i = Qn q f by omega]
   exact (rootS_perm hF).symm
  refine ⟨1, fun k hk => ?_⟩
  obtain ⟨k', rfl, hk'⟩ := ex_succ hk
  simp only [r18Roots.l0]
  rw [if_neg (by omega), e]
 | succ d ih =>
  intro i xs hi hl hs hp
  have hel := dg_el hF (show i < Qn q f by omega)
  obtain ⟨K1, h1⟩ := ref_Element_ok hF (m := i) (by omega)
  obtain ⟨e, ⟨he, _⟩, hV, K2, h2⟩ := FromInt_any (p := m) (by omega)
  obtain ⟨K3, h3⟩ := ref_PowMod_spec hF.prm hF.le e hel.1 hF.nl hF.ne (by have := hel.2.1; omega) (by omega) (by omega)
  rw [hV] at h3
  have hc := El.rm hF (P (dg q i) ^ m)
  generalize rm q f (P (dg q i) ^ m) = c at *
  have hiff : c = a ↔ Cg q (P f) (P (dg q i) ^ m) A := ⟨fun e => hc.2.2.symm.trans (e ▸ ha.2.2), fun h => hc.eq hF ha h⟩
  obtain ⟨K4, h4⟩ := Same_spec c a (hc.small hF)
  have hmem : ∀ x ∈ xs, x.length ≤ 1000000 := fun x hx => by
   obtain ⟨j, hj, rfl⟩ := List.mem_map.1 (hp.mem_iff.1 hx)
   have := List.mem_range.1 (List.mem_filter.1 hj).1
   exact (dg_el hF (show j < Qn q f by omega)).small hF
  dsimp only at h1 h2 h3 h4
  by_cases he : Cg q (P f) (P (dg q i) ^ m) A
  ·have hb := bubble_loop hF (a := a) (m := (m : Int)) (v := dg q i) (Q := (Qn q f : Int)) hmem (hel.small hF) (by omega) hs (i := i) (by omega) (res := rootS q f A m) (fun l hl1 hl2 => ih (i + 1) l (by omega) (by rw [hl2.length_eq]; simp; omega) hl1 (by
     refine hl2.trans ?_
     rw [List.range_succ, List.filter_append, List.map_append]
     refine (hp.append_right _).trans ?_
     rw [List.filter_cons_of_pos (by simpa using he)]
     exact List.Perm.refl _)) xs.length xs [] rfl (by simp) (fun u hu => by cases hu)
   obtain ⟨K5, h5⟩ := hb
   dsimp only at h5
   refine ⟨K1 + K2 + K3 + K4 + K5 + 1, fun k hk => ?_⟩
   obtain ⟨k', rfl, hk'⟩ := ex_succ hk
   have h5' := h5 k' (by omega)
   simp only [r18Roots.l0, r15Pow.f]
   rw [if_pos (by omega), h1 k' (by omega), Option.bind_some, h2 k' (by omega), Option.bind_some, h3 k' (by omega), Option.bind_some, Option.bind_some, h4 k' (by omega), Option.bind_some, decide_eq_true (hiff.2 he), if_pos rfl, if_pos (by omega), Option.bind_some, show ((xs ++ [dg q i]).length : Int) - 1 = ((xs.length : Nat) : Int) by simp, wrap_nat (by omega)]
   exact h5'
  ·obtain ⟨K5, h5⟩ := ih (i + 1) xs (by omega) (by omega) hs (by
    rw [List.range_succ, List.filter_append, List.map_append, List.filter_cons_of_neg (by simpa using he)]
    simpa using hp)
   dsimp only at h5
   refine ⟨K1 + K2 + K3 + K4 + K5 + 1, fun k hk => ?_⟩
   obtain ⟨k', rfl, hk'⟩ := ex_succ hk
   simp only [r18Roots.l0, r15Pow.f]
   rw [if_pos (by omega), h1 k' (by omega), Option.bind_some, h2 k' (by omega), Option.bind_some, h3 k' (by omega), Option.bind_some, Option.bind_some, h4 k' (by omega), Option.bind_some, decide_eq_false (fun e => he (hiff.1 e)), if_neg (by simp), show (i : Int) + 1 = ((i + 1 : Nat) : Int) from rfl, wrap_nat (by omega)]
   exact h5 k' (by omega)
theorem rRoots_ok (hQ : Qn q f ≤ 4096) {a : List Int} {A : ZX} (ha : El q f a A) {m : Nat} (hm : m ≤ 2147483647) : Ev (fun k => r18Roots.f k q f a m) (rootS q f A m) := by
 obtain ⟨K0, h0⟩ := ref_Size_ok hF
 rw [if_pos (by omega)] at h0
 obtain ⟨K1, h1⟩ := rroots_loop hF hQ ha hm (Qn q f) 0 [] (by omega) (Nat.le_refl _) (by unfold SrtP; simp) (by simp)
 dsimp only at h0 h1
 refine ⟨K0 + K1, fun k hk => ?_⟩
 simp only [r18Roots.f]
 rw [h0 k (by omega), Option.bind_some]
 exact h1 k (by omega)
end
theorem count_set : ∀ (s : List Bool) (x : Nat), x < s.length → s.getD x false = false → (s.set x true).count false + 1 = s.count false
 | [], _, h, _ => by simp at h
 | b :: s, 0, _, h => by
  have h : b = false := h
  subst h
  simp
 | b :: s, x + 1, h, h2 => by
  have ih := count_set s x (by simpa using h) h2
  rw [List.set_cons_succ, List.count_cons, List.count_cons]
  omega
section
variable {p N : Nat} {f : List Int} (hN1 : 1 ≤ N) (hN : N ≤ 4096) (hp : p ≤ 65521)
include hN1 hN hp
theorem walk_cos : ∀ (n : Nat) (s : List Bool) (x : Nat) (l : List Int), s.count false = n → s.length = N → x < N → l.length + n ≤ N → (l ≠ [] ∨ s.getD x false = false) → ∃ s' l', s'.length = N ∧ l'.length ≤ N ∧
  ∀ (out : List (List Int)) (i : Nat), out.length ≤ 4096 → i ≤ 4096 →
   (∀ res, Ev (fun k => dl_Cosets.l0 k ((N + 1 : Nat) : Int) s' (out ++ [l']) (N : Int) ((i + 1 : Nat) : Int) p f) res → Ev (fun k => dl_Cosets.l1 k ((N + 1 : Nat) : Int) s out l (x : Int) (N : Int) (i : Int) p f) res) ∧
   (∀ res, Ev (fun k => r18Cosets.l0 k (out ++ [l']) (N : Int) s' ((i + 1 : Nat) : Int) p f) res → Ev (fun k => r18Cosets.l1 k out (N : Int) s (i : Int) l (x : Int) p f) res) := by
 intro n
 induction n with
 | zero =>
  intro s x l hc hs hx hl hne
  have hseen : s.getD x false = true := by
   cases h : s.getD x false with
   | true => rfl
   | false => have := count_set s x (by omega) h; omega
  have hl0 : l ≠ [] := hne.resolve_right (by rw [hseen]; simp)
  have hlp := List.length_pos_iff.2 hl0
  refine ⟨s, l, hs, by omega, fun out i ho hi => ⟨fun res ⟨K, hK⟩ => ⟨K + 1, fun k hk => ?_⟩, fun res ⟨K, hK⟩ => ⟨K + 1, fun k hk => ?_⟩⟩⟩
  ·dsimp only at hK
   obtain ⟨k', rfl, hk'⟩ := ex_succ hk
   simp only [dl_Cosets.l1]
   rw [if_pos (by omega), if_pos (by omega), if_pos (by unfold rdOf; rw [Int.toNat_natCast]; exact hseen), if_pos (by omega), if_pos (by omega), show (i : Int) + 1 = ((i + 1 : Nat) : Int) from rfl, wrap_nat (by omega)]
   exact hK k' hk'
  ·dsimp only at hK
   obtain ⟨k', rfl, hk'⟩ := ex_succ hk
   simp only [r18Cosets.l1]
   rw [if_pos (by omega), if_pos (by omega), if_pos (by unfold rdOf; rw [Int.toNat_natCast]; exact hseen), if_pos (by omega), show (i : Int) + 1 = ((i + 1 : Nat) : Int) from rfl, wrap_nat (by omega)]
   exact hK k' hk'
 | succ n ih =>
  intro s x l hc hs hx hl hne
  cases hsx : s.getD x false with
  | true =>
   have hl0 : l ≠ [] := hne.resolve_right (by rw [hsx]; simp)
   have hlp := List.length_pos_iff.2 hl0
   refine ⟨s, l, hs, by omega, fun out i ho hi => ⟨fun res ⟨K, hK⟩ => ⟨K + 1, fun k hk => ?_⟩, fun res ⟨K, hK⟩ => ⟨K + 1, fun k hk => ?_⟩⟩⟩
   ·dsimp only at hK
    obtain ⟨k', rfl, hk'⟩ := ex_succ hk
    simp only [dl_Cosets.l1]
    rw [if_pos (by omega), if_pos (by omega), if_pos (by unfold rdOf; rw [Int.toNat_natCast]; exact hsx), if_pos (by omega), if_pos (by omega), show (i : Int) + 1 = ((i + 1 : Nat) : Int) from rfl, wrap_nat (by omega)]
    exact hK k' hk'
   ·dsimp only at hK
    obtain ⟨k', rfl, hk'⟩ := ex_succ hk
    simp only [r18Cosets.l1]
    rw [if_pos (by omega), if_pos (by omega), if_pos (by unfold rdOf; rw [Int.toNat_natCast]; exact hsx), if_pos (by omega), show (i : Int) + 1 = ((i + 1 : Nat) : Int) from rfl, wrap_nat (by omega)]
    exact hK k' hk'
  | false =>
   have hcs := count_set s x (by omega) hsx
   have hpx : x * p ≤ 4096 * 65521 := Nat.mul_le_mul (by omega) hp
   obtain ⟨s', l', h1, h2, h3⟩ := ih (s.set x true) (x * p % N) (l ++ [(x : Int)]) (by omega) (by rw [List.length_set]; exact hs) (Nat.mod_lt _ (by omega)) (by simp; omega) (.inl (by simp))
   have hw : wrap64 ((x : Int) * (p : Int)) = ((x * p : Nat) : Int) := by rw [← Int.natCast_mul, wrap_nat (by omega)]
   refine ⟨s', l', h1, h2, fun out i ho hi => ⟨fun res hr => ?_, fun res hr => ?_⟩⟩
   ·obtain ⟨K, hK⟩ := (h3 out i ho hi).1 res hr
    dsimp only at hK
    refine ⟨K + 1, fun k hk => ?_⟩
    obtain ⟨k', rfl, hk'⟩ := ex_succ hk
    simp only [dl_Cosets.l1]
    rw [if_pos (by omega), if_pos (by omega), if_neg (by unfold rdOf; rw [Int.toNat_natCast, hsx]; simp), if_pos (by omega), show ((N + 1 : Nat) : Int) - 1 = (N : Int) by omega, wrap_nat (by omega), if_neg (by omega), hw, tmod_nat, Int.toNat_natCast]
    exact hK k' hk'
   ·obtain ⟨K, hK⟩ := (h3 out i ho hi).2 res hr
    dsimp only at hK
    refine ⟨K + 1, fun k hk => ?_⟩
    obtain ⟨k', rfl, hk'⟩ := ex_succ hk
    simp only [r18Cosets.l1]
    rw [if_pos (by omega), if_pos (by omega), if_neg (by unfold rdOf; rw [Int.toNat_natCast, hsx]; simp), if_pos (by omega), if_neg (by omega), hw, tmod_nat, Int.toNat_natCast]
    exact hK k' hk'
theorem cos_loop : ∀ (d i : Nat) (s : List Bool) (out : List (List Int)), i + d = N → s.length = N → out.length ≤ i → (∀ x ∈ out, x.length ≤ N) → ∃ res, res.length ≤ N ∧ (∀ x ∈ res, x.length ≤ N) ∧
  Ev (fun k => dl_Cosets.l0 k ((N + 1 : Nat) : Int) s out (N : Int) (i : Int) p f) (res, 0) ∧ Ev (fun k => r18Cosets.l0 k out (N : Int) s (i : Int) p f) res := by
 intro d
 induction d with
 | zero =>
  intro i s out hi hs ho hx
  refine ⟨out, by omega, hx, ⟨1, fun k hk => ?_⟩, 1, fun k hk => ?_⟩
  ·obtain ⟨k', rfl, hk'⟩ := ex_succ hk
   simp only [dl_Cosets.l0]
   rw [if_neg (by omega)]
  ·obtain ⟨k', rfl, hk'⟩ := ex_succ hk
   simp only [r18Cosets.l0]
   rw [if_neg (by omega)]
 | succ d ih =>
  intro i s out hi hs ho hx
  cases hsi : s.getD i false with
  | true =>
   obtain ⟨res, r1, r2, ⟨K1, h1⟩, K2, h2⟩ := ih (i + 1) s out (by omega) hs (by omega) hx
   dsimp only at h1 h2
   refine ⟨res, r1, r2, ⟨K1 + 2, fun k hk => ?_⟩, K2 + 1, fun k hk => ?_⟩
   ·obtain ⟨k1, rfl, hk1⟩ := ex_succ (K := K1 + 1) hk
    obtain ⟨k2, rfl, hk2⟩ := ex_succ (K := K1) (k := k1) (by omega)
    simp only [dl_Cosets.l0]
    rw [if_pos (by omega)]
    simp only [dl_Cosets.l1]
    rw [if_pos (by omega), if_pos (by omega), if_pos (by unfold rdOf; rw [Int.toNat_natCast]; exact hsi), if_neg (by simp), show (i : Int) + 1 = ((i + 1 : Nat) : Int) from rfl, wrap_nat (by omega)]
    exact h1 k2 (by omega)
   ·obtain ⟨k', rfl, hk'⟩ := ex_succ hk
    simp only [r18Cosets.l0]
    rw [if_pos (by omega), if_pos (by omega), if_pos (by omega), if_pos (by unfold rdOf; rw [Int.toNat_natCast]; exact hsi), show (i : Int) + 1 = ((i + 1 : Nat) : Int) from rfl, wrap_nat (by omega)]
    exact h2 k' hk'
  | false =>
   obtain ⟨s', l', w1, w2, w3⟩ := walk_cos (f := f) hN1 hN hp (s.count false) s i [] rfl hs (by omega) (by have := List.count_le_length (a := false) (l := s); simp; omega) (.inr hsi)
   obtain ⟨res, r1, r2, h1, h2⟩ := ih (i + 1) s' (out ++ [l']) (by omega) w1 (by simp; omega) (fun x hxm => by
    rcases List.mem_append.1 hxm with h | h
    ·exact hx x h
    ·rw [List.mem_singleton.1 h]; exact w2)
   obtain ⟨K1, h1⟩ := (w3 out i (by omega) (by omega)).1 _ h1
   obtain ⟨K2, h2⟩ := (w3 out i (by omega) (by omega)).2 _ h2
   dsimp only at h1 h2
   refine ⟨res, r1, r2, ⟨K1 + 1, fun k hk => ?_⟩, K2 + 1, fun k hk => ?_⟩
   ·obtain ⟨k', rfl, hk'⟩ := ex_succ hk
    simp only [dl_Cosets.l0]
    rw [if_pos (by omega)]
    exact h1 k' hk'
   ·obtain ⟨k', rfl, hk'⟩ := ex_succ hk
    simp only [r18Cosets.l0]
    rw [if_pos (by omega), if_pos (by omega), if_pos (by omega), if_neg (by unfold rdOf; rw [Int.toNat_natCast, hsi]; simp)]
    exact h2 k' hk'
end
section
variable {q : Nat} {f : List Int} (hF : Fld q f)
include hF
theorem Cosets_ok (hQ : Qn q f ≤ 4096) : ∃ res, res.length ≤ 4096 ∧ (∀ x ∈ res, x.length ≤ 4096) ∧ Ev (fun k => dl_Cosets.f k q f) (res, 0) ∧ Ev (fun k => r18Cosets.f k q f) res := by
 have hpos := Qn_pos hF
 obtain ⟨K0, h0⟩ := ref_Size_ok hF
 rw [if_pos (by omega)] at h0
 obtain ⟨K1, h1⟩ := open_ok hF 4096 [] (by simp)
 rw [opE_ok hF (by omega) hQ (by intro l hl; cases hl)] at h1
 obtain ⟨res, r1, r2, ⟨K2, h2⟩, K3, h3⟩ := cos_loop (p := q) (N := Qn q f - 1) (f := f) (by omega) (by omega) hF.le (Qn q f - 1) 0 (List.replicate (Qn q f - 1) false) [] (by omega) (by simp) (Nat.le_refl _) (by intro x hx; cases hx)
 have ew : wrap64 ((Qn q f : Int) - 1) = ((Qn q f - 1 : Nat) : Int) := by rw [show (Qn q f : Int) - 1 = ((Qn q f - 1 : Nat) : Int) by omega, wrap_nat (by omega)]
 dsimp only at h0 h1 h2 h3
 rw [show ((Qn q f - 1 + 1 : Nat) : Int) = (Qn q f : Int) by omega] at h2
 refine ⟨res, by omega, fun x hx => by have := r2 x hx; omega, ⟨K1 + K2, fun k hk => ?_⟩, K0 + K3, fun k hk => ?_⟩
 ·simp only [dl_Cosets.f]
  rw [show (4096 : Int) = ((4096 : Nat) : Int) from rfl, h1 k (by omega), Option.bind_some, if_pos rfl]
  dsimp only
  rw [ew, if_pos (by omega), Int.toNat_natCast, if_pos (by omega)]
  exact h2 k (by omega)
 ·simp only [r18Cosets.f]
  rw [h0 k (by omega), Option.bind_some, ew, if_pos (by omega), Int.toNat_natCast, if_pos (by omega)]
  exact h3 k (by omega)
end
end Go.Proofs.YtillaipaanancaaGreat.Q
end
section
namespace Go.Proofs.YtillaipaanancaaGreat.Q
open Go.RowKit Go.Proofs.YtillaipaanancaaGreatW.PrintWords Go.Proofs.YtillaipaanancaaGreatW.PrintLast Go.Proofs.YtillaipaanancaaGreatW.PrintMore
set_option maxRecDepth 100000
theorem aw_1 (k : Nat) : dl_Table.f (k + 60) 7 [0, 1] [3] = some ([-1, 0, 2, 1, 4, 5, 3], 0) := by kernel_rfl
theorem aw_2 (k : Nat) : dl_Zech.f (k + 60) 2 [1, 1, 1] [0, 1] = some ([-1, 2, 1], 0) := by kernel_rfl
theorem aw_4 (k : Nat) : dl_Cosets.f (k + 60) 2 [1, 1, 0, 1] = some ([[0], [1, 2, 4], [3, 6, 5]], 0) := by kernel_rfl
theorem aw_5 (k : Nat) : dl_Log.f (k + 60) 7 [0, 1] [3] [6] = some (3, 0) := by kernel_rfl
theorem aw_6 (k : Nat) : dl_open.f (k + 60) 7 [0, 1] 4096 [[2]] = some (7, [0, 1], 7, 0) := by kernel_rfl
theorem aw_7 (k : Nat) : dl_Roots.l0 (k + 60) 7 [0, 1] [2] 2 (7 : Int).toNat (k + 60) 0 [] = some [[3], [4]] := by kernel_rfl
theorem aw_8 : [[3], [4]].mergeSort (fun x y => !decide (dlP y x < 0)) = [[3], [4]] := List.mergeSort_of_pairwise (by decide)
theorem aw_3 (k : Nat) : dl_Roots.f (k + 60) 7 [0, 1] [2] 2 = some ([[3], [4]], 0) := by
 unfold dl_Roots.f
 rw [aw_6, Option.bind_some, if_pos rfl, if_neg (by decide), if_neg (by decide), if_pos (by decide)]
 show (dl_Roots.l0 (k + 60) 7 [0, 1] [2] 2 (7 : Int).toNat (k + 60) 0 []).bind _ = _
 rw [aw_7, Option.bind_some, if_pos (by decide), aw_8]
theorem awake_ge (k : Nat) : l18awake.f (k + 60) = some true := by
 simp only [l18awake.f, l18seven.f, l18four.f, l18eight.f, Option.bind_some]
 rw [aw_1, Option.bind_some, aw_2, Option.bind_some, aw_3, Option.bind_some, aw_4, Option.bind_some, aw_5, Option.bind_some]
 kernel_rfl
theorem awake_ev : Ev l18awake.f true := ⟨60, fun k hk => by
 obtain ⟨j, rfl⟩ : ∃ j, k = j + 60 := ⟨k - 60, by omega⟩
 exact awake_ge j⟩
end Go.Proofs.YtillaipaanancaaGreat.Q
end
section
namespace Go.Proofs.YtillaipaanancaaGreat.Pure
open Go.RowKit Go.Proofs.YtillaipaanancaaGreatW.PrintWords Go.Proofs.YtillaipaanancaaGreatW.PrintLast Go.Proofs.YtillaipaanancaaGreatW.PrintMore Go.Proofs.YtillaipaanancaaGreat.M Go.Proofs.YtillaipaanancaaGreat.M.ZX Go.Proofs.YtillaipaanancaaGreat.Q
set_option linter.unusedVariables false
set_option linter.unusedSimpArgs false
theorem j3_err {p : Int} {f a : List Int} {m e e1 : Int} (he : e ≠ 0) (h1 : Ev (fun k => r18CheckSmall.f k p f a [] 4096) e1) (hc : (e1 ≠ 0 ∧ e = e1) ∨ (e1 = 0 ∧ r4IsModulus.f m = some false ∧ e = 3)) : Ev (fun k => lw.j3 k a m [] e p f) true := by
 obtain ⟨K1, h1⟩ := h1
 dsimp only at h1
 refine ⟨K1 + 3, fun k hk => ?_⟩
 obtain ⟨k1, rfl, hk1⟩ := ex_succ (K := K1 + 2) hk
 obtain ⟨k2, rfl, hk2⟩ := ex_succ (K := K1 + 1) (k := k1) (by omega)
 obtain ⟨k3, rfl, hk3⟩ := ex_succ (K := K1) (k := k2) (by omega)
 have fin : lw.j5 (k3 + 1) a m [] e e p f = some true := by
  simp only [lw.j5]
  rw [if_neg he, if_pos (by simp), beq_self_eq_true]
 simp only [lw.j3]
 rw [h1 _ (by omega), Option.bind_some]
 rcases hc with ⟨h0, rfl⟩ | ⟨h0, h2, rfl⟩
 ·rw [if_neg h0]
  simp only [lw.j4]
  rw [if_neg (by simp)]
  exact fin
 ·rw [if_pos h0, h2, Option.bind_some]
  simp only [lw.j4]
  rw [if_pos (by rfl)]
  exact fin
theorem j0_err {p : Int} {f a : List Int} {m e0 e : Int} {r : List (List Int)} (h0 : e0 ≠ 0) (h1 : Ev (fun k => dl_Roots.f k p f a m) (r, e)) (h2 : Ev (fun k => dl_Cosets.f k p f) ([], e0)) (h3 : Ev (fun k => r18CheckSmall.f k p f [] [] 4096) e0)
  (h4 : Ev (fun k => lw.j3 k a m r e p f) true) : Ev (fun k => lw.j0 k a m false p f) true := by
 obtain ⟨K1, h1⟩ := h1
 obtain ⟨K2, h2⟩ := h2
 obtain ⟨K3, h3⟩ := h3
 obtain ⟨K4, h4⟩ := h4
 dsimp only at h1 h2 h3 h4
 refine ⟨K1 + K2 + K3 + K4 + 1, fun k hk => ?_⟩
 obtain ⟨k', rfl, hk'⟩ := ex_succ hk
 simp only [lw.j0]
 rw [if_neg (by simp), h1 k' (by omega), Option.bind_some, h2 k' (by omega), Option.bind_some, h3 k' (by omega), Option.bind_some, if_neg h0, if_neg (by simp), if_pos rfl]
 exact h4 k' (by omega)
theorem j0_loop {p : Int} {f a : List Int} {m e : Int} {r c : List (List Int)} (hc : c.length ≤ 4096) (hx : ∀ x ∈ c, x.length ≤ 4096) (h4 : Ev (fun k => lw.j3 k a m r e p f) true) : ∀ (d i : Nat), i + d = c.length → Ev (fun k => lw.l0 k a m r e c c i p f) true := by
 obtain ⟨K4, h4⟩ := h4
 dsimp only at h4
 intro d
 induction d with
 | zero =>
  intro i hi
  refine ⟨K4 + 1, fun k hk => ?_⟩
  obtain ⟨k', rfl, hk'⟩ := ex_succ hk
  simp only [lw.l0]
  rw [if_neg (by omega)]
  exact h4 k' hk'
 | succ d ih =>
  intro i hi
  obtain ⟨K, hK⟩ := ih (i + 1) (by omega)
  have hm : rd_L1 c (i : Int) ∈ c := by
   unfold rd_L1
   rw [Int.toNat_natCast, List.getD_eq_getElem?_getD, List.getElem?_eq_getElem (by omega)]
   exact List.getElem_mem _
  obtain ⟨K2, h2⟩ := same_ok (rfl : rd_L1 c (i : Int) = rd_L1 c (i : Int)) (by have := hx _ hm; omega)
  dsimp only at hK h2
  refine ⟨K + K2 + 1, fun k hk => ?_⟩
  obtain ⟨k', rfl, hk'⟩ := ex_succ hk
  simp only [lw.l0]
  rw [if_pos (by omega), if_pos (by omega), if_pos (by omega), h2 k' (by omega), Option.bind_some, if_pos rfl, succ_wrap (by omega)]
  exact hK k' (by omega)
theorem j0_ok {p : Int} {f a : List Int} {m e : Int} {r c : List (List Int)} (hc : c.length ≤ 4096) (hx : ∀ x ∈ c, x.length ≤ 4096) (h1 : Ev (fun k => dl_Roots.f k p f a m) (r, e)) (h2 : Ev (fun k => dl_Cosets.f k p f) (c, 0)) (h3 : Ev (fun k => r18CheckSmall.f k p f [] [] 4096) 0)
  (h5 : Ev (fun k => r18Cosets.f k p f) c) (h4 : Ev (fun k => lw.j3 k a m r e p f) true) : Ev (fun k => lw.j0 k a m false p f) true := by
 obtain ⟨K4, h4⟩ := j0_loop hc hx h4 c.length 0 (by omega)
 obtain ⟨K1, h1⟩ := h1
 obtain ⟨K2, h2⟩ := h2
 obtain ⟨K3, h3⟩ := h3
 obtain ⟨K5, h5⟩ := h5
 dsimp only at h1 h2 h3 h4 h5
 refine ⟨K1 + K2 + K3 + K4 + K5 + 2, fun k hk => ?_⟩
 obtain ⟨k1, rfl, hk1⟩ := ex_succ (K := K1 + K2 + K3 + K4 + K5 + 1) hk
 obtain ⟨k2, rfl, hk2⟩ := ex_succ (K := K1 + K2 + K3 + K4 + K5) (k := k1) (by omega)
 simp only [lw.j0]
 rw [if_neg (by simp), h1 _ (by omega), Option.bind_some, h2 _ (by omega), Option.bind_some, h3 _ (by omega), Option.bind_some, if_pos rfl, h5 _ (by omega), Option.bind_some, if_pos rfl]
 simp only [lw.j1]
 rw [if_neg (by simp)]
 exact h4 _ (by omega)
theorem roots_bad {p : Int} {f a : List Int} {m : Int} (h : ckF p f ≠ 0) : Ev (fun k => lw.j0 k a m false p f) true := by
 obtain ⟨K, hK⟩ := open_bad h 4096 [a]
 obtain ⟨K2, hK2⟩ := open_bad h 4096 []
 dsimp only at hK hK2
 refine j0_err h (r := []) (e := ckF p f) ⟨K, fun k hk => ?_⟩ ⟨K2, fun k hk => ?_⟩ (small_bad h [] [] 4096) (j3_err h (small_bad h a [] 4096) (.inl ⟨h, rfl⟩))
 ·simp only [dl_Roots.f]
  rw [hK k hk, Option.bind_some, if_neg h]
 ·simp only [dl_Cosets.f]
  rw [hK2 k hk, Option.bind_some, if_neg h]
section
variable {q : Nat} {f : List Int} (hF : Fld q f)
include hF
theorem ck_nil : ckE q f [] = 0 := ckE_of hF NL.nil (by have := hF.two; simp; omega)
theorem opE_a (a : List Int) : (opE q f 4096 [a, []]).2 = (opE q f 4096 [a]).2 := by
 have h0 := ck_nil hF
 unfold opE
 by_cases hg : ckE q f a = 0
 ·rw [if_pos hg, if_pos hg]
  conv => lhs; unfold opE; rw [if_pos h0]
 ·rw [if_neg hg, if_neg hg]
theorem opE_0 : (opE q f 4096 [[], []]).2 = (opE q f 4096 []).2 := by
 have h0 := ck_nil hF
 rw [opE_a hF]
 conv => lhs; unfold opE; rw [if_pos h0]
theorem mod_of (m : Int) : (r4IsModulus.f m = some false ∧ (m < 1 ∨ m > 2147483647)) ∨ (r4IsModulus.f m = some true ∧ 1 ≤ m ∧ m ≤ 2147483647) := by
 have _ := hF
 simp only [r4IsModulus.f]
 by_cases h1 : m ≥ 1
 ·by_cases h2 : m ≤ 2147483647
  ·exact .inr ⟨by rw [if_pos h1, decide_eq_true h2], h1, h2⟩
  ·exact .inl ⟨by rw [if_pos h1, decide_eq_false h2], by omega⟩
 ·exact .inl ⟨by rw [if_neg h1], by omega⟩
theorem roots_big (hQ : ¬ Qn q f ≤ 4096) {a : List Int} {m : Int} : Ev (fun k => lw.j0 k a m false q f) true := by
 have e0 : opE q f 4096 [] = (0, 5) := by unfold opE; rw [if_neg (fun h => hQ h.2)]
 have e1 : (opE q f 4096 [a]).2 ≠ 0 := by
  unfold opE
  by_cases ha : ckE q f a = 0
  ·rw [if_pos ha, e0]; decide
  ·rw [if_neg ha]; exact ha
 obtain ⟨K2, hK2⟩ := open_ok hF 4096 [] (by simp)
 rw [e0] at hK2
 have hs := small_ok hF 4096 [] []
 rw [opE_0 hF, e0] at hs
 have hs2 := small_ok hF 4096 a []
 rw [opE_a hF] at hs2
 dsimp only at hK2
 refine j0_err (e0 := 5) (by decide) (r := []) (e := (opE q f 4096 [a]).2) (Roots_bad hF e1) ⟨K2, fun k hk => ?_⟩ hs (j3_err e1 hs2 (.inl ⟨e1, rfl⟩))
 simp only [dl_Cosets.f]
 rw [show (4096 : Int) = ((4096 : Nat) : Int) from rfl, hK2 k hk, Option.bind_some, if_neg (show ¬ (5 : Int) = 0 by decide)]
theorem roots_good (hQ : Qn q f ≤ 256) {a : List Int} {m : Int} : Ev (fun k => lw.j0 k a m false q f) true := by
 obtain ⟨c, c1, c2, c3, c4⟩ := Cosets_ok hF (by omega)
 have e0 : opE q f 4096 [] = (((Qn q f : Nat) : Int), 0) := opE_ok hF (by omega) (by omega) (by intro l hl; cases hl)
 have hs := small_ok hF 4096 [] []
 rw [opE_0 hF, e0] at hs
 have hs2 := small_ok hF 4096 a []
 rw [opE_a hF] at hs2
 by_cases ha : ckE q f a = 0
 ·have ea := El.of hF (ckE_zero ha).1 (ckE_zero ha).2
  have e1 := opE_one hF (show Qn q f ≤ 2147483647 by omega) (show Qn q f ≤ 4096 by omega) ea
  rw [e1] at hs2
  rcases mod_of hF m with ⟨h1, h2⟩ | ⟨h1, h2, h3⟩
  ·obtain ⟨K, hK⟩ := open_ok hF 4096 [a] (by simp)
   rw [e1] at hK
   dsimp only at hK
   refine j0_ok c1 c2 (r := []) (e := 3) ⟨K, fun k hk => ?_⟩ c3 hs c4 (j3_err (by decide) hs2 (.inr ⟨rfl, h1, rfl⟩))
   simp only [dl_Roots.f]
   rw [show (4096 : Int) = ((4096 : Nat) : Int) from rfl, hK k hk, Option.bind_some, if_pos rfl]
   by_cases h4 : m < 1
   ·rw [if_pos h4]
   ·rw [if_neg h4, if_pos (by omega)]
  ·obtain ⟨n, rfl⟩ : ∃ n : Nat, m = n := ⟨m.toNat, by omega⟩
   have hr := Roots_ok hF (by omega) ea (m := n) (by omega) (by omega)
   obtain ⟨K1, r1⟩ := rRoots_ok hF (by omega) ea (m := n) (by omega)
   have hl1 := len_rootN hF (A := P a) (m := n)
   have hl2 := rootS_len hF (A := P a) (m := n)
   obtain ⟨K2, r2⟩ := same_lists_ok (rfl : rootS q f (P a) n = rootS q f (P a) n) (by omega) (fun x hx => by
    obtain ⟨i, hi, _, rfl⟩ := (rootS_mem hF).1 hx
    exact (dg_el hF hi).small hF)
   obtain ⟨K3, r3⟩ := hs2
   dsimp only at r1 r2 r3
   refine j0_ok c1 c2 hr c3 hs c4 ⟨K1 + K2 + K3 + 3, fun k hk => ?_⟩
   obtain ⟨k1, rfl, hk1⟩ := ex_succ (K := K1 + K2 + K3 + 2) hk
   obtain ⟨k2, rfl, hk2⟩ := ex_succ (K := K1 + K2 + K3 + 1) (k := k1) (by omega)
   obtain ⟨k3, rfl, hk3⟩ := ex_succ (K := K1 + K2 + K3) (k := k2) (by omega)
   have r3' := r3 (k3 + 1 + 1) (by omega)
   rw [show ((4096 : Nat) : Int) = 4096 from rfl] at r3'
   simp only [lw.j3]
   rw [r3', Option.bind_some, if_pos rfl, h1, Option.bind_some]
   simp only [lw.j4]
   rw [if_neg (by simp)]
   simp only [lw.j5]
   rw [if_pos trivial, if_pos trivial, r1 _ (by omega), Option.bind_some, r2 _ (by omega), Option.bind_some]
 ·have e1 : (opE q f 4096 [a]).2 ≠ 0 := by unfold opE; rw [if_neg ha]; exact ha
  exact j0_ok c1 c2 (Roots_bad hF e1) c3 hs c4 (j3_err e1 hs2 (.inl ⟨e1, rfl⟩))
end
theorem DiscretelogRoots : lw.Pure := by
 intro p f a m _ _ _ _ _ _ _ _
 obtain ⟨Ka, ha⟩ := awake_ev
 obtain ⟨b, hb, K1, h1⟩ := light_spec p f
 have out : ∀ k, Ka ≤ k → lw.j0 (k + 1) a m true p f = some true := fun k hk => by
  simp only [lw.j0]
  rw [if_pos trivial, ha k hk, Option.bind_some]
 dsimp only at h1
 cases b with
 | false =>
  refine ⟨Ka + K1 + 1, ?_⟩
  simp only [lw.f]
  rw [ha _ (by omega), Option.bind_some, if_pos rfl, h1 _ (by omega), Option.bind_some, if_neg (by simp)]
  exact out _ (by omega)
 | true =>
  by_cases hl : a.length ≤ 70
  ·obtain ⟨K2, h2⟩ : Ev (fun k => lw.j0 k a m false p f) true := by
    rcases hb rfl with h0 | ⟨q, rfl, hF, hQ⟩
    ·exact roots_bad h0
    ·rcases hQ with hQ | hQ
     ·exact roots_good hF hQ
     ·exact roots_big hF hQ
   dsimp only at h2
   refine ⟨Ka + K1 + K2 + 1, ?_⟩
   simp only [lw.f]
   rw [ha _ (by omega), Option.bind_some, if_pos rfl, h1 _ (by omega), Option.bind_some, if_pos rfl, decide_eq_false (by omega)]
   exact h2 _ (by omega)
  ·refine ⟨Ka + K1 + 1, ?_⟩
   simp only [lw.f]
   rw [ha _ (by omega), Option.bind_some, if_pos rfl, h1 _ (by omega), Option.bind_some, if_pos rfl, decide_eq_true (by omega)]
   exact out _ (by omega)
end Go.Proofs.YtillaipaanancaaGreat.Pure
end

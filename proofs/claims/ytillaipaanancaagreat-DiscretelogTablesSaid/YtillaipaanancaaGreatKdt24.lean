/- Machine side and arithmetic of the law, put together by a program of the session. No conditions. -/
import Derived.WalkKit
import Derived.WalkSmall
import Derived.KernelRfl
import Derived.Test.YtillaipaanancaaGreatKdt18
import Derived.Test.YtillaipaanancaaGreatKdt19
import Derived.Test.YtillaipaanancaaGreatKdt21
import Derived.Test.YtillaipaanancaaGreatKdt23
section
namespace Go.Proofs.YtillaipaanancaaGreat.Q
open Go.RowKit Go.Proofs.YtillaipaanancaaGreatW.PrintWords Go.Proofs.YtillaipaanancaaGreatW.PrintLast Go.Proofs.YtillaipaanancaaGreatW.PrintMore Go.Proofs.YtillaipaanancaaGreat.M Go.Proofs.YtillaipaanancaaGreat.M.ZX
set_option linter.unusedVariables false
set_option linter.unusedSimpArgs false
theorem ord_inj {p : Nat} {f A : ZX} {k i j : Nat} (h : IsOrd p f A k) (hij : i < j) (hj : j < k) : ¬ Cg p f (A ^ i) (A ^ j) := by
 intro hc
 have h1 : Cg p f (A ^ (i + (k - j))) 1 := by
  rw [pow_add]
  refine (hc.mul (Cg.refl _)).trans ?_
  rw [← pow_add, show j + (k - j) = k by omega]
  exact h.2.1
 have := Nat.le_of_dvd (by omega) ((h.dvd_iff _).1 h1)
 omega
theorem ord_inj' {p : Nat} {f A : ZX} {k i j : Nat} (h : IsOrd p f A k) (hi : i < k) (hj : j < k) (hc : Cg p f (A ^ i) (A ^ j)) : i = j := by
 rcases Nat.lt_trichotomy i j with h1 | h1 | h1
 ·exact absurd hc (ord_inj h h1 hj)
 ·exact h1
 ·exact absurd hc.symm (ord_inj h h1 hi)
theorem mget_set {m n v : Int} : ∀ kn : List (Int × Int), Go.TT.mget (.int .i64) n (Go.TT.mset (.int .i64) m v kn) = if n = m then some v else Go.TT.mget (.int .i64) n kn
 | [] => by
  show (if ((n : Int) == m) = true then some v else none) = _
  by_cases h : n = m <;> simp [h, Go.TT.mget]
 | x :: xs => by
  have ih := mget_set (m := m) (n := n) (v := v) xs
  show Go.TT.mget (.int .i64) n (if ((m : Int) == x.1) = true then (m, v) :: xs else x :: Go.TT.mset (.int .i64) m v xs) = if n = m then some v else (if ((n : Int) == x.1) = true then some x.2 else Go.TT.mget (.int .i64) n xs)
  by_cases h : m = x.1
  ·rw [if_pos (beq_iff_eq.2 h)]
   show (if ((n : Int) == m) = true then some v else Go.TT.mget (.int .i64) n xs) = _
   by_cases h2 : n = m
   ·simp [h2]
   ·rw [if_neg (by simpa using h2), if_neg h2, if_neg (by rw [← h]; simpa using h2)]
  ·rw [if_neg (by simpa using h)]
   show (if ((n : Int) == x.1) = true then some x.2 else Go.TT.mget (.int .i64) n (Go.TT.mset (.int .i64) m v xs)) = _
   rw [ih]
   by_cases h2 : n = m
   ·subst h2; rw [if_neg (by simpa using h), if_pos rfl, if_pos rfl]
   ·rw [if_neg h2, if_neg h2]
section
variable {q : Nat} {f : List Int} (hF : Fld q f)
include hF
theorem pow_le_Q {n : Nat} (h : n < f.length) : q ^ n ≤ Qn q f := Nat.pow_le_pow_right (by have := hF.prm.1; omega) (by omega)
theorem number_loop {l : List Int} (hl : NL q l) (hlt : l.length < f.length) (hQ : Qn q f ≤ 2147483647) : ∀ (i : Nat) (y : Int), i ≤ l.length → y = (i : Int) - 1 → Ev (fun k => gFNumber.l0 k l (hv (l.drop i) q) y q f) (hv l q) := by
 intro i
 induction i with
 | zero =>
  intro y _ hy
  subst hy
  refine ⟨1, fun k hk => ?_⟩
  obtain ⟨k', rfl, hk'⟩ := ex_succ hk
  simp only [gFNumber.l0]
  rw [if_neg (by omega), List.drop_zero]
 | succ i ih =>
  intro y hi hy
  obtain rfl : y = (i : Int) := by omega
  obtain ⟨K, hK⟩ := ih ((i : Int) - 1) (by omega) rfl
  have e : hv (l.drop i) q = l.getD i 0 + q * hv (l.drop (i + 1)) q := by
   rw [List.drop_eq_getElem_cons (by omega), List.getD_eq_getElem?_getD, List.getElem?_eq_getElem (by omega)]
   rfl
  have hb : ∀ j, 0 ≤ hv (l.drop j) q ∧ hv (l.drop j) q < 2147483648 := fun j => by
   have h1 := nl_num (p := q) (l := l.drop j) (fun c hc => hl.1 c (List.mem_of_mem_drop hc))
   have h2 := pow_le_Q hF (n := (l.drop j).length) (by rw [List.length_drop]; omega)
   omega
  have hd := hl.getD (by have := hF.prm.1; omega) i
  have h0 := hb i
  have h1 := hb (i + 1)
  have hm : 0 ≤ (q : Int) * hv (l.drop (i + 1)) q := Int.mul_nonneg (by omega) h1.1
  dsimp only at hK
  refine ⟨K + 1, fun k hk => ?_⟩
  obtain ⟨k', rfl, hk'⟩ := ex_succ hk
  simp only [gFNumber.l0]
  have hlen := hF.len
  rw [if_pos (by omega), if_pos (by omega), if_pos (by omega), rd_nat, Int.mul_comm, wrap_id (x := (q : Int) * hv (l.drop (i + 1)) q) (by omega) (by omega), wrap_id (by omega) (by omega), wrap_id (x := (i : Int) - 1) (by omega) (by omega), Int.add_comm, ← e]
  exact hK k' (by omega)
theorem gf_Number_ok (hQ : Qn q f ≤ 2147483647) {l : List Int} {x : ZX} (hl : El q f l x) : Ev (fun k => gFNumber.f k q f l) (hv l q) := by
 obtain ⟨K3, h3⟩ := number_loop hF hl.1 hl.2.1 hQ l.length _ (Nat.le_refl _) rfl
 have hlen := hF.len
 have h4 := hl.2.1
 rw [List.drop_length] at h3
 dsimp only at h3
 refine ⟨K3, fun k hk => ?_⟩
 simp only [gFNumber.f]
 rw [wrap_id (by omega) (by omega)]
 exact h3 k hk
theorem num_bound {l : List Int} {x : ZX} (hl : El q f l x) : 0 ≤ hv l q ∧ hv l q < Qn q f := by
 have h1 := nl_num (p := q) hl.1.1
 have h2 := pow_le_Q hF hl.2.1
 omega
theorem num_el {l : List Int} {x : ZX} (hl : El q f l x) : ∃ n : Nat, hv l q = n ∧ n < Qn q f ∧ l = dg q n := by
 have h := num_bound hF hl
 exact ⟨(hv l q).toNat, by omega, by omega, (dg_num hF.prm.1 hl.1).symm⟩
theorem num_eq {l m : List Int} {x y : ZX} (hl : El q f l x) (hm : El q f m y) (h : hv l q = hv m q) : Cg q (P f) x y := by
 have e : l = m := by rw [← dg_num hF.prm.1 hl.1, ← dg_num hF.prm.1 hm.1, h]
 subst e
 exact hl.2.2.symm.trans hm.2.2
theorem num_cg {l m : List Int} {x y : ZX} (hl : El q f l x) (hm : El q f m y) (h : Cg q (P f) x y) : hv l q = hv m q := by rw [hl.eq hF hm h]
section
variable {G : ZX} (ho : IsOrd q (P f) G (Qn q f - 1))
include ho
theorem gpow_ne (k : Nat) : ¬ In q (P f) (G ^ k) := by
 intro h
 have h1 : In q (P f) (G ^ (k * (Qn q f - 1))) := by
  have hp := Qn_pos hF
  rw [show k * (Qn q f - 1) = k * (Qn q f - 1 - 1) + k by rw [← Nat.mul_succ]; congr 1; omega, pow_add]
  exact h.mul' _
 rw [Nat.mul_comm, pow_mul] at h1
 exact not_in_one hF.prm hF.nl hF.two ((Cg.one_pow ho.2.1 k).in_iff.1 h1)
theorem lg_exists {n : Nat} (hn : n < Qn q f) (h0 : n ≠ 0) : ∃ k, k < Qn q f - 1 ∧ Cg q (P f) (P (dg q n)) (G ^ k) := by
 have hp := Qn_pos hF
 let φ : Nat → Nat := fun m => (hv (rm q f (G ^ (m - 1))) q).toNat
 have hel : ∀ m, El q f (rm q f (G ^ (m - 1))) (G ^ (m - 1)) := fun m => El.rm hF _
 have hmem : ∀ x, x ∈ List.range' 1 (Qn q f - 1) ↔ 1 ≤ x ∧ x < Qn q f := fun x => by rw [List.mem_range'_1]; omega
 have hperm := perm_map_self (l := List.range' 1 (Qn q f - 1)) List.nodup_range' φ (fun m hm => by
  rw [hmem]
  have hb := num_bound hF (hel m)
  refine ⟨?_, by show (hv _ q).toNat < _; omega⟩
  rcases Int.lt_or_le 0 (hv (rm q f (G ^ (m - 1))) q) with h | h
  ·show 1 ≤ (hv _ q).toNat; omega
  ·exact absurd (((hel m).nil_iff hF).1 (nl_num_zero (hel m).1.1 (hel m).1.2 (by omega))) (gpow_ne hF ho _)) (fun m hm m' hm' e => by
  rw [hmem] at hm hm'
  have b1 := num_bound hF (hel m)
  have b2 := num_bound hF (hel m')
  have e : (hv (rm q f (G ^ (m - 1))) q).toNat = (hv (rm q f (G ^ (m' - 1))) q).toNat := e
  have := ord_inj' ho (by omega) (by omega) (num_eq hF (hel m) (hel m') (by omega))
  omega)
 have h1 : n ∈ (List.range' 1 (Qn q f - 1)).map φ := hperm.mem_iff.2 ((hmem n).2 ⟨by omega, hn⟩)
 obtain ⟨m, hm, e⟩ := List.mem_map.1 h1
 rw [hmem] at hm
 refine ⟨m - 1, by omega, ?_⟩
 have e2 : dg q n = rm q f (G ^ (m - 1)) := by rw [← e]; exact dg_num hF.prm.1 (hel m).1
 rw [e2]
 exact (hel m).2.2
def IsLg (q : Nat) (f : List Int) (G : ZX) (n : Nat) (L : Int) : Prop := (n = 0 ∧ L = -1) ∨ (n ≠ 0 ∧ ∃ k : Nat, L = k ∧ k < Qn q f - 1 ∧ Cg q (P f) (P (dg q n)) (G ^ k))
theorem lg_unique {n : Nat} {L M : Int} (h1 : IsLg q f G n L) (h2 : IsLg q f G n M) : L = M := by
 have _ := hF
 rcases h1 with ⟨a, rfl⟩ | ⟨a, k, rfl, hk, hc⟩
 ·rcases h2 with ⟨_, rfl⟩ | ⟨b, _⟩
  ·rfl
  ·exact absurd a b
 ·rcases h2 with ⟨b, _⟩ | ⟨_, j, rfl, hj, hc'⟩
  ·exact absurd b a
  ·rw [ord_inj' ho hk hj (hc.symm.trans hc')]
def Tbl (q : Nat) (f : List Int) (G : ZX) (t : List Int) : Prop := t.length = Qn q f ∧ ∀ n, n < Qn q f → IsLg q f G n (t.getD n 0)
theorem tbl_unique {t u : List Int} (h1 : Tbl q f G t) (h2 : Tbl q f G u) : t = u := by
 apply List.ext_getElem (by rw [h1.1, h2.1])
 intro i hi hi'
 have a := h1.2 i (by rw [← h1.1]; exact hi)
 have b := h2.2 i (by rw [← h2.1]; exact hi')
 rw [List.getD_eq_getElem?_getD, List.getElem?_eq_getElem hi] at a
 rw [List.getD_eq_getElem?_getD, List.getElem?_eq_getElem hi'] at b
 exact lg_unique hF ho a b
def Kn (q : Nat) (f : List Int) (G : ZX) (i : Nat) (kn : List (Int × Int)) : Prop := ∀ m v : Int, Go.TT.mget (.int .i64) m kn = some v ↔ ∃ j y, j < i ∧ v = (j : Nat) ∧ El q f y (G ^ j) ∧ hv y q = m
theorem kn_nil : Kn q f G 0 [] := by
 have _ := hF
 have _ := ho
 exact fun m v => ⟨fun h => (by cases h), fun ⟨j, _, h, _⟩ => (by omega)⟩
theorem kn_step {i : Nat} {kn : List (Int × Int)} {y : List Int} (h : Kn q f G i kn) (hi : i < Qn q f - 1) (hy : El q f y (G ^ i)) : Kn q f G (i + 1) (Go.TT.mset (.int .i64) (hv y q) (i : Int) kn) := by
 intro m v
 rw [mget_set]
 by_cases hm : m = hv y q
 ·rw [if_pos hm]
  constructor
  ·intro e
   injection e with e
   exact ⟨i, y, by omega, e.symm, hy, hm.symm⟩
  ·rintro ⟨j, z, hj, rfl, hz, hn⟩
   have := ord_inj' ho (by omega) hi (num_eq hF hz hy (by rw [hn, hm]))
   rw [this]
 ·rw [if_neg hm, h]
  constructor
  ·rintro ⟨j, z, hj, h⟩
   exact ⟨j, z, by omega, h⟩
  ·rintro ⟨j, z, hj, hv, hz, hn⟩
   refine ⟨j, z, ?_, hv, hz, hn⟩
   rcases Nat.lt_or_ge j i with h | h
   ·exact h
   ·have : j = i := by omega
    subst this
    exact absurd (hn.symm.trans (num_cg hF hz hy (Cg.refl _))) hm
theorem table_l0 (hQ : Qn q f ≤ 2147483647) {g : List Int} (hg : El q f g G) {M : Nat} (hM : M ≤ Qn q f - 1) : ∀ (d i : Nat) (x : List Int) (kn : List (Int × Int)), i + d = M → El q f x (G ^ i) → Kn q f G i kn → ∃ kn', Kn q f G M kn' ∧ ∃ K, ∀ kk k, K ≤ kk → K ≤ k → dl_table.l0 kk q f g M k i x kn = some kn' := by
 intro d
 induction d with
 | zero =>
  intro i x kn hi hx hkn
  have e : i = M := by omega
  subst e
  refine ⟨kn, hkn, 1, fun kk k _ hk => ?_⟩
  obtain ⟨k', rfl, hk'⟩ := ex_succ hk
  simp only [dl_table.l0]
  rw [if_neg (by omega)]
 | succ d ih =>
  intro i x kn hi hx hkn
  obtain ⟨K1, h1⟩ := gf_Number_ok hF hQ hx
  obtain ⟨c, hc, K2, h2⟩ := gf_Mul_ok hF hx hg
  have hc' : El q f c (G ^ (i + 1)) := by rw [pow_succ]; exact hc
  obtain ⟨kn', hkn', K3, h3⟩ := ih (i + 1) c _ (by omega) hc' (kn_step hF ho hkn (by omega) hx)
  dsimp only at h1 h2
  refine ⟨kn', hkn', K1 + K2 + K3 + 1, fun kk k hkk hk => ?_⟩
  obtain ⟨k', rfl, hk'⟩ := ex_succ hk
  simp only [dl_table.l0]
  rw [if_pos (by omega), h1 kk (by omega), Option.bind_some, h2 kk (by omega), Option.bind_some]
  exact h3 kk k' (by omega) (by omega)
theorem kn_all {kn : List (Int × Int)} (h : Kn q f G (Qn q f - 1) kn) {n : Nat} (hn : n < Qn q f) : IsLg q f G n ((Go.TT.mget (.int .i64) (n : Int) kn).getD (-1)) := by
 have hp2 := hF.prm.1
 by_cases h0 : n = 0
 ·subst h0
  rcases hm : Go.TT.mget (.int .i64) ((0 : Nat) : Int) kn with _ | v
  ·exact .inl ⟨rfl, rfl⟩
  ·exfalso
   obtain ⟨j, z, _, _, hz, hn⟩ := (h _ _).1 hm
   exact gpow_ne hF ho j ((hz.nil_iff hF).1 (nl_num_zero hz.1.1 hz.1.2 (by omega)))
 ·obtain ⟨k, hk, hc⟩ := lg_exists hF ho hn h0
  have hm : Go.TT.mget (.int .i64) (n : Int) kn = some (k : Int) := (h _ _).2 ⟨k, dg q n, hk, rfl, ⟨(dg_el hF hn).1, (dg_el hF hn).2.1, hc⟩, dg_val hp2 n⟩
  rw [hm]
  exact .inr ⟨h0, k, rfl, hk, hc⟩
theorem table_l1 (hQ : Qn q f ≤ 2147483647) {kn : List (Int × Int)} (hk : Kn q f G (Qn q f - 1) kn) : ∀ (d i : Nat) (t : List Int), i + d = Qn q f → t.length = Qn q f → (∀ n, n < i → IsLg q f G n (t.getD n 0)) → ∃ u, Tbl q f G u ∧ Ev (fun k => dl_table.l1 kn k t i) u := by
 intro d
 induction d with
 | zero =>
  intro i t hi ht hlg
  refine ⟨t, ⟨ht, fun n hn => hlg n (by omega)⟩, 1, fun k hk => ?_⟩
  obtain ⟨k', rfl, hk'⟩ := ex_succ hk
  simp only [dl_table.l1]
  rw [if_neg (by omega)]
 | succ d ih =>
  intro i t hi ht hlg
  have h1 := kn_all hF ho hk (n := i) (by omega)
  obtain ⟨u, hu, K, hK⟩ := ih (i + 1) (t.set i ((Go.TT.mget (.int .i64) (i : Int) kn).getD (-1))) (by omega) (by rw [List.length_set]; exact ht) (fun n hn => by
   rw [List.getD_eq_getElem?_getD, List.getElem?_set]
   by_cases e : i = n
   ·subst e
    rw [if_pos rfl, if_pos (by omega)]
    exact h1
   ·rw [if_neg e, ← List.getD_eq_getElem?_getD]
    exact hlg n (by omega))
  dsimp only at hK
  refine ⟨u, hu, K + 1, fun k hk => ?_⟩
  obtain ⟨k', rfl, hk'⟩ := ex_succ hk
  have hK := hK k' hk'
  simp only [dl_table.l1]
  rw [if_pos (by omega), if_pos (by omega), Int.toNat_natCast, show (i : Int) + 1 = ((i + 1 : Nat) : Int) from rfl, wrap_nat (by omega)]
  rcases hm : Go.TT.mget (.int .i64) (i : Int) kn with _ | v
  ·rw [hm] at hK
   rw [if_neg (by simp)]
   exact hK
  ·rw [hm] at hK
   rw [if_pos (by simp)]
   exact hK
theorem table_ok (hQ : Qn q f ≤ 2147483647) {g : List Int} (hg : El q f g G) : ∃ t, Tbl q f G t ∧ Ev (fun k => dl_table.f k q f g (Qn q f : Int)) t := by
 have hpos := Qn_pos hF
 obtain ⟨kn, hkn, K1, h1⟩ := table_l0 hF ho hQ hg (M := Qn q f - 1) (Nat.le_refl _) (Qn q f - 1) 0 [1] [] (by omega) (by rw [pow_zero]; exact El.one hF) (kn_nil hF ho)
 obtain ⟨u, hu, K2, h2⟩ := table_l1 hF ho hQ hkn (Qn q f) 0 (List.replicate (Qn q f) 0) (by omega) (by simp) (fun n hn => by omega)
 dsimp only at h2
 refine ⟨u, hu, K1 + K2, fun k hk => ?_⟩
 simp only [dl_table.f]
 rw [show (Qn q f : Int) - 1 = ((Qn q f - 1 : Nat) : Int) by omega, wrap_nat (by omega), if_pos (by omega), Int.toNat_natCast, h1 k k (by omega) (by omega), Option.bind_some, if_pos (by omega), Int.toNat_natCast, if_pos (by omega)]
 exact h2 k (by omega)
end
end
end Go.Proofs.YtillaipaanancaaGreat.Q
end
section
namespace Go.Proofs.YtillaipaanancaaGreat.Q
open Go.RowKit Go.Proofs.YtillaipaanancaaGreatW.PrintWords Go.Proofs.YtillaipaanancaaGreatW.PrintLast Go.Proofs.YtillaipaanancaaGreatW.PrintMore Go.Proofs.YtillaipaanancaaGreat.M Go.Proofs.YtillaipaanancaaGreat.M.ZX
set_option linter.unusedVariables false
set_option linter.unusedSimpArgs false
noncomputable def opE (q : Nat) (f : List Int) (most : Nat) : List (List Int) → Int × Int
 | [] => if Qn q f ≤ 2147483647 ∧ Qn q f ≤ most then (((Qn q f : Nat) : Int), 0) else (0, 5)
 | l :: ls => if ckE q f l = 0 then opE q f most ls else (0, ckE q f l)
theorem open_bad {p : Int} {f : List Int} (h : ckF p f ≠ 0) (most : Int) (ls : List (List Int)) : Ev (fun k => dl_open.f k p f most ls) (p, f, 0, ckF p f) := by
 obtain ⟨K, hK⟩ := field_Check_spec p f
 dsimp only at hK
 refine ⟨K, fun k hk => ?_⟩
 simp only [dl_open.f]
 rw [hK k hk, Option.bind_some, if_neg h]
theorem small_bad {p : Int} {f : List Int} (h : ckF p f ≠ 0) (g a : List Int) (most : Int) : Ev (fun k => r18CheckSmall.f k p f g a most) (ckF p f) := by
 obtain ⟨K, hK⟩ := ref15_CheckElement_spec p f g
 rw [if_neg h] at hK
 dsimp only at hK
 refine ⟨K + 1, fun k hk => ?_⟩
 obtain ⟨k', rfl, hk'⟩ := ex_succ hk
 simp only [r18CheckSmall.f]
 rw [hK (k' + 1) (by omega), Option.bind_some, if_neg h]
 simp only [r18CheckSmall.j0]
 rw [if_neg h]
section
variable {q : Nat} {f : List Int} (hF : Fld q f)
include hF
theorem open_loop (most : Nat) (ls : List (List Int)) (hn : ls.length ≤ 1000) : ∀ (d i : Nat), i + d = ls.length → Ev (fun k => dl_open.l0 k (most : Int) ls (ls.length : Int) (i : Int) q f q f) ((q : Int), f, (opE q f most (ls.drop i)).1, (opE q f most (ls.drop i)).2) := by
 intro d
 induction d with
 | zero =>
  intro i hi
  obtain ⟨K, hK⟩ := gf_Size_ok hF
  rw [List.drop_of_length_le (by omega)]
  dsimp only at hK
  refine ⟨K + 1, fun k hk => ?_⟩
  obtain ⟨k', rfl, hk'⟩ := ex_succ hk
  simp only [dl_open.l0]
  rw [if_neg (by omega), hK k' (by omega), Option.bind_some]
  unfold opE
  by_cases h1 : Qn q f ≤ 2147483647
  ·rw [if_pos h1, if_pos rfl]
   by_cases h2 : Qn q f ≤ most
   ·rw [if_neg (by omega), if_pos ⟨h1, h2⟩]
   ·rw [if_pos (by omega), if_neg (fun h => h2 h.2)]
  ·rw [if_neg h1, if_neg (by simp), if_neg (fun h => h1 h.1)]
 | succ d ih =>
  intro i hi
  obtain ⟨K1, h1⟩ := pm_Check_spec (q : Int) (ls.getD i [])
  obtain ⟨K2, h2⟩ := ih (i + 1) (by omega)
  dsimp only at h1 h2
  have e : ls.drop i = ls.getD i [] :: ls.drop (i + 1) := by rw [List.drop_eq_getElem_cons (by omega), List.getD_eq_getElem?_getD, List.getElem?_eq_getElem (by omega)]; rfl
  have hr : rd_L1 ls (i : Int) = ls.getD i [] := by unfold rd_L1; rw [Int.toNat_natCast]
  refine ⟨K1 + K2 + 1, fun k hk => ?_⟩
  obtain ⟨k', rfl, hk'⟩ := ex_succ hk
  simp only [dl_open.l0]
  rw [if_pos (by omega), if_pos (by omega), if_pos (by omega), hr, h1 k' (by omega), Option.bind_some, e]
  unfold opE ckE
  by_cases h0 : ckP q (ls.getD i []) = 0
  ·rw [if_pos h0, if_pos h0]
   by_cases h3 : (ls.getD i []).length ≥ f.length
   ·rw [if_pos (by omega), if_pos h3, if_neg (by decide)]
   ·rw [if_neg (by omega), if_neg h3, if_pos rfl, succ_wrap (by omega)]
    exact h2 k' (by omega)
  ·rw [if_neg h0, if_neg h0, if_neg h0]
theorem open_ok (most : Nat) (ls : List (List Int)) (hn : ls.length ≤ 1000) : Ev (fun k => dl_open.f k q f (most : Int) ls) ((q : Int), f, (opE q f most ls).1, (opE q f most ls).2) := by
 obtain ⟨K1, h1⟩ := Check_ok hF
 obtain ⟨K2, h2⟩ := open_loop hF most ls hn ls.length 0 (by omega)
 rw [List.drop_zero] at h2
 dsimp only at h1 h2
 refine ⟨K1 + K2, fun k hk => ?_⟩
 simp only [dl_open.f]
 rw [h1 k (by omega), Option.bind_some, if_pos rfl]
 exact h2 k (by omega)
theorem opE_ok {most : Nat} (hQ : Qn q f ≤ 2147483647) (hm : Qn q f ≤ most) : ∀ {ls : List (List Int)}, (∀ l ∈ ls, ckE q f l = 0) → opE q f most ls = (((Qn q f : Nat) : Int), 0)
 | [], _ => by have _ := hF; unfold opE; rw [if_pos ⟨hQ, hm⟩]
 | l :: ls, h => by
  unfold opE
  rw [if_pos (h l List.mem_cons_self)]
  exact opE_ok hQ hm fun x hx => h x (List.mem_cons_of_mem _ hx)
theorem small_ok (most : Nat) (g a : List Int) : Ev (fun k => r18CheckSmall.f k q f g a (most : Int)) (opE q f most [g, a]).2 := by
 obtain ⟨K1, h1⟩ := ref15_CheckElement_spec (q : Int) f g
 obtain ⟨K2, h2⟩ := Member_spec (q : Int) f a
 obtain ⟨K3, h3⟩ := ref_Size_ok hF
 rw [if_pos (ckF_of hF)] at h1
 have hpos := Qn_pos hF
 dsimp only at h1 h2 h3
 refine ⟨K1 + K2 + K3 + 1, fun k hk => ?_⟩
 obtain ⟨k', rfl, hk'⟩ := ex_succ hk
 simp only [r18CheckSmall.f]
 rw [h1 _ (by omega), Option.bind_some]
 unfold opE
 by_cases hg : ckE q f g = 0
 ·rw [if_pos hg, if_pos hg, h2 _ (by omega), Option.bind_some]
  unfold opE
  simp only [r18CheckSmall.j0]
  by_cases ha : ckE q f a = 0
  ·rw [if_pos ha, if_pos ha, h3 _ (by omega), Option.bind_some, ha]
   unfold opE
   by_cases hq : Qn q f ≤ 2147483647
   ·rw [if_pos hq, if_neg (by omega), Option.bind_some]
    by_cases hm : Qn q f ≤ most
    ·rw [if_neg (by omega), if_pos ⟨hq, hm⟩]
    ·rw [if_pos (by omega), if_neg (fun h => hm h.2)]
   ·rw [if_neg hq, if_pos rfl, if_neg (fun h => hq h.1)]
  ·rw [if_neg ha, if_neg ha]
 ·rw [if_neg hg, if_neg hg]
  simp only [r18CheckSmall.j0]
  rw [if_neg hg]
theorem gens_ok (hQ : Qn q f ≤ 2147483647) {g : List Int} {G : ZX} (hg : El q f g G) : ∃ b : Bool, (b = true ↔ g ≠ [] ∧ IsOrd q (P f) G (Qn q f - 1)) ∧ Ev (fun k => gFGenerates.f k q f g (Qn q f : Int)) b ∧ Ev (fun k => r18IsGenerator.f k q f g) b := by
 have hpos := Qn_pos hF
 obtain ⟨b, hb, h1⟩ := gf_Generates_ok hF hQ hg
 refine ⟨b, hb, h1, ?_⟩
 by_cases hne : g = []
 ·subst hne
  have e : b = false := Bool.eq_false_iff.2 fun e => (hb.1 e).1 rfl
  subst e
  refine ⟨0, fun k _ => ?_⟩
  simp only [r18IsGenerator.f]
  rw [if_neg (by simp)]
 ·have hone := field_fermat hF.prm hF.nl hF.two hF.dom (fun h => hne ((hg.nil_iff hF).2 h))
  obtain ⟨k0, hk0⟩ := exists_ord (show 1 ≤ q ^ (f.length - 1) - 1 by have : 2 ≤ q ^ (f.length - 1) := hpos; omega) hone
  have hle : k0 ≤ Qn q f - 1 := Nat.le_of_dvd (by omega) ((hk0.dvd_iff _).1 hone)
  obtain ⟨K1, g1⟩ := ref_Order_ok hF hg hk0 (by omega)
  obtain ⟨K2, g2⟩ := ref_Size_ok hF
  rw [if_pos hQ] at g2
  have hl := List.length_pos_iff.2 hne
  dsimp only at g1 g2
  refine ⟨K1 + K2, fun k hk => ?_⟩
  simp only [r18IsGenerator.f]
  rw [if_pos (by omega), g1 k (by omega), Option.bind_some, g2 k (by omega), Option.bind_some, show (Qn q f : Int) - 1 = ((Qn q f - 1 : Nat) : Int) by omega, wrap_nat (by omega)]
  have : ((k0 : Int) == ((Qn q f - 1 : Nat) : Int)) = b := by
   by_cases e : k0 = Qn q f - 1
   ·have hbt : b = true := hb.2 ⟨hne, e ▸ hk0⟩
    rw [hbt, e]; simp
   ·have hbf : b = false := Bool.eq_false_iff.2 fun h => e (hk0.unique (hb.1 h).2)
    rw [hbf]
    exact beq_eq_false_iff_ne.2 fun h => e (Int.ofNat_inj.1 h)
  rw [this]
theorem ref_number_loop {l : List Int} (hl : NL q l) (hlt : l.length < f.length) (hQ : Qn q f ≤ 2147483647) : ∀ (i : Nat) (y : Int), i ≤ l.length → y = (i : Int) - 1 → Ev (fun k => r15Number.l0 k l (hv (l.drop i) q) y q f) (hv l q) := by
 intro i
 induction i with
 | zero =>
  intro y _ hy
  subst hy
  refine ⟨1, fun k hk => ?_⟩
  obtain ⟨k', rfl, hk'⟩ := ex_succ hk
  simp only [r15Number.l0]
  rw [if_neg (by omega), List.drop_zero]
 | succ i ih =>
  intro y hi hy
  obtain rfl : y = (i : Int) := by omega
  obtain ⟨K, hK⟩ := ih ((i : Int) - 1) (by omega) rfl
  have e : hv (l.drop i) q = l.getD i 0 + q * hv (l.drop (i + 1)) q := by
   rw [List.drop_eq_getElem_cons (by omega), List.getD_eq_getElem?_getD, List.getElem?_eq_getElem (by omega)]
   rfl
  have hb : ∀ j, 0 ≤ hv (l.drop j) q ∧ hv (l.drop j) q < 2147483648 := fun j => by
   have h1 := nl_num (p := q) (l := l.drop j) (fun c hc => hl.1 c (List.mem_of_mem_drop hc))
   have h2 := pow_le_Q hF (n := (l.drop j).length) (by rw [List.length_drop]; omega)
   omega
  have hd := hl.getD (by have := hF.prm.1; omega) i
  have h0 := hb i
  have h1 := hb (i + 1)
  have hm : 0 ≤ (q : Int) * hv (l.drop (i + 1)) q := Int.mul_nonneg (by omega) h1.1
  dsimp only at hK
  refine ⟨K + 1, fun k hk => ?_⟩
  obtain ⟨k', rfl, hk'⟩ := ex_succ hk
  simp only [r15Number.l0]
  have hlen := hF.len
  rw [if_pos (by omega), if_pos (by omega), if_pos (by omega), rd_nat, Int.mul_comm, wrap_id (x := (q : Int) * hv (l.drop (i + 1)) q) (by omega) (by omega), wrap_id (by omega) (by omega), wrap_id (x := (i : Int) - 1) (by omega) (by omega), Int.add_comm, ← e]
  exact hK k' (by omega)
theorem ref_Number_ok (hQ : Qn q f ≤ 2147483647) {l : List Int} {x : ZX} (hl : El q f l x) : Ev (fun k => r15Number.f k q f l) (hv l q) := by
 obtain ⟨K3, h3⟩ := ref_number_loop hF hl.1 hl.2.1 hQ l.length _ (Nat.le_refl _) rfl
 have hlen := hF.len
 have h4 := hl.2.1
 rw [List.drop_length] at h3
 dsimp only at h3
 refine ⟨K3, fun k hk => ?_⟩
 simp only [r15Number.f]
 rw [wrap_id (by omega) (by omega)]
 exact h3 k hk
section
variable {G : ZX} (ho : IsOrd q (P f) G (Qn q f - 1))
include ho
theorem rtable_loop (hQ : Qn q f ≤ 2147483647) {g : List Int} (hg : El q f g G) : ∀ (d i : Nat) (t x : List Int), i + d = Qn q f - 1 → El q f x (G ^ i) → t.length = Qn q f → (∀ j y, j < i → El q f y (G ^ j) → t.getD (hv y q).toNat 0 = j) → t.getD 0 0 = -1 →
  ∃ u, Tbl q f G u ∧ Ev (fun k => r18Table.l0 k g (Qn q f : Int) t x (i : Int) q f) u := by
 have hpos := Qn_pos hF
 have hp2 := hF.prm.1
 have hq : wrap64 ((Qn q f : Int) - 1) = ((Qn q f - 1 : Nat) : Int) := by rw [show (Qn q f : Int) - 1 = ((Qn q f - 1 : Nat) : Int) by omega, wrap_nat (by omega)]
 intro d
 induction d with
 | zero =>
  intro i t x hi hx ht hj h0
  refine ⟨t, ⟨ht, fun n hn => ?_⟩, 1, fun k hk => ?_⟩
  ·by_cases hn0 : n = 0
   ·subst hn0; exact .inl ⟨rfl, h0⟩
   ·obtain ⟨k, hk, hc⟩ := lg_exists hF ho hn hn0
    have := hj k (dg q n) (by omega) ⟨(dg_el hF hn).1, (dg_el hF hn).2.1, hc⟩
    rw [dg_val hp2 n, Int.toNat_natCast] at this
    exact .inr ⟨hn0, k, this, hk, hc⟩
  ·obtain ⟨k', rfl, hk'⟩ := ex_succ hk
   simp only [r18Table.l0]
   rw [hq, if_neg (by omega)]
 | succ d ih =>
  intro i t x hi hx ht hj h0
  have hb := num_bound hF hx
  have hx0 : hv x q ≠ 0 := fun e => gpow_ne hF ho i ((hx.nil_iff hF).1 (nl_num_zero hx.1.1 hx.1.2 (by omega)))
  obtain ⟨K1, k1⟩ := ref_Number_ok hF hQ hx
  obtain ⟨c, hc, K2, k2⟩ := ref_Mul_ok hF hx hg
  have hc' : El q f c (G ^ (i + 1)) := by rw [pow_succ]; exact hc
  obtain ⟨u, hu, K3, k3⟩ := ih (i + 1) (t.set (hv x q).toNat (i : Int)) c (by omega) hc' (by rw [List.length_set]; exact ht) (fun j y hji hy => by
   have hby := num_bound hF hy
   rw [List.getD_eq_getElem?_getD, List.getElem?_set]
   by_cases e : (hv x q).toNat = (hv y q).toNat
   ·rw [if_pos e, if_pos (by omega)]
    have := ord_inj' ho (show i < Qn q f - 1 by omega) (show j < Qn q f - 1 by omega) (num_eq hF hx hy (by omega))
    rw [this]; rfl
   ·rw [if_neg e, ← List.getD_eq_getElem?_getD]
    have : j ≠ i := by
     rintro rfl
     exact e (by rw [num_cg hF hx hy (Cg.refl _)])
    exact hj j y (by omega) hy) (by
   rw [List.getD_eq_getElem?_getD, List.getElem?_set, if_neg (by omega), ← List.getD_eq_getElem?_getD]
   exact h0)
  dsimp only at k1 k2 k3
  refine ⟨u, hu, K1 + K2 + K3 + 1, fun k hk => ?_⟩
  obtain ⟨k', rfl, hk'⟩ := ex_succ hk
  simp only [r18Table.l0]
  rw [hq, if_pos (by omega), k1 k' (by omega), Option.bind_some, if_pos (by omega), if_pos (by omega), k2 k' (by omega), Option.bind_some, show (i : Int) + 1 = ((i + 1 : Nat) : Int) from rfl, wrap_nat (by omega)]
  exact k3 k' (by omega)
theorem rtable_ok (hQ : Qn q f ≤ 2147483647) {g : List Int} (hg : El q f g G) : ∃ t, Tbl q f G t ∧ Ev (fun k => r18Table.f k q f g) t := by
 have hpos := Qn_pos hF
 obtain ⟨K1, k1⟩ := ref_Size_ok hF
 rw [if_pos hQ] at k1
 obtain ⟨u, hu, K2, k2⟩ := rtable_loop hF ho hQ hg (Qn q f - 1) 0 ((List.replicate (Qn q f) (0 : Int)).set 0 (-1)) [1] (by omega) (by rw [pow_zero]; exact El.one hF) (by simp) (fun j y hj => by omega) (by
  rw [List.getD_eq_getElem?_getD, List.getElem?_set, if_pos rfl, if_pos (by simp; omega)]; rfl)
 dsimp only at k1 k2
 refine ⟨u, hu, K1 + K2, fun k hk => ?_⟩
 simp only [r18Table.f]
 rw [k1 k (by omega), Option.bind_some, if_pos (by omega), Int.toNat_natCast, if_pos (by omega), Option.bind_some, if_pos (by rw [List.length_replicate]; omega)]
 exact k2 k (by omega)
end
end
end Go.Proofs.YtillaipaanancaaGreat.Q
end
section
namespace Go.Proofs.YtillaipaanancaaGreat.Q
open Go.RowKit Go.Proofs.YtillaipaanancaaGreatW.PrintWords Go.Proofs.YtillaipaanancaaGreatW.PrintLast Go.Proofs.YtillaipaanancaaGreatW.PrintMore Go.Proofs.YtillaipaanancaaGreat.M Go.Proofs.YtillaipaanancaaGreat.M.ZX
set_option linter.unusedVariables false
set_option linter.unusedSimpArgs false
section
variable {q : Nat} {f : List Int} (hF : Fld q f)
include hF
theorem opE_one {most : Nat} (hQ : Qn q f ≤ 2147483647) (hm : Qn q f ≤ most) {g : List Int} {x : ZX} (hg : El q f g x) : opE q f most [g] = (((Qn q f : Nat) : Int), 0) :=
 opE_ok hF hQ hm (by intro l hl; rw [List.mem_singleton] at hl; subst hl; exact ckE_of hF hg.1 hg.2.1)
theorem Table_ok (hQ : Qn q f ≤ 4096) {G : ZX} (ho : IsOrd q (P f) G (Qn q f - 1)) {g : List Int} (hg : El q f g G) (hne : g ≠ []) : ∃ t, Tbl q f G t ∧ Ev (fun k => dl_Table.f k q f g) (t, 0) := by
 obtain ⟨K1, k1⟩ := open_ok hF 4096 [g] (by simp)
 rw [opE_one hF (by omega) hQ hg] at k1
 obtain ⟨b, hb, ⟨K2, k2⟩, _⟩ := gens_ok hF (by omega) hg
 have eb : b = true := hb.2 ⟨hne, ho⟩
 subst eb
 obtain ⟨t, ht, K3, k3⟩ := table_ok hF ho (by omega) hg
 dsimp only at k1 k2 k3
 refine ⟨t, ht, K1 + K2 + K3, fun k hk => ?_⟩
 simp only [dl_Table.f]
 rw [show (4096 : Int) = ((4096 : Nat) : Int) from rfl, k1 k (by omega), Option.bind_some, if_pos rfl, k2 k (by omega), Option.bind_some, if_pos rfl, k3 k (by omega), Option.bind_some]
end
end Go.Proofs.YtillaipaanancaaGreat.Q
end
section
namespace Go.Proofs.YtillaipaanancaaGreat.Q
open Go.RowKit Go.Proofs.YtillaipaanancaaGreatW.PrintWords Go.Proofs.YtillaipaanancaaGreatW.PrintLast Go.Proofs.YtillaipaanancaaGreatW.PrintMore Go.Proofs.YtillaipaanancaaGreat.M Go.Proofs.YtillaipaanancaaGreat.M.ZX
set_option linter.unusedVariables false
set_option linter.unusedSimpArgs false
theorem same_loop (a : List Int) (hl : a.length ≤ 1000000) : ∀ (d i : Nat), i + d = a.length → Ev (fun k => l18same.l0 k a a i) true := by
 intro d
 induction d with
 | zero =>
  intro i hi
  refine ⟨1, fun k hk => ?_⟩
  obtain ⟨k', rfl, hk'⟩ := ex_succ hk
  simp only [l18same.l0]
  rw [if_neg (by omega)]
 | succ d ih =>
  intro i hi
  obtain ⟨K, hK⟩ := ih (i + 1) (by omega)
  dsimp only at hK
  refine ⟨K + 1, fun k hk => ?_⟩
  obtain ⟨k', rfl, hk'⟩ := ex_succ hk
  simp only [l18same.l0]
  rw [if_pos (by omega), if_pos (by omega), if_pos (by omega), if_pos trivial, succ_wrap (by omega)]
  exact hK k' hk'
theorem same_ok {a b : List Int} (e : a = b) (hl : a.length ≤ 1000000) : Ev (fun k => l18same.f k a b) true := by
 subst e
 obtain ⟨K, hK⟩ := same_loop a hl a.length 0 (by omega)
 dsimp only at hK
 refine ⟨K, fun k hk => ?_⟩
 simp only [l18same.f]
 rw [if_pos trivial]
 exact hK k hk
theorem mod_two {x : Int} {N : Nat} (h1 : 1 ≤ N) (hN : N ≤ 2147483647) : Int.tmod (wrap64 (Int.tmod x (N : Int) + (N : Int))) (N : Int) = (((x % (N : Int)).toNat : Nat) : Int) := by
 have hN0 : (N : Int) ≠ 0 := by omega
 have b1 : - (N : Int) < Int.tmod x (N : Int) := by
  rcases Int.le_total 0 x with h | h
  ·have := Int.tmod_nonneg (N : Int) h; omega
  ·have h2 := Int.tmod_nonneg (N : Int) (show 0 ≤ -x by omega)
   have h3 := Int.tmod_lt_of_pos (-x) (show (0 : Int) < N by omega)
   rw [Int.neg_tmod] at h2 h3
   omega
 have b2 := Int.tmod_lt_of_pos x (show (0 : Int) < N by omega)
 have e1 : x % (N : Int) = (Int.tmod x (N : Int) + N) % N := by
  rw [Int.add_emod_right]
  have h4 := Int.tmod_add_mul_tdiv x (N : Int)
  calc x % (N : Int) = (Int.tmod x N + N * Int.tdiv x N) % N := by rw [h4]
   _ = Int.tmod x N % N := Int.add_mul_emod_self_left _ _ _
 have hnn := Int.emod_nonneg x hN0
 rw [wrap_id (by omega) (by omega), Int.tmod_eq_emod_of_nonneg (by omega), ← e1, Int.toNat_of_nonneg hnn]
section
variable {q : Nat} {f : List Int} (hF : Fld q f)
include hF
theorem gf_Add_ok {a b : List Int} {x y : ZX} (ha : El q f a x) (hb : El q f b y) : ∃ c, El q f c (x + y) ∧ Ev (fun k => gFAdd.f k q f a b) c := by
 have := hF.len
 obtain ⟨K2, hK2⟩ := fp_Add_spec (prm_pos hF.prm) hF.le ha.1 hb.1 (by have := ha.2.1; omega) (by have := hb.2.1; omega)
 have h := El.nf hF ((ha.dg hF).add (hb.dg hF))
 dsimp only at hK2
 refine ⟨_, ⟨h.1, h.2.1, h.2.2.trans (ha.2.2.add hb.2.2)⟩, K2, fun k hk => ?_⟩
 simp only [gFAdd.f]
 rw [hK2 k (by omega), Option.bind_some]
theorem ref_Add_ok {a b : List Int} {x y : ZX} (ha : El q f a x) (hb : El q f b y) : ∃ c, El q f c (x + y) ∧ Ev (fun k => r15Add.f k q f a b) c := by
 have := hF.len
 obtain ⟨K2, hK2⟩ := ref_Add_spec (prm_pos hF.prm) hF.le ha.1 hb.1 (by have := ha.2.1; omega) (by have := hb.2.1; omega)
 have h := El.nf hF ((ha.dg hF).add (hb.dg hF))
 dsimp only at hK2
 refine ⟨_, ⟨h.1, h.2.1, h.2.2.trans (ha.2.2.add hb.2.2)⟩, K2, fun k hk => ?_⟩
 simp only [r15Add.f]
 rw [hK2 k (by omega), Option.bind_some]
section
variable {G : ZX} (ho : IsOrd q (P f) G (Qn q f - 1))
include ho
def LgX (q : Nat) (f : List Int) (G X : ZX) (L : Int) : Prop := ∃ l, El q f l X ∧ IsLg q f G (hv l q).toNat L
theorem lgx_unique {X Y : ZX} {L M : Int} (h1 : LgX q f G X L) (h2 : LgX q f G Y M) (hc : Cg q (P f) X Y) : L = M := by
 obtain ⟨l, a1, a2⟩ := h1
 obtain ⟨m, b1, b2⟩ := h2
 have e : l = m := a1.eq hF b1 hc
 subst e
 exact lg_unique hF ho a2 b2
theorem tbl_lgx {t : List Int} (ht : Tbl q f G t) {l : List Int} {X : ZX} (hl : El q f l X) : LgX q f G X (rd t (hv l q)) := by
 have _ := ho
 obtain ⟨n, hn, hlt, _⟩ := num_el hF hl
 refine ⟨l, hl, ?_⟩
 rw [hn, rd_nat, Int.toNat_natCast]
 exact ht.2 n hlt
def Zc (q : Nat) (f : List Int) (G : ZX) (z : List Int) : Prop := z.length = Qn q f - 1 ∧ ∀ i, i < Qn q f - 1 → LgX q f G (G ^ i + 1) (z.getD i 0)
theorem zc_unique {z y : List Int} (h1 : Zc q f G z) (h2 : Zc q f G y) : z = y := by
 apply List.ext_getElem (by rw [h1.1, h2.1])
 intro i hi hi'
 have a := h1.2 i (by rw [← h1.1]; exact hi)
 have b := h2.2 i (by rw [← h2.1]; exact hi')
 rw [List.getD_eq_getElem?_getD, List.getElem?_eq_getElem hi] at a
 rw [List.getD_eq_getElem?_getD, List.getElem?_eq_getElem hi'] at b
 exact lgx_unique hF ho a b (Cg.refl _)
theorem zech_loop (hQ : Qn q f ≤ 2147483647) {g t : List Int} (hg : El q f g G) (ht : Tbl q f G t) : ∀ (d i : Nat) (x out : List Int), i + d = Qn q f - 1 → El q f x (G ^ i) → out.length = Qn q f - 1 → (∀ j, j < i → LgX q f G (G ^ j + 1) (out.getD j 0)) →
  ∃ z, Zc q f G z ∧ ∃ K, ∀ kk k, K ≤ kk → K ≤ k → dl_Zech.l0 kk q f g t (Qn q f - 1) k i x out = some z := by
 have htl := ht.1
 intro d
 induction d with
 | zero =>
  intro i x out hi hx hout hall
  refine ⟨out, ⟨hout, fun j hj => hall j (by omega)⟩, 1, fun kk k _ hk => ?_⟩
  obtain ⟨k', rfl, hk'⟩ := ex_succ hk
  simp only [dl_Zech.l0]
  rw [if_neg (by omega)]
 | succ d ih =>
  intro i x out hi hx hout hall
  obtain ⟨s, hs, K1, h1⟩ := gf_Add_ok hF hx (El.one hF)
  obtain ⟨K2, h2⟩ := gf_Number_ok hF hQ hs
  obtain ⟨c, hc, K3, h3⟩ := gf_Mul_ok hF hx hg
  have hb := num_bound hF hs
  obtain ⟨z, hz, K4, h4⟩ := ih (i + 1) c (out.set i (rd t (hv s q))) (by omega) (by rw [pow_succ]; exact hc) (by rw [List.length_set]; exact hout) (fun j hj => by
   rw [List.getD_eq_getElem?_getD, List.getElem?_set]
   by_cases e : i = j
   ·subst e
    rw [if_pos rfl, if_pos (by omega)]
    exact tbl_lgx hF ho ht hs
   ·rw [if_neg e, ← List.getD_eq_getElem?_getD]
    exact hall j (by omega))
  dsimp only at h1 h2 h3
  refine ⟨z, hz, K1 + K2 + K3 + K4 + 1, fun kk k hkk hk => ?_⟩
  obtain ⟨k', rfl, hk'⟩ := ex_succ hk
  simp only [dl_Zech.l0]
  rw [if_pos (by omega), h1 kk (by omega), Option.bind_some, h2 kk (by omega), Option.bind_some, if_pos (by omega), h3 kk (by omega), Option.bind_some]
  exact h4 kk k' (by omega) (by omega)
theorem Zech_ok (hQ : Qn q f ≤ 4096) {g : List Int} (hg : El q f g G) (hne : g ≠ []) : ∃ z, Zc q f G z ∧ Ev (fun k => dl_Zech.f k q f g) (z, 0) := by
 have hpos := Qn_pos hF
 obtain ⟨K1, k1⟩ := open_ok hF 4096 [g] (by simp)
 rw [opE_one hF (by omega) hQ hg] at k1
 obtain ⟨b, hb, ⟨K2, k2⟩, _⟩ := gens_ok hF (by omega) hg
 have eb : b = true := hb.2 ⟨hne, ho⟩
 subst eb
 obtain ⟨t, ht, K3, k3⟩ := table_ok hF ho (by omega) hg
 obtain ⟨z, hz, K4, k4⟩ := zech_loop hF ho (by omega) hg ht (Qn q f - 1) 0 [1] (List.replicate (Qn q f - 1) 0) (by omega) (by rw [pow_zero]; exact El.one hF) (by simp) (fun j hj => by omega)
 dsimp only at k1 k2 k3
 refine ⟨z, hz, K1 + K2 + K3 + K4, fun k hk => ?_⟩
 simp only [dl_Zech.f]
 rw [show (4096 : Int) = ((4096 : Nat) : Int) from rfl, k1 k (by omega), Option.bind_some, if_pos rfl, k2 k (by omega), Option.bind_some, if_pos rfl, k3 k (by omega), Option.bind_some]
 dsimp only
 rw [show (Qn q f : Int) - 1 = ((Qn q f - 1 : Nat) : Int) by omega, wrap_nat (by omega), if_pos (by omega), Int.toNat_natCast, k4 k k (by omega) (by omega), Option.bind_some]
theorem md_ok (hQ : Qn q f ≤ 4096) (x : Int) : dl_AddLogs.md (Qn q f : Int) x = some (((x % ((Qn q f - 1 : Nat) : Int)).toNat : Nat) : Int) := by
 have _ := ho
 have hpos := Qn_pos hF
 unfold dl_AddLogs.md
 have ew : wrap64 ((Qn q f : Int) - 1) = ((Qn q f - 1 : Nat) : Int) := by rw [show (Qn q f : Int) - 1 = ((Qn q f - 1 : Nat) : Int) by omega, wrap_nat (by omega)]
 have h1 := mod_two (x := x) (N := Qn q f - 1) (by omega) (by omega)
 have b2 := Int.tmod_lt_of_pos x (show (0 : Int) < ((Qn q f - 1 : Nat) : Int) by omega)
 have b1 : - ((Qn q f - 1 : Nat) : Int) < Int.tmod x ((Qn q f - 1 : Nat) : Int) := by
  rcases Int.le_total 0 x with h | h
  ·have := Int.tmod_nonneg ((Qn q f - 1 : Nat) : Int) h; omega
  ·have h2 := Int.tmod_nonneg ((Qn q f - 1 : Nat) : Int) (show 0 ≤ -x by omega)
   have h3 := Int.tmod_lt_of_pos (-x) (show (0 : Int) < ((Qn q f - 1 : Nat) : Int) by omega)
   rw [Int.neg_tmod] at h2 h3
   omega
 rw [ew, if_neg (by omega)]
 generalize Int.tmod x ((Qn q f - 1 : Nat) : Int) = y at *
 rw [show wrap64 (wrap64 (y + (Qn q f : Int)) - 1) = wrap64 (y + ((Qn q f - 1 : Nat) : Int)) by
  rw [wrap_id (x := y + (Qn q f : Int)) (by omega) (by omega)]; congr 1; omega, h1]
def ex (q : Nat) (f : List Int) (x : Int) : Nat := (x % ((Qn q f - 1 : Nat) : Int)).toNat
theorem ex_lt (x : Int) : ex q f x < Qn q f - 1 := by
 have _ := ho
 have hpos := Qn_pos hF
 have h1 := Int.emod_nonneg x (show ((Qn q f - 1 : Nat) : Int) ≠ 0 by omega)
 have h2 := Int.emod_lt_of_pos x (show (0 : Int) < ((Qn q f - 1 : Nat) : Int) by omega)
 unfold ex
 omega
theorem AddLogs_ok (hQ : Qn q f ≤ 4096) {g : List Int} (hg : El q f g G) (hne : g ≠ []) (x y : Int) : ∃ L : Int, LgX q f G (G ^ ex q f x + G ^ ex q f y) L ∧ Ev (fun k => dl_AddLogs.f k q f g x y) (if L < 0 then (0, 6) else (L, 0)) := by
 have hpos := Qn_pos hF
 obtain ⟨K1, k1⟩ := open_ok hF 4096 [g] (by simp)
 rw [opE_one hF (by omega) hQ hg] at k1
 obtain ⟨b, hb, ⟨K2, k2⟩, _⟩ := gens_ok hF (by omega) hg
 have eb : b = true := hb.2 ⟨hne, ho⟩
 subst eb
 obtain ⟨t, ht, K3, k3⟩ := table_ok hF ho (by omega) hg
 have hx := ex_lt hF ho x
 have hy := ex_lt hF ho y
 obtain ⟨a, ha, K4, k4⟩ := gf_Pow_ok hF hg (e := ex q f x) (by omega)
 obtain ⟨c, hc, K5, k5⟩ := gf_Pow_ok hF hg (e := ex q f y) (by omega)
 obtain ⟨s, hs, K6, k6⟩ := gf_Add_ok hF ha hc
 obtain ⟨K7, k7⟩ := gf_Number_ok hF (by omega) hs
 have hb := num_bound hF hs
 have htl := ht.1
 have m1 := md_ok hF ho hQ x
 have m2 := md_ok hF ho hQ y
 dsimp only at k1 k2 k3 k4 k5 k6 k7
 refine ⟨rd t (hv s q), tbl_lgx hF ho ht hs, K1 + K2 + K3 + K4 + K5 + K6 + K7, fun k hk => ?_⟩
 simp only [dl_AddLogs.f]
 rw [show (4096 : Int) = ((4096 : Nat) : Int) from rfl, k1 k (by omega), Option.bind_some, if_pos rfl, k2 k (by omega), Option.bind_some, if_pos rfl]
 dsimp only
 have k4' := k4 k (by omega)
 have k5' := k5 k (by omega)
 unfold ex at k4' k5'
 rw [m1, Option.bind_some, k4', Option.bind_some, m2, Option.bind_some, k5', Option.bind_some, k6 k (by omega), Option.bind_some, k3 k (by omega), Option.bind_some, k7 k (by omega), Option.bind_some, if_pos (by omega), if_pos (by omega)]
 split <;> rfl
theorem rzech_loop (hQ : Qn q f ≤ 2147483647) {g t : List Int} (hg : El q f g G) (ht : Tbl q f G t) : ∀ (d i : Nat) (x out : List Int), i + d = Qn q f - 1 → El q f x (G ^ i) → out.length = i → (∀ j, j < i → LgX q f G (G ^ j + 1) (out.getD j 0)) →
  ∃ z, Zc q f G z ∧ Ev (fun k => r18Zech.l0 k g out t x i q f) z := by
 have hpos := Qn_pos hF
 have htl := ht.1
 have ew : wrap64 ((Qn q f : Int) - 1) = ((Qn q f - 1 : Nat) : Int) := by rw [show (Qn q f : Int) - 1 = ((Qn q f - 1 : Nat) : Int) by omega, wrap_nat (by omega)]
 obtain ⟨K0, h0⟩ := ref_Size_ok hF
 rw [if_pos hQ] at h0
 dsimp only at h0
 intro d
 induction d with
 | zero =>
  intro i x out hi hx hout hall
  refine ⟨out, ⟨by omega, fun j hj => hall j (by omega)⟩, K0 + 1, fun k hk => ?_⟩
  obtain ⟨k', rfl, hk'⟩ := ex_succ hk
  simp only [r18Zech.l0]
  rw [h0 k' (by omega), Option.bind_some, ew, if_neg (by omega)]
 | succ d ih =>
  intro i x out hi hx hout hall
  obtain ⟨s, hs, K1, h1⟩ := ref_Add_ok hF hx (El.one hF)
  obtain ⟨K2, h2⟩ := ref_Number_ok hF hQ hs
  obtain ⟨c, hc, K3, h3⟩ := ref_Mul_ok hF hx hg
  have hb := num_bound hF hs
  obtain ⟨z, hz, K4, h4⟩ := ih (i + 1) c (out ++ [rd t (hv s q)]) (by omega) (by rw [pow_succ]; exact hc) (by simp; omega) (fun j hj => by
   rw [List.getD_eq_getElem?_getD]
   by_cases e : j = i
   ·subst e
    rw [List.getElem?_append_right (by omega), hout, Nat.sub_self]
    exact tbl_lgx hF ho ht hs
   ·rw [List.getElem?_append_left (by omega), ← List.getD_eq_getElem?_getD]
    exact hall j (by omega))
  dsimp only at h1 h2 h3 h4
  refine ⟨z, hz, K0 + K1 + K2 + K3 + K4 + 1, fun k hk => ?_⟩
  obtain ⟨k', rfl, hk'⟩ := ex_succ hk
  simp only [r18Zech.l0]
  rw [h0 k' (by omega), Option.bind_some, ew, if_pos (by omega), h1 k' (by omega), Option.bind_some, h2 k' (by omega), Option.bind_some, if_pos (by omega), if_pos (by omega), if_pos (by omega), h3 k' (by omega), Option.bind_some, show (i : Int) + 1 = ((i + 1 : Nat) : Int) from rfl, wrap_nat (by omega)]
  exact h4 k' (by omega)
theorem rZech_ok (hQ : Qn q f ≤ 4096) {g : List Int} (hg : El q f g G) : ∃ z, Zc q f G z ∧ Ev (fun k => r18Zech.f k q f g) z := by
 obtain ⟨t, ht, K1, k1⟩ := rtable_ok hF ho (by omega) hg
 obtain ⟨z, hz, K2, k2⟩ := rzech_loop hF ho (by omega) hg ht (Qn q f - 1) 0 [1] [] (by omega) (by rw [pow_zero]; exact El.one hF) rfl (fun j hj => by omega)
 dsimp only at k1 k2
 refine ⟨z, hz, K1 + K2, fun k hk => ?_⟩
 simp only [r18Zech.f]
 rw [k1 k (by omega), Option.bind_some]
 exact k2 k (by omega)
theorem rPower_ok (hQ : Qn q f ≤ 4096) {g : List Int} (hg : El q f g G) (x : Int) : ∃ c, El q f c (G ^ ex q f x) ∧ Ev (fun k => r18Power.f k q f g x) c := by
 have hpos := Qn_pos hF
 have hlen := hF.len
 have hx := ex_lt hF ho x
 have ew : wrap64 ((Qn q f : Int) - 1) = ((Qn q f - 1 : Nat) : Int) := by rw [show (Qn q f : Int) - 1 = ((Qn q f - 1 : Nat) : Int) by omega, wrap_nat (by omega)]
 obtain ⟨K0, h0⟩ := ref_Size_ok hF
 rw [if_pos (by omega)] at h0
 obtain ⟨e, ⟨he, _⟩, hV, K1, h1⟩ := FromInt_any (p := ex q f x) (by omega)
 obtain ⟨K2, h2⟩ := ref_PowMod_spec hF.prm hF.le e hg.1 hF.nl hF.ne (by have := hg.2.1; omega) (by omega) (by omega)
 rw [hV] at h2
 have h := El.rm hF (P g ^ ex q f x)
 dsimp only at h0 h1 h2
 refine ⟨_, ⟨h.1, h.2.1, h.2.2.trans (hg.2.2.pow _)⟩, K0 + K1 + K2, fun k hk => ?_⟩
 have h1' := h1 k (by omega)
 unfold ex at h1'
 simp only [r18Power.f, r15Pow.f]
 rw [h0 k (by omega), Option.bind_some, ew, if_neg (by omega), mod_two (by omega) (by omega), h1', Option.bind_some, h2 k (by omega), Option.bind_some, Option.bind_some]
end
end
theorem light_spec (p : Int) (f : List Int) : ∃ b : Bool, (b = true → ckF p f ≠ 0 ∨ ∃ q : Nat, p = q ∧ Fld q f ∧ (Qn q f ≤ 256 ∨ ¬ Qn q f ≤ 4096)) ∧ Ev (fun k => l18light.f k p f) b := by
 by_cases hl : f.length ≤ 70
 ·obtain ⟨K1, h1⟩ := ref15_Check_spec p f
  dsimp only at h1
  by_cases h0 : ckF p f = 0
  ·obtain ⟨b, hb, K2, h2⟩ := Few_spec p f 256
   obtain ⟨c, hc, K3, h3⟩ := Few_spec p f 4096
   dsimp only at h2 h3
   cases b with
   | true =>
    obtain ⟨q, e, hF, _, hQ⟩ := hb.1 rfl
    refine ⟨true, fun _ => .inr ⟨q, e, hF, .inl hQ⟩, K1 + K2, fun k hk => ?_⟩
    simp only [l18light.f]
    rw [if_neg (by omega), h1 k (by omega), Option.bind_some, if_pos h0, show (256 : Int) = ((256 : Nat) : Int) from rfl, h2 k (by omega), Option.bind_some, if_pos rfl]
   | false =>
    obtain ⟨q, e, hF⟩ := ckF_zero h0
    refine ⟨!c, fun hcn => .inr ⟨q, e, hF, .inr fun hQ => ?_⟩, K1 + K2 + K3, fun k hk => ?_⟩
    ·have := hc.2 ⟨q, e, hF, by omega, hQ⟩
     rw [this] at hcn; cases hcn
    ·simp only [l18light.f]
     rw [if_neg (by omega), h1 k (by omega), Option.bind_some, if_pos h0, show (256 : Int) = ((256 : Nat) : Int) from rfl, h2 k (by omega), Option.bind_some, if_neg (by simp), show (4096 : Int) = ((4096 : Nat) : Int) from rfl, h3 k (by omega), Option.bind_some]
  ·refine ⟨true, fun _ => .inl h0, K1, fun k hk => ?_⟩
   simp only [l18light.f]
   rw [if_neg (by omega), h1 k (by omega), Option.bind_some, if_neg h0]
 ·refine ⟨false, fun h => (by cases h), 0, fun k _ => ?_⟩
  simp only [l18light.f]
  rw [if_pos (by omega)]
end Go.Proofs.YtillaipaanancaaGreat.Q
end
section
namespace Go.Proofs.YtillaipaanancaaGreat.Q
open Go.RowKit Go.Proofs.YtillaipaanancaaGreatW.PrintWords Go.Proofs.YtillaipaanancaaGreatW.PrintLast Go.Proofs.YtillaipaanancaaGreatW.PrintMore
set_option maxRecDepth 100000
theorem aw_1 (k : Nat) : dl_Table.f (k + 60) 7 [0, 1] [3] = some ([-1, 0, 2, 1, 4, 5, 3], 0) := by kernel_rfl
theorem aw_2 (k : Nat) : dl_Zech.f (k + 60) 2 [1, 1, 1] [0, 1] = some ([-1, 2, 1], 0) := by kernel_rfl
theorem aw_4 (k : Nat) : dl_Cosets.f (k + 60) 2 [1, 1, 0, 1] = some ([[0], [1, 2, 4], [3, 6, 5]], 0) := by kernel_rfl
theorem aw_5 (k : Nat) : dl_Log.f (k + 60) 7 [0, 1] [3] [6] = some (3, 0) := by kernel_rfl
theorem aw_6 (k : Nat) : dl_open.f (k + 60) 7 [0, 1] 4096 [[2]] = some (7, [0, 1], 7, 0) := by kernel_rfl
theorem aw_7 (k : Nat) : dl_Roots.l0 (k + 60) 7 [0, 1] [2] 2 (7 : Int).toNat (k + 60) 0 [] = some [[3], [4]] := by kernel_rfl
theorem aw_8 : [[3], [4]].mergeSort (fun x y => !decide (dlP y x < 0)) = [[3], [4]] := List.mergeSort_of_pairwise (by decide)
theorem aw_3 (k : Nat) : dl_Roots.f (k + 60) 7 [0, 1] [2] 2 = some ([[3], [4]], 0) := by
 unfold dl_Roots.f
 rw [aw_6, Option.bind_some, if_pos rfl, if_neg (by decide), if_neg (by decide), if_pos (by decide)]
 show (dl_Roots.l0 (k + 60) 7 [0, 1] [2] 2 (7 : Int).toNat (k + 60) 0 []).bind _ = _
 rw [aw_7, Option.bind_some, if_pos (by decide), aw_8]
theorem awake_ge (k : Nat) : l18awake.f (k + 60) = some true := by
 simp only [l18awake.f, l18seven.f, l18four.f, l18eight.f, Option.bind_some]
 rw [aw_1, Option.bind_some, aw_2, Option.bind_some, aw_3, Option.bind_some, aw_4, Option.bind_some, aw_5, Option.bind_some]
 kernel_rfl
theorem awake_ev : Ev l18awake.f true := ⟨60, fun k hk => by
 obtain ⟨j, rfl⟩ : ∃ j, k = j + 60 := ⟨k - 60, by omega⟩
 exact awake_ge j⟩
end Go.Proofs.YtillaipaanancaaGreat.Q
end
section
namespace Go.Proofs.YtillaipaanancaaGreat.Pure
open Go.RowKit Go.Proofs.YtillaipaanancaaGreatW.PrintWords Go.Proofs.YtillaipaanancaaGreatW.PrintLast Go.Proofs.YtillaipaanancaaGreatW.PrintMore Go.Proofs.YtillaipaanancaaGreat.M Go.Proofs.YtillaipaanancaaGreat.M.ZX Go.Proofs.YtillaipaanancaaGreat.Q
set_option linter.unusedVariables false
set_option linter.unusedSimpArgs false
theorem tables_same {p : Int} {f g : List Int} {i j e : Int} (he : e ≠ 0) (h1 : Ev (fun k => dl_Table.f k p f g) ([], e)) (h2 : Ev (fun k => dl_Zech.f k p f g) ([], e)) (h3 : Ev (fun k => dl_AddLogs.f k p f g i j) (0, e)) (c : Bool)
  (h4 : Ev (fun k => r18CheckSmall.f k p f g [] 4096) (if c = true then 0 else e)) (h5 : c = true → e = 27 ∧ Ev (fun k => r18IsGenerator.f k p f g) false) : Ev (fun k => lw.j0 k g false p f i j) true := by
 obtain ⟨K1, h1⟩ := h1
 obtain ⟨K2, h2⟩ := h2
 obtain ⟨K3, h3⟩ := h3
 obtain ⟨K4, h4⟩ := h4
 obtain ⟨K5, h5⟩ : ∃ K, c = true → e = 27 ∧ ∀ k, K ≤ k → r18IsGenerator.f k p f g = some false := by
  cases c with
  | false => exact ⟨0, fun h => (by cases h)⟩
  | true =>
   obtain ⟨e1, K, hK⟩ := h5 rfl
   exact ⟨K, fun _ => ⟨e1, hK⟩⟩
 dsimp only at h1 h2 h3 h4
 refine ⟨K1 + K2 + K3 + K4 + K5 + 3, fun k hk => ?_⟩
 obtain ⟨k1, rfl, hk1⟩ := ex_succ (K := K1 + K2 + K3 + K4 + K5 + 2) hk
 obtain ⟨k2, rfl, hk2⟩ := ex_succ (K := K1 + K2 + K3 + K4 + K5 + 1) (k := k1) (by omega)
 obtain ⟨k3, rfl, hk3⟩ := ex_succ (K := K1 + K2 + K3 + K4 + K5) (k := k2) (by omega)
 have fin : lw.j2 (k3 + 1) g [] e [] e 0 e e p f i j = some true := by
  simp only [lw.j2]
  rw [if_neg he, if_pos (by simp), if_pos trivial, if_pos (by simp), if_pos trivial, if_pos trivial, beq_self_eq_true]
 simp only [lw.j0]
 rw [if_neg (by simp), h1 _ (by omega), Option.bind_some, h2 _ (by omega), Option.bind_some, h3 _ (by omega), Option.bind_some]
 have h4 := h4 (k3 + 1 + 1) (by omega)
 cases c with
 | true =>
  obtain ⟨e1, h5⟩ := h5 rfl
  rw [if_pos rfl] at h4
  rw [h4, Option.bind_some, if_pos rfl, h5 _ (by omega), Option.bind_some]
  simp only [lw.j1]
  rw [if_pos (by rfl)]
  subst e1
  exact fin
 | false =>
  rw [if_neg (by simp)] at h4
  rw [h4, Option.bind_some, if_neg he]
  simp only [lw.j1]
  rw [if_neg (by simp)]
  exact fin
theorem tables_bad {p : Int} {f g : List Int} {i j : Int} (h : ckF p f ≠ 0) : Ev (fun k => lw.j0 k g false p f i j) true := by
 obtain ⟨K, hK⟩ := open_bad h 4096 [g]
 dsimp only at hK
 refine tables_same h ⟨K, fun k hk => ?_⟩ ⟨K, fun k hk => ?_⟩ ⟨K, fun k hk => ?_⟩ false (small_bad h g [] 4096) (fun h => (by cases h))
 ·simp only [dl_Table.f]
  rw [hK k hk, Option.bind_some, if_neg h]
 ·simp only [dl_Zech.f]
  rw [hK k hk, Option.bind_some, if_neg h]
 ·simp only [dl_AddLogs.f]
  rw [hK k hk, Option.bind_some, if_neg h]
section
variable {q : Nat} {f : List Int} (hF : Fld q f)
include hF
theorem opE_nil (g : List Int) : (opE q f 4096 [g, []]).2 = (opE q f 4096 [g]).2 := by
 have h0 : ckE q f [] = 0 := ckE_of hF NL.nil (by have := hF.two; simp; omega)
 unfold opE
 by_cases hg : ckE q f g = 0
 ·rw [if_pos hg, if_pos hg]
  conv => lhs; unfold opE; rw [if_pos h0]
 ·rw [if_neg hg, if_neg hg]
theorem tables_open {g : List Int} {i j : Int} (h : (opE q f 4096 [g]).2 ≠ 0) : Ev (fun k => lw.j0 k g false q f i j) true := by
 obtain ⟨K, hK⟩ := open_ok hF 4096 [g] (by simp)
 have hs := small_ok hF 4096 g []
 rw [opE_nil hF] at hs
 dsimp only at hK
 refine tables_same h ⟨K, fun k hk => ?_⟩ ⟨K, fun k hk => ?_⟩ ⟨K, fun k hk => ?_⟩ false hs (fun h => (by cases h))
 ·simp only [dl_Table.f]
  rw [show (4096 : Int) = ((4096 : Nat) : Int) from rfl, hK k hk, Option.bind_some, if_neg h]
 ·simp only [dl_Zech.f]
  rw [show (4096 : Int) = ((4096 : Nat) : Int) from rfl, hK k hk, Option.bind_some, if_neg h]
 ·simp only [dl_AddLogs.f]
  rw [show (4096 : Int) = ((4096 : Nat) : Int) from rfl, hK k hk, Option.bind_some, if_neg h]
theorem tables_good (hQ : Qn q f ≤ 256) {g : List Int} {i j : Int} (hg : ckE q f g = 0) : Ev (fun k => lw.j0 k g false q f i j) true := by
 have hpos := Qn_pos hF
 have eg := El.of hF (ckE_zero hg).1 (ckE_zero hg).2
 have ho1 := opE_one hF (show Qn q f ≤ 2147483647 by omega) (show Qn q f ≤ 4096 by omega) eg
 obtain ⟨K1, h1⟩ := open_ok hF 4096 [g] (by simp)
 have hs := small_ok hF 4096 g []
 rw [opE_nil hF, ho1] at hs
 rw [ho1] at h1
 obtain ⟨b, hb, ⟨K3, h3⟩, h4⟩ := gens_ok hF (by omega) eg
 dsimp only at h1 h3
 cases b with
 | false =>
  refine tables_same (e := 27) (by decide) ⟨K1 + K3, fun k hk => ?_⟩ ⟨K1 + K3, fun k hk => ?_⟩ ⟨K1 + K3, fun k hk => ?_⟩ true hs (fun _ => ⟨rfl, h4⟩)
  ·simp only [dl_Table.f]
   rw [show (4096 : Int) = ((4096 : Nat) : Int) from rfl, h1 k (by omega), Option.bind_some, if_pos rfl, h3 k (by omega), Option.bind_some, if_neg (by simp)]
  ·simp only [dl_Zech.f]
   rw [show (4096 : Int) = ((4096 : Nat) : Int) from rfl, h1 k (by omega), Option.bind_some, if_pos rfl, h3 k (by omega), Option.bind_some, if_neg (by simp)]
  ·simp only [dl_AddLogs.f]
   rw [show (4096 : Int) = ((4096 : Nat) : Int) from rfl, h1 k (by omega), Option.bind_some, if_pos rfl, h3 k (by omega), Option.bind_some, if_neg (by simp)]
 | true =>
  obtain ⟨hne, ho⟩ := hb.1 rfl
  obtain ⟨K4, h4⟩ := h4
  obtain ⟨K2, h2⟩ := hs
  obtain ⟨t, ht, K5, h5⟩ := Table_ok hF (by omega) ho eg hne
  obtain ⟨z, hz, K6, h6⟩ := Zech_ok hF ho (by omega) eg hne
  obtain ⟨L, hL, K7, h7⟩ := AddLogs_ok hF ho (by omega) eg hne i j
  obtain ⟨t', ht', K8, h8⟩ := rtable_ok hF ho (by omega) eg
  obtain ⟨z', hz', K9, h9⟩ := rZech_ok hF ho (by omega) eg
  have et := tbl_unique hF ho ht ht'
  have ez := zc_unique hF ho hz hz'
  subst et ez
  have htl := ht.1
  have hzl := hz.1
  obtain ⟨K10, h10⟩ := same_ok (rfl : t = t) (by omega)
  obtain ⟨K11, h11⟩ := same_ok (rfl : z = z) (by omega)
  obtain ⟨a, ha, K12, h12⟩ := rPower_ok hF ho (by omega) eg i
  obtain ⟨c, hc, K13, h13⟩ := rPower_ok hF ho (by omega) eg j
  obtain ⟨s, hs, K14, h14⟩ := ref_Add_ok hF ha hc
  obtain ⟨K15, h15⟩ := ref_Number_ok hF (by omega) hs
  have hb := num_bound hF hs
  have eL : L = rd t (hv s q) := lgx_unique hF ho hL (tbl_lgx hF ho ht hs) (Cg.refl _)
  have hlg : IsLg q f (P g) (hv s q).toNat L := by
   obtain ⟨l, l1, l2⟩ := hL
   rwa [l1.eq hF hs (Cg.refl _)] at l2
  dsimp only at h2 h4 h5 h6 h7 h8 h9 h10 h11 h12 h13 h14 h15
  rw [show ((4096 : Nat) : Int) = 4096 from rfl] at h2
  refine ⟨K1 + K2 + K3 + K4 + K5 + K6 + K7 + K8 + K9 + K10 + K11 + K12 + K13 + K14 + K15 + 4, fun k hk => ?_⟩
  generalize hKK : K1 + K2 + K3 + K4 + K5 + K6 + K7 + K8 + K9 + K10 + K11 + K12 + K13 + K14 + K15 = KK at *
  obtain ⟨k1, rfl, hk1⟩ := ex_succ (K := KK + 3) hk
  obtain ⟨k2, rfl, hk2⟩ := ex_succ (K := KK + 2) (k := k1) (by omega)
  obtain ⟨k3, rfl, hk3⟩ := ex_succ (K := KK + 1) (k := k2) (by omega)
  obtain ⟨k4, rfl, hk4⟩ := ex_succ (K := KK) (k := k3) (by omega)
  simp only [lw.j0]
  rw [if_neg (by simp), h5 _ (by omega), Option.bind_some, h6 _ (by omega), Option.bind_some, h7 _ (by omega), Option.bind_some, h2 _ (by omega), Option.bind_some, if_pos rfl, h4 _ (by omega), Option.bind_some]
  simp only [lw.j1]
  rw [if_neg (by simp)]
  simp only [lw.j2]
  rw [if_pos trivial, h8 _ (by omega), Option.bind_some, if_pos trivial, if_pos trivial, h10 _ (by omega), Option.bind_some, if_pos rfl, h9 _ (by omega), Option.bind_some, h11 _ (by omega), Option.bind_some]
  simp only [lw.j3]
  rw [if_neg (by simp), h12 _ (by omega), Option.bind_some, h13 _ (by omega), Option.bind_some, h14 _ (by omega), Option.bind_some]
  by_cases hs0 : s = []
  ·have hLn : L = -1 := by
    rcases hlg with ⟨_, e⟩ | ⟨h0, _⟩
    ·exact e
    ·exact absurd (by rw [hs0]; rfl) h0
   rw [if_pos (by rw [hs0]; rfl), if_pos (show L < 0 by omega), if_pos rfl, beq_self_eq_true]
  ·have hsl := List.length_pos_iff.2 hs0
   have hLn : 0 ≤ L := by
    rcases hlg with ⟨h0, _⟩ | ⟨_, k, e, _⟩
    ·exact absurd (nl_num_zero hs.1.1 hs.1.2 (by omega)) hs0
    ·omega
   rw [if_neg (by omega), h15 _ (by omega), Option.bind_some, if_pos (by omega), if_pos (by omega), if_neg (show ¬ L < 0 by omega), if_pos eL]
   rfl
end
theorem DiscretelogTables : lw.Pure := by
 intro p f g i j _ _ _ _ _ _ _ _ _
 obtain ⟨Ka, ha⟩ := awake_ev
 obtain ⟨b, hb, K1, h1⟩ := light_spec p f
 have out : ∀ k, Ka ≤ k → lw.j0 (k + 1) g true p f i j = some true := fun k hk => by
  simp only [lw.j0]
  rw [if_pos trivial, ha k hk, Option.bind_some]
 dsimp only at h1
 cases b with
 | false =>
  refine ⟨Ka + K1 + 1, ?_⟩
  simp only [lw.f]
  rw [ha _ (by omega), Option.bind_some, if_pos rfl, h1 _ (by omega), Option.bind_some, if_neg (by simp)]
  exact out _ (by omega)
 | true =>
  by_cases hl : g.length ≤ 70
  ·obtain ⟨K2, h2⟩ : Ev (fun k => lw.j0 k g false p f i j) true := by
    rcases hb rfl with h0 | ⟨q, rfl, hF, hQ⟩
    ·exact tables_bad h0
    ·by_cases hg : ckE q f g = 0
     ·rcases hQ with hQ | hQ
      ·exact tables_good hF hQ hg
      ·refine tables_open hF ?_
       unfold opE; rw [if_pos hg]; unfold opE; rw [if_neg (fun h => hQ h.2)]; decide
     ·refine tables_open hF ?_
      unfold opE; rw [if_neg hg]; exact hg
   dsimp only at h2
   refine ⟨Ka + K1 + K2 + 1, ?_⟩
   simp only [lw.f]
   rw [ha _ (by omega), Option.bind_some, if_pos rfl, h1 _ (by omega), Option.bind_some, if_pos rfl, decide_eq_false (by omega)]
   exact h2 _ (by omega)
  ·refine ⟨Ka + K1 + 1, ?_⟩
   simp only [lw.f]
   rw [ha _ (by omega), Option.bind_some, if_pos rfl, h1 _ (by omega), Option.bind_some, if_pos rfl, decide_eq_true (by omega)]
   exact out _ (by omega)
end Go.Proofs.YtillaipaanancaaGreat.Pure
end

/- Machine side and arithmetic of the law, put together by a program of the session. No conditions. -/
import Derived.WalkKit
import Derived.WalkSmall
import Derived.KernelRfl
import Derived.Test.YtillaipaanancaaGreatKdp18
import Derived.Test.YtillaipaanancaaGreatKdp21
import Derived.Test.YtillaipaanancaaGreatKdp23
section
namespace Go.Proofs.YtillaipaanancaaGreat.Q
open Go.RowKit Go.Proofs.YtillaipaanancaaGreatW.PrintWords Go.Proofs.YtillaipaanancaaGreatW.PrintLast Go.Proofs.YtillaipaanancaaGreatW.PrintMore Go.Proofs.YtillaipaanancaaGreat.M Go.Proofs.YtillaipaanancaaGreat.M.ZX
set_option linter.unusedVariables false
set_option linter.unusedSimpArgs false
theorem ord_inj {p : Nat} {f A : ZX} {k i j : Nat} (h : IsOrd p f A k) (hij : i < j) (hj : j < k) : ¬ Cg p f (A ^ i) (A ^ j) := by
 intro hc
 have h1 : Cg p f (A ^ (i + (k - j))) 1 := by
  rw [pow_add]
  refine (hc.mul (Cg.refl _)).trans ?_
  rw [← pow_add, show j + (k - j) = k by omega]
  exact h.2.1
 have := Nat.le_of_dvd (by omega) ((h.dvd_iff _).1 h1)
 omega
theorem ord_inj' {p : Nat} {f A : ZX} {k i j : Nat} (h : IsOrd p f A k) (hi : i < k) (hj : j < k) (hc : Cg p f (A ^ i) (A ^ j)) : i = j := by
 rcases Nat.lt_trichotomy i j with h1 | h1 | h1
 ·exact absurd hc (ord_inj h h1 hj)
 ·exact h1
 ·exact absurd hc.symm (ord_inj h h1 hi)
theorem mget_set {m n v : Int} : ∀ kn : List (Int × Int), Go.TT.mget (.int .i64) n (Go.TT.mset (.int .i64) m v kn) = if n = m then some v else Go.TT.mget (.int .i64) n kn
 | [] => by
  show (if ((n : Int) == m) = true then some v else none) = _
  by_cases h : n = m <;> simp [h, Go.TT.mget]
 | x :: xs => by
  have ih := mget_set (m := m) (n := n) (v := v) xs
  show Go.TT.mget (.int .i64) n (if ((m : Int) == x.1) = true then (m, v) :: xs else x :: Go.TT.mset (.int .i64) m v xs) = if n = m then some v else (if ((n : Int) == x.1) = true then some x.2 else Go.TT.mget (.int .i64) n xs)
  by_cases h : m = x.1
  ·rw [if_pos (beq_iff_eq.2 h)]
   show (if ((n : Int) == m) = true then some v else Go.TT.mget (.int .i64) n xs) = _
   by_cases h2 : n = m
   ·simp [h2]
   ·rw [if_neg (by simpa using h2), if_neg h2, if_neg (by rw [← h]; simpa using h2)]
  ·rw [if_neg (by simpa using h)]
   show (if ((n : Int) == x.1) = true then some x.2 else Go.TT.mget (.int .i64) n (Go.TT.mset (.int .i64) m v xs)) = _
   rw [ih]
   by_cases h2 : n = m
   ·subst h2; rw [if_neg (by simpa using h), if_pos rfl, if_pos rfl]
   ·rw [if_neg h2, if_neg h2]
section
variable {q : Nat} {f : List Int} (hF : Fld q f)
include hF
theorem pow_le_Q {n : Nat} (h : n < f.length) : q ^ n ≤ Qn q f := Nat.pow_le_pow_right (by have := hF.prm.1; omega) (by omega)
theorem number_loop {l : List Int} (hl : NL q l) (hlt : l.length < f.length) (hQ : Qn q f ≤ 2147483647) : ∀ (i : Nat) (y : Int), i ≤ l.length → y = (i : Int) - 1 → Ev (fun k => gFNumber.l0 k l (hv (l.drop i) q) y q f) (hv l q) := by
 intro i
 induction i with
 | zero =>
  intro y _ hy
  subst hy
  refine ⟨1, fun k hk => ?_⟩
  obtain ⟨k', rfl, hk'⟩ := ex_succ hk
  simp only [gFNumber.l0]
  rw [if_neg (by omega), List.drop_zero]
 | succ i ih =>
  intro y hi hy
  obtain rfl : y = (i : Int) := by omega
  obtain ⟨K, hK⟩ := ih ((i : Int) - 1) (by omega) rfl
  have e : hv (l.drop i) q = l.getD i 0 + q * hv (l.drop (i + 1)) q := by
   rw [List.drop_eq_getElem_cons (by omega), List.getD_eq_getElem?_getD, List.getElem?_eq_getElem (by omega)]
   rfl
  have hb : ∀ j, 0 ≤ hv (l.drop j) q ∧ hv (l.drop j) q < 2147483648 := fun j => by
   have h1 := nl_num (p := q) (l := l.drop j) (fun c hc => hl.1 c (List.mem_of_mem_drop hc))
   have h2 := pow_le_Q hF (n := (l.drop j).length) (by rw [List.length_drop]; omega)
   omega
  have hd := hl.getD (by have := hF.prm.1; omega) i
  have h0 := hb i
  have h1 := hb (i + 1)
  have hm : 0 ≤ (q : Int) * hv (l.drop (i + 1)) q := Int.mul_nonneg (by omega) h1.1
  dsimp only at hK
  refine ⟨K + 1, fun k hk => ?_⟩
  obtain ⟨k', rfl, hk'⟩ := ex_succ hk
  simp only [gFNumber.l0]
  have hlen := hF.len
  rw [if_pos (by omega), if_pos (by omega), if_pos (by omega), rd_nat, Int.mul_comm, wrap_id (x := (q : Int) * hv (l.drop (i + 1)) q) (by omega) (by omega), wrap_id (by omega) (by omega), wrap_id (x := (i : Int) - 1) (by omega) (by omega), Int.add_comm, ← e]
  exact hK k' (by omega)
theorem gf_Number_ok (hQ : Qn q f ≤ 2147483647) {l : List Int} {x : ZX} (hl : El q f l x) : Ev (fun k => gFNumber.f k q f l) (hv l q) := by
 obtain ⟨K3, h3⟩ := number_loop hF hl.1 hl.2.1 hQ l.length _ (Nat.le_refl _) rfl
 have hlen := hF.len
 have h4 := hl.2.1
 rw [List.drop_length] at h3
 dsimp only at h3
 refine ⟨K3, fun k hk => ?_⟩
 simp only [gFNumber.f]
 rw [wrap_id (by omega) (by omega)]
 exact h3 k hk
theorem num_bound {l : List Int} {x : ZX} (hl : El q f l x) : 0 ≤ hv l q ∧ hv l q < Qn q f := by
 have h1 := nl_num (p := q) hl.1.1
 have h2 := pow_le_Q hF hl.2.1
 omega
theorem num_el {l : List Int} {x : ZX} (hl : El q f l x) : ∃ n : Nat, hv l q = n ∧ n < Qn q f ∧ l = dg q n := by
 have h := num_bound hF hl
 exact ⟨(hv l q).toNat, by omega, by omega, (dg_num hF.prm.1 hl.1).symm⟩
theorem num_eq {l m : List Int} {x y : ZX} (hl : El q f l x) (hm : El q f m y) (h : hv l q = hv m q) : Cg q (P f) x y := by
 have e : l = m := by rw [← dg_num hF.prm.1 hl.1, ← dg_num hF.prm.1 hm.1, h]
 subst e
 exact hl.2.2.symm.trans hm.2.2
theorem num_cg {l m : List Int} {x y : ZX} (hl : El q f l x) (hm : El q f m y) (h : Cg q (P f) x y) : hv l q = hv m q := by rw [hl.eq hF hm h]
section
variable {G : ZX} (ho : IsOrd q (P f) G (Qn q f - 1))
include ho
theorem gpow_ne (k : Nat) : ¬ In q (P f) (G ^ k) := by
 intro h
 have h1 : In q (P f) (G ^ (k * (Qn q f - 1))) := by
  have hp := Qn_pos hF
  rw [show k * (Qn q f - 1) = k * (Qn q f - 1 - 1) + k by rw [← Nat.mul_succ]; congr 1; omega, pow_add]
  exact h.mul' _
 rw [Nat.mul_comm, pow_mul] at h1
 exact not_in_one hF.prm hF.nl hF.two ((Cg.one_pow ho.2.1 k).in_iff.1 h1)
theorem lg_exists {n : Nat} (hn : n < Qn q f) (h0 : n ≠ 0) : ∃ k, k < Qn q f - 1 ∧ Cg q (P f) (P (dg q n)) (G ^ k) := by
 have hp := Qn_pos hF
 let φ : Nat → Nat := fun m => (hv (rm q f (G ^ (m - 1))) q).toNat
 have hel : ∀ m, El q f (rm q f (G ^ (m - 1))) (G ^ (m - 1)) := fun m => El.rm hF _
 have hmem : ∀ x, x ∈ List.range' 1 (Qn q f - 1) ↔ 1 ≤ x ∧ x < Qn q f := fun x => by rw [List.mem_range'_1]; omega
 have hperm := perm_map_self (l := List.range' 1 (Qn q f - 1)) List.nodup_range' φ (fun m hm => by
  rw [hmem]
  have hb := num_bound hF (hel m)
  refine ⟨?_, by show (hv _ q).toNat < _; omega⟩
  rcases Int.lt_or_le 0 (hv (rm q f (G ^ (m - 1))) q) with h | h
  ·show 1 ≤ (hv _ q).toNat; omega
  ·exact absurd (((hel m).nil_iff hF).1 (nl_num_zero (hel m).1.1 (hel m).1.2 (by omega))) (gpow_ne hF ho _)) (fun m hm m' hm' e => by
  rw [hmem] at hm hm'
  have b1 := num_bound hF (hel m)
  have b2 := num_bound hF (hel m')
  have e : (hv (rm q f (G ^ (m - 1))) q).toNat = (hv (rm q f (G ^ (m' - 1))) q).toNat := e
  have := ord_inj' ho (by omega) (by omega) (num_eq hF (hel m) (hel m') (by omega))
  omega)
 have h1 : n ∈ (List.range' 1 (Qn q f - 1)).map φ := hperm.mem_iff.2 ((hmem n).2 ⟨by omega, hn⟩)
 obtain ⟨m, hm, e⟩ := List.mem_map.1 h1
 rw [hmem] at hm
 refine ⟨m - 1, by omega, ?_⟩
 have e2 : dg q n = rm q f (G ^ (m - 1)) := by rw [← e]; exact dg_num hF.prm.1 (hel m).1
 rw [e2]
 exact (hel m).2.2
def IsLg (q : Nat) (f : List Int) (G : ZX) (n : Nat) (L : Int) : Prop := (n = 0 ∧ L = -1) ∨ (n ≠ 0 ∧ ∃ k : Nat, L = k ∧ k < Qn q f - 1 ∧ Cg q (P f) (P (dg q n)) (G ^ k))
theorem lg_unique {n : Nat} {L M : Int} (h1 : IsLg q f G n L) (h2 : IsLg q f G n M) : L = M := by
 have _ := hF
 rcases h1 with ⟨a, rfl⟩ | ⟨a, k, rfl, hk, hc⟩
 ·rcases h2 with ⟨_, rfl⟩ | ⟨b, _⟩
  ·rfl
  ·exact absurd a b
 ·rcases h2 with ⟨b, _⟩ | ⟨_, j, rfl, hj, hc'⟩
  ·exact absurd b a
  ·rw [ord_inj' ho hk hj (hc.symm.trans hc')]
theorem lg_el {l : List Int} {k : Nat} (hl : El q f l (G ^ k)) (hk : k < Qn q f - 1) : IsLg q f G (hv l q).toNat k := by
 refine .inr ⟨fun h => ?_, k, rfl, hk, ?_⟩
 ·have hb := num_bound hF hl
  exact gpow_ne hF ho k ((hl.nil_iff hF).1 (nl_num_zero hl.1.1 hl.1.2 (by omega)))
 ·rw [dg_num hF.prm.1 hl.1]; exact hl.2.2
def Tbl (q : Nat) (f : List Int) (G : ZX) (t : List Int) : Prop := t.length = Qn q f ∧ ∀ n, n < Qn q f → IsLg q f G n (t.getD n 0)
def Kn (q : Nat) (f : List Int) (G : ZX) (i : Nat) (kn : List (Int × Int)) : Prop := ∀ m v : Int, Go.TT.mget (.int .i64) m kn = some v ↔ ∃ j y, j < i ∧ v = (j : Nat) ∧ El q f y (G ^ j) ∧ hv y q = m
theorem kn_nil : Kn q f G 0 [] := by
 have _ := hF
 have _ := ho
 exact fun m v => ⟨fun h => (by cases h), fun ⟨j, _, h, _⟩ => (by omega)⟩
theorem kn_new {i : Nat} {kn : List (Int × Int)} {y : List Int} (h : Kn q f G i kn) (hi : i < Qn q f - 1) (hy : El q f y (G ^ i)) : Go.TT.mget (.int .i64) (hv y q) kn = none := by
 rcases hm : Go.TT.mget (.int .i64) (hv y q) kn with _ | v
 ·rfl
 ·exfalso
  obtain ⟨j, z, hj, _, hz, hn⟩ := (h _ _).1 hm
  have := ord_inj' ho (by omega) hi (num_eq hF hz hy hn)
  omega
theorem kn_step {i : Nat} {kn : List (Int × Int)} {y : List Int} (h : Kn q f G i kn) (hi : i < Qn q f - 1) (hy : El q f y (G ^ i)) : Kn q f G (i + 1) (Go.TT.mset (.int .i64) (hv y q) (i : Int) kn) := by
 intro m v
 rw [mget_set]
 by_cases hm : m = hv y q
 ·rw [if_pos hm]
  constructor
  ·intro e
   injection e with e
   exact ⟨i, y, by omega, e.symm, hy, hm.symm⟩
  ·rintro ⟨j, z, hj, rfl, hz, hn⟩
   have := ord_inj' ho (by omega) hi (num_eq hF hz hy (by rw [hn, hm]))
   rw [this]
 ·rw [if_neg hm, h]
  constructor
  ·rintro ⟨j, z, hj, h⟩
   exact ⟨j, z, by omega, h⟩
  ·rintro ⟨j, z, hj, hv, hz, hn⟩
   refine ⟨j, z, ?_, hv, hz, hn⟩
   rcases Nat.lt_or_ge j i with h | h
   ·exact h
   ·have : j = i := by omega
    subst this
    exact absurd (hn.symm.trans (num_cg hF hz hy (Cg.refl _))) hm
theorem table_l0 (hQ : Qn q f ≤ 2147483647) {g : List Int} (hg : El q f g G) {M : Nat} (hM : M ≤ Qn q f - 1) : ∀ (d i : Nat) (x : List Int) (kn : List (Int × Int)), i + d = M → El q f x (G ^ i) → Kn q f G i kn → ∃ kn', Kn q f G M kn' ∧ ∃ K, ∀ kk k, K ≤ kk → K ≤ k → dl_table.l0 kk q f g M k i x kn = some kn' := by
 intro d
 induction d with
 | zero =>
  intro i x kn hi hx hkn
  have e : i = M := by omega
  subst e
  refine ⟨kn, hkn, 1, fun kk k _ hk => ?_⟩
  obtain ⟨k', rfl, hk'⟩ := ex_succ hk
  simp only [dl_table.l0]
  rw [if_neg (by omega)]
 | succ d ih =>
  intro i x kn hi hx hkn
  obtain ⟨K1, h1⟩ := gf_Number_ok hF hQ hx
  obtain ⟨c, hc, K2, h2⟩ := gf_Mul_ok hF hx hg
  have hc' : El q f c (G ^ (i + 1)) := by rw [pow_succ]; exact hc
  obtain ⟨kn', hkn', K3, h3⟩ := ih (i + 1) c _ (by omega) hc' (kn_step hF ho hkn (by omega) hx)
  dsimp only at h1 h2
  refine ⟨kn', hkn', K1 + K2 + K3 + 1, fun kk k hkk hk => ?_⟩
  obtain ⟨k', rfl, hk'⟩ := ex_succ hk
  simp only [dl_table.l0]
  rw [if_pos (by omega), h1 kk (by omega), Option.bind_some, h2 kk (by omega), Option.bind_some]
  exact h3 kk k' (by omega) (by omega)
theorem kn_all {kn : List (Int × Int)} (h : Kn q f G (Qn q f - 1) kn) {n : Nat} (hn : n < Qn q f) : IsLg q f G n ((Go.TT.mget (.int .i64) (n : Int) kn).getD (-1)) := by
 have hp2 := hF.prm.1
 by_cases h0 : n = 0
 ·subst h0
  rcases hm : Go.TT.mget (.int .i64) ((0 : Nat) : Int) kn with _ | v
  ·exact .inl ⟨rfl, rfl⟩
  ·exfalso
   obtain ⟨j, z, _, _, hz, hn⟩ := (h _ _).1 hm
   exact gpow_ne hF ho j ((hz.nil_iff hF).1 (nl_num_zero hz.1.1 hz.1.2 (by omega)))
 ·obtain ⟨k, hk, hc⟩ := lg_exists hF ho hn h0
  have hm : Go.TT.mget (.int .i64) (n : Int) kn = some (k : Int) := (h _ _).2 ⟨k, dg q n, hk, rfl, ⟨(dg_el hF hn).1, (dg_el hF hn).2.1, hc⟩, dg_val hp2 n⟩
  rw [hm]
  exact .inr ⟨h0, k, rfl, hk, hc⟩
theorem table_l1 (hQ : Qn q f ≤ 2147483647) {kn : List (Int × Int)} (hk : Kn q f G (Qn q f - 1) kn) : ∀ (d i : Nat) (t : List Int), i + d = Qn q f → t.length = Qn q f → (∀ n, n < i → IsLg q f G n (t.getD n 0)) → ∃ u, Tbl q f G u ∧ Ev (fun k => dl_table.l1 kn k t i) u := by
 intro d
 induction d with
 | zero =>
  intro i t hi ht hlg
  refine ⟨t, ⟨ht, fun n hn => hlg n (by omega)⟩, 1, fun k hk => ?_⟩
  obtain ⟨k', rfl, hk'⟩ := ex_succ hk
  simp only [dl_table.l1]
  rw [if_neg (by omega)]
 | succ d ih =>
  intro i t hi ht hlg
  have h1 := kn_all hF ho hk (n := i) (by omega)
  obtain ⟨u, hu, K, hK⟩ := ih (i + 1) (t.set i ((Go.TT.mget (.int .i64) (i : Int) kn).getD (-1))) (by omega) (by rw [List.length_set]; exact ht) (fun n hn => by
   rw [List.getD_eq_getElem?_getD, List.getElem?_set]
   by_cases e : i = n
   ·subst e
    rw [if_pos rfl, if_pos (by omega)]
    exact h1
   ·rw [if_neg e, ← List.getD_eq_getElem?_getD]
    exact hlg n (by omega))
  dsimp only at hK
  refine ⟨u, hu, K + 1, fun k hk => ?_⟩
  obtain ⟨k', rfl, hk'⟩ := ex_succ hk
  have hK := hK k' hk'
  simp only [dl_table.l1]
  rw [if_pos (by omega), if_pos (by omega), Int.toNat_natCast, show (i : Int) + 1 = ((i + 1 : Nat) : Int) from rfl, wrap_nat (by omega)]
  rcases hm : Go.TT.mget (.int .i64) (i : Int) kn with _ | v
  ·rw [hm] at hK
   rw [if_neg (by simp)]
   exact hK
  ·rw [hm] at hK
   rw [if_pos (by simp)]
   exact hK
theorem table_ok (hQ : Qn q f ≤ 2147483647) {g : List Int} (hg : El q f g G) : ∃ t, Tbl q f G t ∧ Ev (fun k => dl_table.f k q f g (Qn q f : Int)) t := by
 have hpos := Qn_pos hF
 obtain ⟨kn, hkn, K1, h1⟩ := table_l0 hF ho hQ hg (M := Qn q f - 1) (Nat.le_refl _) (Qn q f - 1) 0 [1] [] (by omega) (by rw [pow_zero]; exact El.one hF) (kn_nil hF ho)
 obtain ⟨u, hu, K2, h2⟩ := table_l1 hF ho hQ hkn (Qn q f) 0 (List.replicate (Qn q f) 0) (by omega) (by simp) (fun n hn => by omega)
 dsimp only at h2
 refine ⟨u, hu, K1 + K2, fun k hk => ?_⟩
 simp only [dl_table.f]
 rw [show (Qn q f : Int) - 1 = ((Qn q f - 1 : Nat) : Int) by omega, wrap_nat (by omega), if_pos (by omega), Int.toNat_natCast, h1 k k (by omega) (by omega), Option.bind_some, if_pos (by omega), Int.toNat_natCast, if_pos (by omega)]
 exact h2 k (by omega)
end
end
end Go.Proofs.YtillaipaanancaaGreat.Q
end
section
namespace Go.Proofs.YtillaipaanancaaGreat.Q
open Go.RowKit Go.Proofs.YtillaipaanancaaGreatW.PrintWords Go.Proofs.YtillaipaanancaaGreatW.PrintLast Go.Proofs.YtillaipaanancaaGreatW.PrintMore Go.Proofs.YtillaipaanancaaGreat.M Go.Proofs.YtillaipaanancaaGreat.M.ZX
set_option linter.unusedVariables false
set_option linter.unusedSimpArgs false
noncomputable def opE (q : Nat) (f : List Int) (most : Nat) : List (List Int) → Int × Int
 | [] => if Qn q f ≤ 2147483647 ∧ Qn q f ≤ most then (((Qn q f : Nat) : Int), 0) else (0, 5)
 | l :: ls => if ckE q f l = 0 then opE q f most ls else (0, ckE q f l)
section
variable {q : Nat} {f : List Int} (hF : Fld q f)
include hF
theorem open_loop (most : Nat) (ls : List (List Int)) (hn : ls.length ≤ 1000) : ∀ (d i : Nat), i + d = ls.length → Ev (fun k => dl_open.l0 k (most : Int) ls (ls.length : Int) (i : Int) q f q f) ((q : Int), f, (opE q f most (ls.drop i)).1, (opE q f most (ls.drop i)).2) := by
 intro d
 induction d with
 | zero =>
  intro i hi
  obtain ⟨K, hK⟩ := gf_Size_ok hF
  rw [List.drop_of_length_le (by omega)]
  dsimp only at hK
  refine ⟨K + 1, fun k hk => ?_⟩
  obtain ⟨k', rfl, hk'⟩ := ex_succ hk
  simp only [dl_open.l0]
  rw [if_neg (by omega), hK k' (by omega), Option.bind_some]
  unfold opE
  by_cases h1 : Qn q f ≤ 2147483647
  ·rw [if_pos h1, if_pos rfl]
   by_cases h2 : Qn q f ≤ most
   ·rw [if_neg (by omega), if_pos ⟨h1, h2⟩]
   ·rw [if_pos (by omega), if_neg (fun h => h2 h.2)]
  ·rw [if_neg h1, if_neg (by simp), if_neg (fun h => h1 h.1)]
 | succ d ih =>
  intro i hi
  obtain ⟨K1, h1⟩ := pm_Check_spec (q : Int) (ls.getD i [])
  obtain ⟨K2, h2⟩ := ih (i + 1) (by omega)
  dsimp only at h1 h2
  have e : ls.drop i = ls.getD i [] :: ls.drop (i + 1) := by rw [List.drop_eq_getElem_cons (by omega), List.getD_eq_getElem?_getD, List.getElem?_eq_getElem (by omega)]; rfl
  have hr : rd_L1 ls (i : Int) = ls.getD i [] := by unfold rd_L1; rw [Int.toNat_natCast]
  refine ⟨K1 + K2 + 1, fun k hk => ?_⟩
  obtain ⟨k', rfl, hk'⟩ := ex_succ hk
  simp only [dl_open.l0]
  rw [if_pos (by omega), if_pos (by omega), if_pos (by omega), hr, h1 k' (by omega), Option.bind_some, e]
  unfold opE ckE
  by_cases h0 : ckP q (ls.getD i []) = 0
  ·rw [if_pos h0, if_pos h0]
   by_cases h3 : (ls.getD i []).length ≥ f.length
   ·rw [if_pos (by omega), if_pos h3, if_neg (by decide)]
   ·rw [if_neg (by omega), if_neg h3, if_pos rfl, succ_wrap (by omega)]
    exact h2 k' (by omega)
  ·rw [if_neg h0, if_neg h0, if_neg h0]
theorem open_ok (most : Nat) (ls : List (List Int)) (hn : ls.length ≤ 1000) : Ev (fun k => dl_open.f k q f (most : Int) ls) ((q : Int), f, (opE q f most ls).1, (opE q f most ls).2) := by
 obtain ⟨K1, h1⟩ := Check_ok hF
 obtain ⟨K2, h2⟩ := open_loop hF most ls hn ls.length 0 (by omega)
 rw [List.drop_zero] at h2
 dsimp only at h1 h2
 refine ⟨K1 + K2, fun k hk => ?_⟩
 simp only [dl_open.f]
 rw [h1 k (by omega), Option.bind_some, if_pos rfl]
 exact h2 k (by omega)
theorem opE_ok {most : Nat} (hQ : Qn q f ≤ 2147483647) (hm : Qn q f ≤ most) : ∀ {ls : List (List Int)}, (∀ l ∈ ls, ckE q f l = 0) → opE q f most ls = (((Qn q f : Nat) : Int), 0)
 | [], _ => by have _ := hF; unfold opE; rw [if_pos ⟨hQ, hm⟩]
 | l :: ls, h => by
  unfold opE
  rw [if_pos (h l List.mem_cons_self)]
  exact opE_ok hQ hm fun x hx => h x (List.mem_cons_of_mem _ hx)
theorem gens_ok (hQ : Qn q f ≤ 2147483647) {g : List Int} {G : ZX} (hg : El q f g G) : ∃ b : Bool, (b = true ↔ g ≠ [] ∧ IsOrd q (P f) G (Qn q f - 1)) ∧ Ev (fun k => gFGenerates.f k q f g (Qn q f : Int)) b ∧ Ev (fun k => r18IsGenerator.f k q f g) b := by
 have hpos := Qn_pos hF
 obtain ⟨b, hb, h1⟩ := gf_Generates_ok hF hQ hg
 refine ⟨b, hb, h1, ?_⟩
 by_cases hne : g = []
 ·subst hne
  have e : b = false := Bool.eq_false_iff.2 fun e => (hb.1 e).1 rfl
  subst e
  refine ⟨0, fun k _ => ?_⟩
  simp only [r18IsGenerator.f]
  rw [if_neg (by simp)]
 ·have hone := field_fermat hF.prm hF.nl hF.two hF.dom (fun h => hne ((hg.nil_iff hF).2 h))
  obtain ⟨k0, hk0⟩ := exists_ord (show 1 ≤ q ^ (f.length - 1) - 1 by have : 2 ≤ q ^ (f.length - 1) := hpos; omega) hone
  have hle : k0 ≤ Qn q f - 1 := Nat.le_of_dvd (by omega) ((hk0.dvd_iff _).1 hone)
  obtain ⟨K1, g1⟩ := ref_Order_ok hF hg hk0 (by omega)
  obtain ⟨K2, g2⟩ := ref_Size_ok hF
  rw [if_pos hQ] at g2
  have hl := List.length_pos_iff.2 hne
  dsimp only at g1 g2
  refine ⟨K1 + K2, fun k hk => ?_⟩
  simp only [r18IsGenerator.f]
  rw [if_pos (by omega), g1 k (by omega), Option.bind_some, g2 k (by omega), Option.bind_some, show (Qn q f : Int) - 1 = ((Qn q f - 1 : Nat) : Int) by omega, wrap_nat (by omega)]
  have : ((k0 : Int) == ((Qn q f - 1 : Nat) : Int)) = b := by
   by_cases e : k0 = Qn q f - 1
   ·have hbt : b = true := hb.2 ⟨hne, e ▸ hk0⟩
    rw [hbt, e]; simp
   ·have hbf : b = false := Bool.eq_false_iff.2 fun h => e (hk0.unique (hb.1 h).2)
    rw [hbf]
    exact beq_eq_false_iff_ne.2 fun h => e (Int.ofNat_inj.1 h)
  rw [this]
theorem log_step : ∀ (d s : Nat), s + d = Qn q f - 1 → 1 ≤ s → Qn q f ≤ 2147483647 → ∃ S, s ≤ S ∧ S ≤ Qn q f - 1 ∧ Qn q f - 1 ≤ S * S ∧ Ev (fun k => dl_Log.l0 (Qn q f : Int) k (s : Int)) (S : Int) := by
 have hpos := Qn_pos hF
 have hsq : ∀ s : Nat, s ≤ 2147483647 → wrap64 ((s : Int) * (s : Int)) = ((s * s : Nat) : Int) := fun s hs => by
  have := Nat.mul_le_mul hs hs
  rw [← Int.natCast_mul, wrap_nat (by omega)]
 have hq : Qn q f ≤ 2147483647 → wrap64 ((Qn q f : Int) - 1) = ((Qn q f - 1 : Nat) : Int) := fun h => by rw [show (Qn q f : Int) - 1 = ((Qn q f - 1 : Nat) : Int) by omega, wrap_nat (by omega)]
 have stop : ∀ s : Nat, s ≤ Qn q f - 1 → Qn q f ≤ 2147483647 → Qn q f - 1 ≤ s * s → Ev (fun k => dl_Log.l0 (Qn q f : Int) k (s : Int)) (s : Int) := fun s h1 h2 h3 => by
  refine ⟨1, fun k hk => ?_⟩
  obtain ⟨k', rfl, hk'⟩ := ex_succ hk
  simp only [dl_Log.l0]
  rw [hsq s (by omega), hq h2, if_neg (by omega)]
 intro d
 induction d with
 | zero =>
  intro s hs h1 hQ
  have : s ≤ s * s := Nat.le_mul_self s
  exact ⟨s, Nat.le_refl _, by omega, by omega, stop s (by omega) hQ (by omega)⟩
 | succ d ih =>
  intro s hs h1 hQ
  by_cases h : s * s < Qn q f - 1
  ·obtain ⟨S, h2, h3, h4, K, hK⟩ := ih (s + 1) (by omega) (by omega) hQ
   dsimp only at hK
   refine ⟨S, by omega, h3, h4, K + 1, fun k hk => ?_⟩
   obtain ⟨k', rfl, hk'⟩ := ex_succ hk
   simp only [dl_Log.l0]
   rw [hsq s (by omega), hq hQ, if_pos (by omega), show (s : Int) + 1 = ((s + 1 : Nat) : Int) from rfl, wrap_nat (by omega)]
   exact hK k' hk'
  ·exact ⟨s, Nat.le_refl _, by omega, by omega, stop s (by omega) hQ (by omega)⟩
section
variable {G : ZX} (ho : IsOrd q (P f) G (Qn q f - 1))
include ho
theorem log_l1 (hQ : Qn q f ≤ 2147483647) {g : List Int} (hg : El q f g G) {M : Nat} (hM : M ≤ Qn q f - 1) : ∀ (d i : Nat) (x : List Int) (kn : List (Int × Int)), i + d = M → El q f x (G ^ i) → Kn q f G i kn → ∃ kn', Kn q f G M kn' ∧ ∃ K, ∀ kk k, K ≤ kk → K ≤ k → dl_Log.l1 kk q f g M k i x kn = some kn' := by
 intro d
 induction d with
 | zero =>
  intro i x kn hi hx hkn
  have e : i = M := by omega
  subst e
  refine ⟨kn, hkn, 1, fun kk k _ hk => ?_⟩
  obtain ⟨k', rfl, hk'⟩ := ex_succ hk
  simp only [dl_Log.l1]
  rw [if_neg (by omega)]
 | succ d ih =>
  intro i x kn hi hx hkn
  obtain ⟨K1, h1⟩ := gf_Number_ok hF hQ hx
  obtain ⟨c, hc, K2, h2⟩ := gf_Mul_ok hF hx hg
  have hc' : El q f c (G ^ (i + 1)) := by rw [pow_succ]; exact hc
  obtain ⟨kn', hkn', K3, h3⟩ := ih (i + 1) c _ (by omega) hc' (kn_step hF ho hkn (by omega) hx)
  have hnew := kn_new hF ho hkn (by omega) hx
  dsimp only at h1 h2
  refine ⟨kn', hkn', K1 + K2 + K3 + 1, fun kk k hkk hk => ?_⟩
  obtain ⟨k', rfl, hk'⟩ := ex_succ hk
  simp only [dl_Log.l1]
  rw [if_pos (by omega), h1 kk (by omega), Option.bind_some, h2 kk (by omega), Option.bind_some, hnew, if_neg (by simp)]
  exact h3 kk k' (by omega) (by omega)
theorem log_l2 (hQ : Qn q f ≤ 2147483647) {gi : List Int} {GI : ZX} (hgi : El q f gi GI) {S L : Nat} (hinv : Cg q (P f) (G ^ S * GI) 1) {kn : List (Int × Int)} (hkn : Kn q f G S kn) (hS1 : 1 ≤ S) (hS2 : S ≤ Qn q f - 1) (hSS : Qn q f - 1 ≤ S * S) (hL : L < Qn q f - 1) :
  ∀ (d i : Nat) (a : List Int), i + d = L / S → El q f a (G ^ (L - i * S)) → Ev (fun k => dl_Log.l2 q f (Qn q f : Int) (S : Int) kn gi k a (i : Int)) ((L : Int), 0) := by
 have hdS : L / S < S := Nat.div_lt_of_lt_mul (by omega)
 have hq : wrap64 ((Qn q f : Int) - 1) = ((Qn q f - 1 : Nat) : Int) := by rw [show (Qn q f : Int) - 1 = ((Qn q f - 1 : Nat) : Int) by omega, wrap_nat (by omega)]
 intro d
 induction d with
 | zero =>
  intro i a hi ha
  have hi : i = L / S := by omega
  have h1 : i * S ≤ L := by rw [hi]; exact Nat.div_mul_le_self L S
  have h2 : L - i * S < S := by
   have := Nat.div_add_mod L S
   have h3 := Nat.mod_lt L (show S > 0 by omega)
   rw [hi, Nat.mul_comm]; omega
  have hm : Go.TT.mget (.int .i64) (hv a q) kn = some ((L - i * S : Nat) : Int) := (hkn _ _).2 ⟨L - i * S, a, h2, rfl, ha, rfl⟩
  obtain ⟨K1, k1⟩ := gf_Number_ok hF hQ ha
  dsimp only at k1
  refine ⟨K1 + 1, fun k hk => ?_⟩
  obtain ⟨k', rfl, hk'⟩ := ex_succ hk
  simp only [dl_Log.l2]
  rw [if_pos (by omega), k1 k' (by omega), Option.bind_some, hm, if_pos (by rfl), hq, if_neg (by omega), Option.getD_some, ← Int.natCast_mul, wrap_nat (by omega), ← Int.natCast_add, wrap_nat (by omega), tmod_nat, Nat.mod_eq_of_lt (by omega), show i * S + (L - i * S) = L by omega]
 | succ d ih =>
  intro i a hi ha
  have h1 : (i + 1) * S ≤ L := (Nat.le_div_iff_mul_le (by omega)).1 (by omega)
  rw [Nat.succ_mul] at h1
  have hm : Go.TT.mget (.int .i64) (hv a q) kn = none := by
   rcases hm : Go.TT.mget (.int .i64) (hv a q) kn with _ | v
   ·rfl
   ·exfalso
    obtain ⟨j, y, hj, _, hy, hn⟩ := (hkn _ _).1 hm
    have := ord_inj' ho (by omega) (by omega) (num_eq hF hy ha hn)
    omega
  obtain ⟨K1, k1⟩ := gf_Number_ok hF hQ ha
  obtain ⟨b, hb, K2, k2⟩ := gf_Mul_ok hF ha hgi
  have hb' : El q f b (G ^ (L - (i + 1) * S)) := by
   refine ⟨hb.1, hb.2.1, hb.2.2.trans ?_⟩
   have e : G ^ (L - i * S) * GI = G ^ (L - (i + 1) * S) * (G ^ S * GI) := by
    rw [show L - i * S = (L - (i + 1) * S) + S by rw [Nat.succ_mul]; omega, pow_add]
    exact ZX.zr
   rw [e]
   exact ((Cg.refl _).mul hinv).trans (Cg.of_eq ZX.zr)
  obtain ⟨K3, k3⟩ := ih (i + 1) b (by omega) hb'
  dsimp only at k1 k2 k3
  refine ⟨K1 + K2 + K3 + 1, fun k hk => ?_⟩
  obtain ⟨k', rfl, hk'⟩ := ex_succ hk
  simp only [dl_Log.l2]
  rw [if_pos (by omega), k1 k' (by omega), Option.bind_some, hm, if_neg (by simp), k2 k' (by omega), Option.bind_some, show (i : Int) + 1 = ((i + 1 : Nat) : Int) from rfl, wrap_nat (by omega)]
  exact k3 k' (by omega)
theorem log_ok (hQ : Qn q f ≤ 2147483647) {g a : List Int} (hg : El q f g G) (hne : g ≠ []) {L : Nat} (hL : L < Qn q f - 1) (ha : El q f a (G ^ L)) : Ev (fun k => dl_Log.f k q f g a) ((L : Int), 0) := by
 have hpos := Qn_pos hF
 have hane : a ≠ [] := fun e => gpow_ne hF ho L ((ha.nil_iff hF).1 e)
 have hal := List.length_pos_iff.2 hane
 obtain ⟨K1, k1⟩ := open_ok hF 2147483647 [g, a] (by simp)
 rw [opE_ok hF hQ hQ (by
  intro l hl
  simp only [List.mem_cons, List.not_mem_nil, or_false] at hl
  exact hl.elim (fun e => e ▸ ckE_of hF hg.1 hg.2.1) (fun e => e ▸ ckE_of hF ha.1 ha.2.1))] at k1
 obtain ⟨b, hb, ⟨K2, k2⟩, _⟩ := gens_ok hF hQ hg
 have eb : b = true := hb.2 ⟨hne, ho⟩
 subst eb
 obtain ⟨S, h1, h2, h3, K3, k3⟩ := log_step hF (Qn q f - 2) 1 (by omega) (Nat.le_refl _) hQ
 obtain ⟨kn, hkn, K4, k4⟩ := log_l1 hF ho hQ hg h2 S 0 [1] [] (by omega) (by rw [pow_zero]; exact El.one hF) (kn_nil hF ho)
 obtain ⟨x0, hx0, K5, k5⟩ := gf_Pow_ok hF hg (e := S) (by omega)
 have hx0ne : x0 ≠ [] := fun e => gpow_ne hF ho S ((hx0.nil_iff hF).1 e)
 obtain ⟨gi, hgi, hinv, K6, k6⟩ := gf_Inverse_spec hF hx0.1 hx0.2.1 hx0ne
 obtain ⟨K7, k7⟩ := log_l2 hF ho hQ hgi (S := S) (L := L) (kn := kn) (((hx0.2.2.symm.mul (Cg.refl _)).trans (Cg.of_eq (show P x0 * P gi = P gi * P x0 from ZX.zr))).trans hinv) hkn h1 h2 h3 hL (L / S) 0 a (by omega) (by rw [Nat.zero_mul, Nat.sub_zero]; exact ha)
 dsimp only at k1 k2 k3 k5 k6 k7
 refine ⟨K1 + K2 + K3 + K4 + K5 + K6 + K7, fun k hk => ?_⟩
 simp only [dl_Log.f]
 rw [show (2147483647 : Int) = ((2147483647 : Nat) : Int) from rfl, k1 k (by omega), Option.bind_some, if_pos rfl, k2 k (by omega), Option.bind_some, if_pos rfl, if_neg (by omega)]
 have k3' := k3 k (by omega)
 rw [show dl_Log.l0 (Qn q f : Int) k 1 = some (S : Int) from k3', Option.bind_some, if_pos (by omega), Int.toNat_natCast, k4 k k (by omega) (by omega), Option.bind_some, k5 k (by omega), Option.bind_some, k6 k (by omega), Option.bind_some]
 exact k7 k (by omega)
end
end
end Go.Proofs.YtillaipaanancaaGreat.Q
end
section
namespace Go.Proofs.YtillaipaanancaaGreat.Q
open Go.RowKit Go.Proofs.YtillaipaanancaaGreatW.PrintWords Go.Proofs.YtillaipaanancaaGreatW.PrintLast Go.Proofs.YtillaipaanancaaGreatW.PrintMore Go.Proofs.YtillaipaanancaaGreat.M Go.Proofs.YtillaipaanancaaGreat.M.ZX
set_option linter.unusedVariables false
set_option linter.unusedSimpArgs false
section
variable {q : Nat} {f : List Int} (hF : Fld q f)
include hF
theorem Number_ok (hQ : Qn q f ≤ 2147483647) {l : List Int} {x : ZX} (hl : El q f l x) : Ev (fun k => fi_Number.f k q f l) (hv l q, 0) := by
 obtain ⟨K1, h1⟩ := check_one hF hl
 obtain ⟨K2, h2⟩ := size_ok hF hQ
 obtain ⟨K3, h3⟩ := gf_Number_ok hF hQ hl
 dsimp only at h1 h2 h3
 refine ⟨K1 + K2 + K3, fun k hk => ?_⟩
 simp only [fi_Number.f]
 rw [h1 k (by omega), Option.bind_some, if_pos rfl, h2 k (by omega), Option.bind_some, if_pos rfl, h3 k (by omega), Option.bind_some]
theorem opE_one {most : Nat} (hQ : Qn q f ≤ 2147483647) (hm : Qn q f ≤ most) {g : List Int} {x : ZX} (hg : El q f g x) : opE q f most [g] = (((Qn q f : Nat) : Int), 0) :=
 opE_ok hF hQ hm (by intro l hl; rw [List.mem_singleton] at hl; subst hl; exact ckE_of hF hg.1 hg.2.1)
theorem Table_ok (hQ : Qn q f ≤ 4096) {G : ZX} (ho : IsOrd q (P f) G (Qn q f - 1)) {g : List Int} (hg : El q f g G) (hne : g ≠ []) : ∃ t, Tbl q f G t ∧ Ev (fun k => dl_Table.f k q f g) (t, 0) := by
 obtain ⟨K1, k1⟩ := open_ok hF 4096 [g] (by simp)
 rw [opE_one hF (by omega) hQ hg] at k1
 obtain ⟨b, hb, ⟨K2, k2⟩, _⟩ := gens_ok hF (by omega) hg
 have eb : b = true := hb.2 ⟨hne, ho⟩
 subst eb
 obtain ⟨t, ht, K3, k3⟩ := table_ok hF ho (by omega) hg
 dsimp only at k1 k2 k3
 refine ⟨t, ht, K1 + K2 + K3, fun k hk => ?_⟩
 simp only [dl_Table.f]
 rw [show (4096 : Int) = ((4096 : Nat) : Int) from rfl, k1 k (by omega), Option.bind_some, if_pos rfl, k2 k (by omega), Option.bind_some, if_pos rfl, k3 k (by omega), Option.bind_some]
theorem gen_first (hQ : Qn q f ≤ 2147483647) : ∃ g G, El q f g G ∧ g ≠ [] ∧ IsOrd q (P f) G (Qn q f - 1) ∧ Ev (fun k => fi_Generator.f k q f) (g, 0) := by
 obtain ⟨n, hn, hgen, hmin⟩ := exists_gen hF
 have hel := dg_el hF hn
 exact ⟨dg q n, P (dg q n), hel, fun e => hgen.1 ((dg_zero_iff hF.prm hF.nl hF.two hn).1 ((hel.nil_iff hF).1 e)), hgen.2, Generator_ok hF hQ hn hgen hmin⟩
theorem el_log {G : ZX} (ho : IsOrd q (P f) G (Qn q f - 1)) {a : List Int} {x : ZX} (ha : El q f a x) (hne : a ≠ []) : ∃ L n : Nat, L < Qn q f - 1 ∧ El q f a (G ^ L) ∧ hv a q = n ∧ 1 ≤ n ∧ n < Qn q f ∧ IsLg q f G n L := by
 obtain ⟨n, hn, hnlt, hdg⟩ := num_el hF ha
 have hn0 : n ≠ 0 := by
  rintro rfl
  exact hne (nl_num_zero ha.1.1 ha.1.2 (by omega))
 obtain ⟨L, hL, hc⟩ := lg_exists hF ho hnlt hn0
 rw [← hdg] at hc
 have he : El q f a (G ^ L) := ⟨ha.1, ha.2.1, hc⟩
 have e1 := lg_el hF ho he hL
 rw [hn, Int.toNat_natCast] at e1
 exact ⟨L, n, hL, he, hn, by omega, hnlt, e1⟩
end
end Go.Proofs.YtillaipaanancaaGreat.Q
end
section
namespace Go.Proofs.YtillaipaanancaaGreat.Q
open Go.RowKit Go.Proofs.YtillaipaanancaaGreatW.PrintWords Go.Proofs.YtillaipaanancaaGreatW.PrintLast Go.Proofs.YtillaipaanancaaGreatW.PrintMore
set_option maxRecDepth 100000
theorem aw_1 (k : Nat) : dl_Table.f (k + 60) 7 [0, 1] [3] = some ([-1, 0, 2, 1, 4, 5, 3], 0) := by kernel_rfl
theorem aw_2 (k : Nat) : dl_Zech.f (k + 60) 2 [1, 1, 1] [0, 1] = some ([-1, 2, 1], 0) := by kernel_rfl
theorem aw_4 (k : Nat) : dl_Cosets.f (k + 60) 2 [1, 1, 0, 1] = some ([[0], [1, 2, 4], [3, 6, 5]], 0) := by kernel_rfl
theorem aw_5 (k : Nat) : dl_Log.f (k + 60) 7 [0, 1] [3] [6] = some (3, 0) := by kernel_rfl
theorem aw_6 (k : Nat) : dl_open.f (k + 60) 7 [0, 1] 4096 [[2]] = some (7, [0, 1], 7, 0) := by kernel_rfl
theorem aw_7 (k : Nat) : dl_Roots.l0 (k + 60) 7 [0, 1] [2] 2 (7 : Int).toNat (k + 60) 0 [] = some [[3], [4]] := by kernel_rfl
theorem aw_8 : [[3], [4]].mergeSort (fun x y => !decide (dlP y x < 0)) = [[3], [4]] := List.mergeSort_of_pairwise (by decide)
theorem aw_3 (k : Nat) : dl_Roots.f (k + 60) 7 [0, 1] [2] 2 = some ([[3], [4]], 0) := by
 unfold dl_Roots.f
 rw [aw_6, Option.bind_some, if_pos rfl, if_neg (by decide), if_neg (by decide), if_pos (by decide)]
 show (dl_Roots.l0 (k + 60) 7 [0, 1] [2] 2 (7 : Int).toNat (k + 60) 0 []).bind _ = _
 rw [aw_7, Option.bind_some, if_pos (by decide), aw_8]
theorem awake_ge (k : Nat) : l18awake.f (k + 60) = some true := by
 simp only [l18awake.f, l18seven.f, l18four.f, l18eight.f, Option.bind_some]
 rw [aw_1, Option.bind_some, aw_2, Option.bind_some, aw_3, Option.bind_some, aw_4, Option.bind_some, aw_5, Option.bind_some]
 kernel_rfl
theorem awake_ev : Ev l18awake.f true := ⟨60, fun k hk => by
 obtain ⟨j, rfl⟩ : ∃ j, k = j + 60 := ⟨k - 60, by omega⟩
 exact awake_ge j⟩
end Go.Proofs.YtillaipaanancaaGreat.Q
end
section
namespace Go.Proofs.YtillaipaanancaaGreat.Pure
open Go.RowKit Go.Proofs.YtillaipaanancaaGreatW.PrintWords Go.Proofs.YtillaipaanancaaGreatW.PrintLast Go.Proofs.YtillaipaanancaaGreatW.PrintMore Go.Proofs.YtillaipaanancaaGreat.M Go.Proofs.YtillaipaanancaaGreat.M.ZX Go.Proofs.YtillaipaanancaaGreat.Q
set_option linter.unusedVariables false
set_option linter.unusedSimpArgs false
section
variable {q : Nat} {f : List Int} (hF : Fld q f)
include hF
theorem seen_loop (hQ : Qn q f ≤ 256) {G : ZX} (ho : IsOrd q (P f) G (Qn q f - 1)) {t : List Int} (ht : Tbl q f G t) : ∀ (d i : Nat) (s : List Bool), i + d = Qn q f → 1 ≤ i → s.length = Qn q f → (∀ n, s.getD n false = true → ∃ m : Nat, 1 ≤ m ∧ m < i ∧ t.getD m 0 = n) →
  Ev (fun k => lw.l0 k (Qn q f : Int) t s (i : Int)) true := by
 have hpos := Qn_pos hF
 have htl := ht.1
 intro d
 induction d with
 | zero =>
  intro i s hi h1 hs hseen
  refine ⟨1, fun k hk => ?_⟩
  obtain ⟨k', rfl, hk'⟩ := ex_succ hk
  simp only [lw.l0]
  rw [if_neg (by omega)]
 | succ d ih =>
  intro i s hi h1 hs hseen
  obtain ⟨h0, _⟩ | ⟨_, L, hL, hLlt, hc⟩ := ht.2 i (by omega)
  ·omega
  have hrd : rd t (i : Int) = (L : Int) := by rw [rd_nat]; exact hL
  have hfalse : s.getD L false = false := by
   cases hcs : s.getD L false with
   | false => rfl
   | true =>
    obtain ⟨m, hm1, hm2, hm⟩ := hseen L hcs
    obtain ⟨h0, _⟩ | ⟨_, L', hL', _, hc'⟩ := ht.2 m (by omega)
    ·omega
    have e : L' = L := by omega
    subst e
    have e1 := dg_el hF (show i < Qn q f by omega)
    have e2 := dg_el hF (show m < Qn q f by omega)
    have e3 : El q f (dg q i) (G ^ L') := ⟨e1.1, e1.2.1, hc⟩
    have e4 : El q f (dg q m) (G ^ L') := ⟨e2.1, e2.2.1, hc'⟩
    have e5 := num_cg hF e3 e4 (Cg.refl _)
    rw [dg_val hF.prm.1, dg_val hF.prm.1] at e5
    omega
  obtain ⟨K, hK⟩ := ih (i + 1) (s.set L true) (by omega) (by omega) (by rw [List.length_set]; exact hs) (by
   intro n hn
   by_cases e : n = L
   ·exact ⟨i, h1, by omega, by rw [hL, e]⟩
   ·obtain ⟨m, hm1, hm2, hm⟩ := hseen n (by
     rw [List.getD_eq_getElem?_getD, List.getElem?_set, if_neg (fun h => e h.symm), ← List.getD_eq_getElem?_getD] at hn
     exact hn)
    exact ⟨m, hm1, by omega, hm⟩)
  dsimp only at hK
  refine ⟨K + 1, fun k hk => ?_⟩
  obtain ⟨k', rfl, hk'⟩ := ex_succ hk
  simp only [lw.l0]
  have er : rdOf false s (L : Int) = false := by
   unfold rdOf
   rw [Int.toNat_natCast]; exact hfalse
  have ew : wrap64 ((Qn q f : Int) - 2) = ((Qn q f - 2 : Nat) : Int) := by rw [show (Qn q f : Int) - 2 = ((Qn q f - 2 : Nat) : Int) by omega, wrap_nat (by omega)]
  rw [if_pos (by omega), if_pos (by omega), if_pos (by omega), hrd, if_neg (by omega), ew, if_neg (by omega), if_pos (by omega), if_pos (by omega), er, if_neg (by simp), Int.toNat_natCast, show (i : Int) + 1 = ((i + 1 : Nat) : Int) from rfl, wrap_nat (by omega)]
  exact hK k' (by omega)
set_option maxHeartbeats 2000000 in
theorem powers_good (hQ : Qn q f ≤ 256) {a b : List Int} {A B : ZX} (ha : El q f a A) (hb : El q f b B) (hane : a ≠ []) (hbne : b ≠ []) : Ev (fun k => lw.j0 k a b false q f) true := by
 have hpos := Qn_pos hF
 obtain ⟨K1, h1⟩ := ref_Size_ok hF
 rw [if_pos (by omega)] at h1
 obtain ⟨g, G, hg, hgne, ho, K2, h2⟩ := gen_first hF (by omega)
 obtain ⟨i, n, hi, hai, hn, hn1, hnlt, hlg⟩ := el_log hF ho ha hane
 obtain ⟨j, _, hj, hbj, _⟩ := el_log hF ho hb hbne
 obtain ⟨K3, h3⟩ := log_ok hF ho (by omega) hg hgne hi hai
 obtain ⟨K4, h4⟩ := log_ok hF ho (by omega) hg hgne hj hbj
 obtain ⟨c, hc, K5, h5⟩ := Mul_ok hF hai hbj
 obtain ⟨s, hsE, hs, hcs⟩ : ∃ s, Aside0 (s = (i + j) % (Qn q f - 1)) ∧ s < Qn q f - 1 ∧ El q f c (G ^ s) := by
  refine ⟨(i + j) % (Qn q f - 1), ⟨rfl⟩, Nat.mod_lt _ (by omega), hc.1, hc.2.1, hc.2.2.trans ?_⟩
  rw [← pow_add]
  exact pow_mod_one ho.2.1 _
 obtain ⟨K6, h6⟩ := log_ok hF ho (by omega) hg hgne hs hcs
 obtain ⟨t, ht, K7, h7⟩ := Table_ok hF (by omega) ho hg hgne
 obtain ⟨K8, h8⟩ := Number_ok hF (by omega) ha
 rw [hn] at h8
 obtain ⟨c2, e, hc2, ⟨K9, h9⟩, K10, h10⟩ := Pow_nat hF hg (m := i) (by omega)
 obtain ⟨K11, h11⟩ := Same_ok (hc2.eq hF hai (Cg.refl _)) (hc2.small hF)
 obtain ⟨K12, h12⟩ := seen_loop hF hQ ho ht (Qn q f - 1) 1 (List.replicate (Qn q f) false) (by omega) (Nat.le_refl _) (by simp) (by
  intro n hn
  rw [List.getD_eq_getElem?_getD, List.getElem?_replicate] at hn
  split at hn <;> cases hn)
 have htn : rd t (n : Int) = (i : Int) := by rw [rd_nat]; exact lg_unique hF ho (ht.2 n hnlt) hlg
 have ht0 : rd t 0 = -1 := by
  rw [show (0 : Int) = ((0 : Nat) : Int) from rfl, rd_nat]
  exact lg_unique hF ho (ht.2 0 (by omega)) (.inl ⟨rfl, rfl⟩)
 have htl := ht.1
 have ew1 : wrap64 ((Qn q f : Int) - 1) = ((Qn q f - 1 : Nat) : Int) := by rw [show (Qn q f : Int) - 1 = ((Qn q f - 1 : Nat) : Int) by omega, wrap_nat (by omega)]
 have ew2 : wrap64 ((Qn q f : Int) - 2) = ((Qn q f - 2 : Nat) : Int) := by rw [show (Qn q f : Int) - 2 = ((Qn q f - 2 : Nat) : Int) by omega, wrap_nat (by omega)]
 have hz : ¬ ((Qn q f - 1 : Nat) : Int) = 0 := by omega
 have em : Aside0 ((s : Int) = Int.tmod (wrap64 ((i : Int) + (j : Int))) ((Qn q f - 1 : Nat) : Int)) := ⟨by
  rw [hsE.out, show (i : Int) + (j : Int) = ((i + j : Nat) : Int) from rfl, wrap_nat (by omega), tmod_nat]⟩
 dsimp only at h1 h2 h3 h4 h5 h6 h7 h8 h9 h10 h11 h12
 refine ⟨K1 + K2 + K3 + K4 + K5 + K6 + K7 + K8 + K9 + K10 + K11 + K12 + 3, fun k hk => ?_⟩
 obtain ⟨k1, rfl, hk1⟩ := ex_succ (K := K1 + K2 + K3 + K4 + K5 + K6 + K7 + K8 + K9 + K10 + K11 + K12 + 2) hk
 obtain ⟨k2, rfl, hk2⟩ := ex_succ (K := K1 + K2 + K3 + K4 + K5 + K6 + K7 + K8 + K9 + K10 + K11 + K12 + 1) (k := k1) (by omega)
 obtain ⟨k3, rfl, hk3⟩ := ex_succ (K := K1 + K2 + K3 + K4 + K5 + K6 + K7 + K8 + K9 + K10 + K11 + K12) (k := k2) (by omega)
 simp only [lw.j0]
 rw [if_neg (by simp), h1 _ (by omega), Option.bind_some, h2 _ (by omega), Option.bind_some, h3 _ (by omega), Option.bind_some, h4 _ (by omega), Option.bind_some, h5 _ (by omega), Option.bind_some, h6 _ (by omega), Option.bind_some, h7 _ (by omega), Option.bind_some, h8 _ (by omega), Option.bind_some, if_pos rfl, if_pos rfl, if_pos rfl, if_pos rfl, if_pos rfl, if_pos rfl, if_pos rfl]
 rw [ew1, ew2, if_neg (by omega), if_neg (by omega), if_neg (by omega), if_neg (by omega), if_neg hz, if_pos em.out]
 dsimp only
 rw [if_pos (by omega), if_neg (by omega), if_neg (by omega), if_pos (by omega), if_pos (by omega), if_pos htn, if_pos (by omega), ht0]
 simp only [lw.j1]
 rw [if_neg (by simp), h9 _ (by omega), Option.bind_some, h10 _ (by omega), Option.bind_some, if_pos rfl, h11 _ (by omega), Option.bind_some]
 simp only [lw.j2]
 rw [if_neg (by simp), if_pos (by omega), Int.toNat_natCast, if_pos (by omega)]
 exact h12 _ (by omega)
end
theorem fine_spec (p : Int) (f a b : List Int) : ∃ c : Bool, (c = true → ∃ q : Nat, p = q ∧ Fld q f ∧ Qn q f ≤ 256 ∧ El q f a (P a) ∧ El q f b (P b)) ∧ Ev (fun k => l18fine.f k p f a b) c := by
 obtain ⟨c, hc, K1, h1⟩ := Few_spec p f 256
 obtain ⟨K2, h2⟩ := Member_spec p f a
 obtain ⟨K3, h3⟩ := Member_spec p f b
 dsimp only at h1 h2 h3
 cases c with
 | false =>
  refine ⟨false, fun h => (by cases h), K1, fun k hk => ?_⟩
  simp only [l18fine.f]
  rw [show (256 : Int) = ((256 : Nat) : Int) from rfl, h1 _ (by omega), Option.bind_some, if_neg (by simp)]
 | true =>
  obtain ⟨q, rfl, hF, hQ, hQ2⟩ := hc.1 rfl
  by_cases ha : ckE q f a = 0
  ·refine ⟨ckE q f b == 0, fun h => ?_, K1 + K2 + K3, fun k hk => ?_⟩
   ·have hb := beq_iff_eq.1 h
    exact ⟨q, rfl, hF, hQ2, El.of hF (ckE_zero ha).1 (ckE_zero ha).2, El.of hF (ckE_zero hb).1 (ckE_zero hb).2⟩
   ·simp only [l18fine.f]
    rw [show (256 : Int) = ((256 : Nat) : Int) from rfl, h1 _ (by omega), Option.bind_some, if_pos rfl, h2 _ (by omega), Option.bind_some, if_pos ha, h3 _ (by omega), Option.bind_some]
  ·refine ⟨false, fun h => (by cases h), K1 + K2, fun k hk => ?_⟩
   simp only [l18fine.f]
   rw [show (256 : Int) = ((256 : Nat) : Int) from rfl, h1 _ (by omega), Option.bind_some, if_pos rfl, h2 _ (by omega), Option.bind_some, if_neg ha]
theorem DiscretelogPowers : lw.Pure := by
 intro p f a b _ _ _ _ _ _ _ _ _ _
 obtain ⟨Ka, ha⟩ := awake_ev
 obtain ⟨c, hc, K1, h1⟩ := fine_spec p f a b
 have out : ∀ k, Ka ≤ k → lw.j0 (k + 1) a b true p f = some true := fun k hk => by
  simp only [lw.j0]
  rw [if_pos trivial, ha k hk, Option.bind_some]
 dsimp only at h1
 by_cases hl : 0 < a.length ∧ 0 < b.length
 ·cases c with
  | false =>
   refine ⟨Ka + K1 + 1, ?_⟩
   simp only [lw.f]
   rw [ha _ (by omega), Option.bind_some, if_pos rfl, h1 _ (by omega), Option.bind_some, if_neg (by simp)]
   exact out _ (by omega)
  | true =>
   obtain ⟨q, rfl, hF, hQ, ea, eb⟩ := hc rfl
   obtain ⟨K2, h2⟩ := powers_good hF hQ ea eb (List.length_pos_iff.1 hl.1) (List.length_pos_iff.1 hl.2)
   dsimp only at h2
   refine ⟨Ka + K1 + K2 + 1, ?_⟩
   simp only [lw.f]
   rw [ha _ (by omega), Option.bind_some, if_pos rfl, h1 _ (by omega), Option.bind_some, if_pos rfl, if_neg (by omega), beq_eq_false_iff_ne.2 (by omega)]
   exact h2 _ (by omega)
 ·refine ⟨Ka + K1 + 1, ?_⟩
  have o := out (Ka + K1) (by omega)
  simp only [lw.f]
  rw [ha _ (by omega), Option.bind_some, if_pos rfl, h1 _ (by omega), Option.bind_some]
  cases c with
  | false => rw [if_neg (by simp)]; exact o
  | true =>
   rw [if_pos rfl]
   by_cases h0 : a.length = 0
   ·rw [if_pos (by omega)]; exact o
   ·rw [if_neg (by omega), beq_iff_eq.2 (by omega)]; exact o
end Go.Proofs.YtillaipaanancaaGreat.Pure
end

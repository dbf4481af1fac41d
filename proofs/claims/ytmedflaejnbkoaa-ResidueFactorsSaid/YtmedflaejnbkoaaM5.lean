/- Divisors out of a factorization: their list, its members, the sums of Euler's and Moebius's functions over them. No program in sight; no conditions. -/
import Derived.Test.YtmedflaejnbkoaaM1
namespace Go.Proofs.Ytmedflaejnbkoaa.M
set_option linter.unusedVariables false
set_option linter.unusedSimpArgs false

def dstep (L : List Nat) (q : Nat × Nat) : List Nat := (List.range (q.2 + 1)).flatMap fun j => L.map (· * q.1 ^ j)
/-- The divisors, prime by prime. -/
def dl (l : List (Nat × Nat)) : List Nat := l.foldl dstep [1]
theorem dl_nil : dl [] = [1] := rfl
theorem dl_snoc (l : List (Nat × Nat)) (q : Nat × Nat) : dl (l ++ [q]) = dstep (dl l) q := by simp [dl]
theorem dstep_zero (L : List Nat) (p : Nat) : dstep L (p, 0) = L := by simp [dstep]
theorem dstep_succ (L : List Nat) (p e : Nat) : dstep L (p, e + 1) = dstep L (p, e) ++ L.map (· * p ^ (e + 1)) := by
  unfold dstep
  rw [List.range_succ (n := e + 1), List.flatMap_append]
  simp
theorem mem_dstep {L : List Nat} {q : Nat × Nat} {x : Nat} : x ∈ dstep L q ↔ ∃ j, j ≤ q.2 ∧ ∃ y ∈ L, y * q.1 ^ j = x := by
  unfold dstep
  rw [List.mem_flatMap]
  constructor
  · rintro ⟨j, hj, hx⟩
    obtain ⟨y, hy, rfl⟩ := List.mem_map.1 hx
    exact ⟨j, by have := List.mem_range.1 hj; omega, y, hy, rfl⟩
  · rintro ⟨j, hj, y, hy, rfl⟩
    exact ⟨j, List.mem_range.2 (by omega), List.mem_map.2 ⟨y, hy, rfl⟩⟩
theorem dstep_nodup {L : List Nat} {p e : Nat} (hp : 0 < p) (hn : L.Nodup) (hd : ∀ x ∈ L, ¬ p ∣ x) : (dstep L (p, e)).Nodup := by
  have hmap : ∀ j, (L.map (· * p ^ j)).Nodup := fun j => by
    rw [List.nodup_iff_pairwise_ne, List.pairwise_map]
    refine hn.imp fun {a b} hab h => hab ?_
    exact Nat.eq_of_mul_eq_mul_right (Nat.pow_pos hp) h
  induction e with
  | zero => rw [dstep_zero]; exact hn
  | succ e ih =>
    rw [dstep_succ, List.nodup_append]
    refine ⟨ih, hmap _, ?_⟩
    rintro a ha b hb rfl
    obtain ⟨j, hj, y, hy, h1⟩ := mem_dstep.1 ha
    obtain ⟨z, hz, h2⟩ := List.mem_map.1 hb
    simp only at h1 h2 hj
    have h3 : p ^ j * y = p ^ (e + 1) * z := by rw [Nat.mul_comm, h1, ← h2, Nat.mul_comm]
    have := (pow_split hp h3 (hd y hy) (hd z hz)).1
    omega
theorem dvd_mul_pow {p e n x : Nat} (hp : Prm p) (hn : 0 < n) : x ∣ n * p ^ e ↔ ∃ j, j ≤ e ∧ ∃ y, y ∣ n ∧ y * p ^ j = x := by
  constructor
  · intro h
    have hx : 0 < x := Nat.pos_of_dvd_of_pos h (Nat.mul_pos hn (Nat.pow_pos (prm_pos hp)))
    induction e generalizing x with
    | zero => exact ⟨0, Nat.le_refl _, x, by simpa using h, by simp⟩
    | succ e ih =>
      by_cases hpx : p ∣ x
      · obtain ⟨z, rfl⟩ := hpx
        have hz : 0 < z := Nat.pos_of_ne_zero (by rintro rfl; simp at hx)
        obtain ⟨c, hc⟩ := h
        have h2 : z ∣ n * p ^ e := by
          refine ⟨c, ?_⟩
          apply Nat.eq_of_mul_eq_mul_left (prm_pos hp)
          rw [← Nat.mul_assoc p z c, ← hc, Nat.pow_succ, Nat.mul_comm (p ^ e), Nat.mul_left_comm]
        obtain ⟨j, hj, y, hy, he⟩ := ih h2 hz
        exact ⟨j + 1, by omega, y, hy, by rw [Nat.pow_succ, ← he]; simp only [Nat.mul_assoc, Nat.mul_comm, Nat.mul_left_comm]⟩
      · refine ⟨0, by omega, x, ?_, by simp⟩
        have hc : Nat.Coprime (p ^ (e + 1)) x := Nat.Coprime.pow_left _ (prm_cop hp hpx)
        exact (Nat.Coprime.symm hc).dvd_of_dvd_mul_right h
  · rintro ⟨j, hj, y, hy, rfl⟩
    exact Nat.mul_dvd_mul hy (Nat.pow_dvd_pow _ hj)
/-- A prefix of a factorization. -/
structure Pfx (pre : List (Nat × Nat)) : Prop where
  prm : ∀ q ∈ pre, Prm q.1 ∧ 1 ≤ q.2
  asc : pre.Pairwise fun a b => a.1 < b.1
theorem FacL.pfx {pre rest : List (Nat × Nat)} {n : Nat} (h : FacL (pre ++ rest) n) : Pfx pre := ⟨fun q hq => h.prm q (List.mem_append_left _ hq), (List.pairwise_append.1 h.asc).1⟩
theorem FacL.all {l : List (Nat × Nat)} {n : Nat} (h : FacL l n) : Pfx l := ⟨h.prm, h.asc⟩
theorem Pfx.facL {l : List (Nat × Nat)} (h : Pfx l) : FacL l (prodL l) := ⟨rfl, h.prm, h.asc⟩
theorem Pfx.init {l : List (Nat × Nat)} {q : Nat × Nat} (h : Pfx (l ++ [q])) : Pfx l := h.facL.pfx
theorem Pfx.lt {l : List (Nat × Nat)} {q : Nat × Nat} (h : Pfx (l ++ [q])) : ∀ a ∈ l, a.1 < q.1 := fun a ha => (List.pairwise_append.1 h.asc).2.2 a ha q (by simp)
theorem Pfx.last {l : List (Nat × Nat)} {q : Nat × Nat} (h : Pfx (l ++ [q])) : Prm q.1 ∧ 1 ≤ q.2 := h.prm q (by simp)
theorem Pfx.ndvd {l : List (Nat × Nat)} {q : Nat × Nat} (h : Pfx (l ++ [q])) : ¬ q.1 ∣ prodL l := fun hd => by
  obtain ⟨a, ha, he⟩ := prm_dvd_prodL h.last.1 h.init.prm hd
  have := h.lt a ha
  omega
theorem snoc_ind {P : List (Nat × Nat) → Prop} (h0 : P []) (hs : ∀ l q, P l → P (l ++ [q])) : ∀ l, P l := fun l => by
  have h : ∀ (rest pre : List (Nat × Nat)), P pre → P (pre ++ rest) := by
    intro rest
    induction rest with
    | nil => intro pre hp; rwa [List.append_nil]
    | cons q rest ih => intro pre hp; have := ih (pre ++ [q]) (hs pre q hp); rwa [List.append_assoc] at this
  exact h l [] h0
theorem prodL_snoc (l : List (Nat × Nat)) (q : Nat × Nat) : prodL (l ++ [q]) = prodL l * q.1 ^ q.2 := by rw [prodL_append]; simp [prodL]
theorem mem_dl : ∀ l, Pfx l → ∀ x, x ∈ dl l ↔ x ∣ prodL l := by
  apply snoc_ind
  · intro _ x; simp [dl_nil, prodL]
  · intro l q ih h x
    rw [dl_snoc, mem_dstep, prodL_snoc, dvd_mul_pow h.last.1 (prodL_pos h.init.prm)]
    constructor
    · rintro ⟨j, hj, y, hy, e⟩; exact ⟨j, hj, y, (ih h.init y).1 hy, e⟩
    · rintro ⟨j, hj, y, hy, e⟩; exact ⟨j, hj, y, (ih h.init y).2 hy, e⟩
theorem dl_nodup : ∀ l, Pfx l → (dl l).Nodup := by
  apply snoc_ind
  · intro _; simp [dl_nil]
  · intro l q ih h
    rw [dl_snoc]
    exact dstep_nodup (prm_pos h.last.1) (ih h.init) fun x hx hd => h.ndvd (Nat.dvd_trans hd ((mem_dl l h.init x).1 hx))
theorem nodup_len : ∀ {L : List Nat} {n : Nat}, L.Nodup → (∀ x ∈ L, 1 ≤ x ∧ x ≤ n) → L.length ≤ n := by
  intro L n hn hm
  have h1 := hn.length_le_of_subset (l₂ := List.range' 1 n) fun x hx => List.mem_range'_1.2 (by have := hm x hx; omega)
  simpa using h1
/-- Two lists that ascend strictly and have the same members are one. -/
theorem asc_ext : ∀ {L L' : List Nat}, L.Pairwise (· < ·) → L'.Pairwise (· < ·) → (∀ x, x ∈ L ↔ x ∈ L') → L = L'
  | [], [], _, _, _ => rfl
  | [], y :: L', _, _, h => by have := (h y).2 (by simp); simp at this
  | x :: L, [], _, _, h => by have := (h x).1 (by simp); simp at this
  | x :: L, y :: L', h1, h2, h => by
    have a1 := List.pairwise_cons.1 h1
    have a2 := List.pairwise_cons.1 h2
    have e : x = y := by
      rcases List.mem_cons.1 ((h x).1 (by simp)) with e | hx
      · exact e
      · rcases List.mem_cons.1 ((h y).2 (by simp)) with e | hy
        · exact e.symm
        · have := a1.1 y hy; have := a2.1 x hx; omega
    subst e
    rw [asc_ext a1.2 a2.2 fun z => ?_]
    constructor
    · intro hz
      rcases List.mem_cons.1 ((h z).1 (List.mem_cons_of_mem _ hz)) with e | hz'
      · have := a1.1 z hz; omega
      · exact hz'
    · intro hz
      rcases List.mem_cons.1 ((h z).2 (List.mem_cons_of_mem _ hz)) with e | hz'
      · have := a2.1 z hz; omega
      · exact hz'
/-! Sums over the divisors -/
def sumZ : List Int → Int
  | [] => 0
  | x :: l => x + sumZ l
theorem sumZ_append (l l' : List Int) : sumZ (l ++ l') = sumZ l + sumZ l' := by
  induction l with
  | nil => simp [sumZ]
  | cons x l ih => simp only [List.cons_append, sumZ, ih]; omega
theorem sumZ_perm {l l' : List Int} (h : l.Perm l') : sumZ l = sumZ l' := by
  induction h with
  | nil => rfl
  | cons x _ ih => simp only [sumZ, ih]
  | swap x y l => simp only [sumZ]; omega
  | trans _ _ h1 h2 => rw [h1, h2]
theorem sumZ_mul (c : Int) (l : List Int) : sumZ (l.map (· * c)) = sumZ l * c := by
  induction l with
  | nil => simp [sumZ]
  | cons x l ih => simp only [List.map_cons, sumZ, ih, Int.add_mul]
theorem sumZ_dstep (f : Nat → Int) (g : Nat → Int) (L : List Nat) (p : Nat) (h : ∀ x ∈ L, ∀ j, f (x * p ^ j) = f x * g j)  (e : Nat) : sumZ ((dstep L (p, e)).map f) = sumZ (L.map f) * sumZ ((List.range (e + 1)).map g) := by
    have hj : ∀ j, sumZ ((L.map (· * p ^ j)).map f) = sumZ (L.map f) * g j := fun j => by
      rw [← sumZ_mul, List.map_map, List.map_map]
      congr 1
      exact List.map_congr_left fun x hx => h x hx j
    induction e with
    | zero =>
      have := hj 0
      simp only [Nat.pow_zero, Nat.mul_one, List.map_id'] at this
      rw [dstep_zero]
      simpa [sumZ] using this
    | succ e ih =>
      rw [dstep_succ, List.map_append, sumZ_append, ih, hj, List.range_succ (n := e + 1), List.map_append, sumZ_append, Int.mul_add]
      simp [sumZ]
theorem fac_mul_pow {l : List (Nat × Nat)} {q : Nat × Nat} (h : Pfx (l ++ [q])) {x j : Nat} (hx : x ∣ prodL l) (hj : 1 ≤ j) : fac (x * q.1 ^ j) = fac x ++ [(q.1, j)] := by
  have hx0 : 0 < x := Nat.pos_of_dvd_of_pos hx (prodL_pos h.init.prm)
  have hf := fac_spec hx0
  symm
  apply FacL.eq_fac
  refine ⟨by rw [prodL_snoc, hf.prod], ?_, ?_⟩
  · intro a ha
    rcases List.mem_append.1 ha with ha | ha
    · exact hf.prm a ha
    · rw [List.mem_singleton.1 ha]; exact ⟨h.last.1, hj⟩
  · rw [List.pairwise_append]
    refine ⟨hf.asc, List.pairwise_singleton _ _, fun a ha b hb => ?_⟩
    rw [List.mem_singleton.1 hb]
    have h1 := hf.prm a ha
    obtain ⟨c, hc, he⟩ := prm_dvd_prodL h1.1 h.init.prm (Nat.dvd_trans (hf.mem_dvd1 ha) hx)
    have := h.lt c hc
    show a.1 < q.1
    omega
def muA : Int → List (Nat × Nat) → Int
  | s, [] => s
  | s, q :: l => if 1 < q.2 then 0 else muA (-s) l
theorem muA_snoc (q : Nat × Nat) : ∀ (l : List (Nat × Nat)) (s : Int), muA s (l ++ [q]) = if 1 < q.2 then 0 else - muA s l
  | [], s => by simp [muA]
  | a :: l, s => by
    simp only [List.cons_append, muA]
    by_cases h : 1 < a.2
    · rw [if_pos h, if_pos h]; simp
    · rw [if_neg h, if_neg h, muA_snoc q l]
noncomputable def moeb (n : Nat) : Int := muA 1 (fac n)
theorem mu_bound (n : Nat) : -1 ≤ moeb n ∧ moeb n ≤ 1 := by
  have h : ∀ (l : List (Nat × Nat)) (s : Int), -1 ≤ s → s ≤ 1 → -1 ≤ muA s l ∧ muA s l ≤ 1 := by
    intro l
    induction l with
    | nil => intro s h1 h2; exact ⟨h1, h2⟩
    | cons q l ih =>
      intro s h1 h2
      unfold muA
      by_cases h : 1 < q.2
      · rw [if_pos h]; omega
      · rw [if_neg h]; exact ih _ (by omega) (by omega)
  exact h _ 1 (by omega) (by omega)
theorem phi_mul_pow {l : List (Nat × Nat)} {q : Nat × Nat} (h : Pfx (l ++ [q])) {x j : Nat} (hx : x ∣ prodL l) (hj : 1 ≤ j) : phi (x * q.1 ^ j) = phi x * (q.1 ^ (j - 1) * (q.1 - 1)) := by
  unfold phi
  rw [fac_mul_pow h hx hj, phiL_append]
  simp [phiL]
theorem mu_mul_pow {l : List (Nat × Nat)} {q : Nat × Nat} (h : Pfx (l ++ [q])) {x j : Nat} (hx : x ∣ prodL l) (hj : 1 ≤ j) : moeb (x * q.1 ^ j) = if 1 < j then 0 else - moeb x := by
  unfold moeb
  rw [fac_mul_pow h hx hj, muA_snoc]
def gphi (p j : Nat) : Int := if j = 0 then 1 else ((p ^ (j - 1) * (p - 1) : Nat) : Int)
def gmu (j : Nat) : Int := if j = 0 then 1 else if 1 < j then 0 else -1
theorem sum_gphi (p : Nat) (hp : 1 ≤ p) : ∀ e, sumZ ((List.range (e + 1)).map (gphi p)) = ((p ^ e : Nat) : Int)
  | 0 => by simp [sumZ, gphi]
  | e + 1 => by
    rw [List.range_succ (n := e + 1), List.map_append, sumZ_append, sum_gphi p hp e]
    simp only [List.map_cons, List.map_nil, sumZ, gphi, if_neg (Nat.succ_ne_zero e), Nat.add_sub_cancel, Int.add_zero]
    rw [← Int.natCast_add]
    congr 1
    rw [Nat.pow_succ, Nat.mul_sub, Nat.mul_one]
    have : p ^ e * 1 ≤ p ^ e * p := Nat.mul_le_mul_left _ hp
    omega
theorem sum_gmu : ∀ e, 1 ≤ e → sumZ ((List.range (e + 1)).map gmu) = 0
  | 0, h => by omega
  | 1, _ => by simp [sumZ, gmu, List.range_succ]
  | e + 2, _ => by
    rw [List.range_succ (n := e + 2), List.map_append, sumZ_append, sum_gmu (e + 1) (by omega)]
    simp [sumZ, gmu]
theorem sum_phi : ∀ l, Pfx l → sumZ ((dl l).map fun x => (phi x : Int)) = (prodL l : Int) := by
  apply snoc_ind
  · intro _
    simp [dl_nil, sumZ, prodL, phi, fac_one, phiL]
  · intro l q ih h
    rw [dl_snoc, show q = (q.1, q.2) from rfl, sumZ_dstep _ (gphi q.1) _ _ (fun x hx j => ?_), ih h.init, sum_gphi _ (prm_pos h.last.1), prodL_snoc, Int.natCast_mul]
    unfold gphi
    by_cases hj : j = 0
    · subst hj; simp
    · rw [if_neg hj, phi_mul_pow h ((mem_dl l h.init x).1 hx) (by omega), Int.natCast_mul]
theorem sum_mu : ∀ l, Pfx l → sumZ ((dl l).map moeb) = if l = [] then 1 else 0 := by
  apply snoc_ind
  · intro _
    simp [dl_nil, sumZ, moeb, fac_one, muA]
  · intro l q ih h
    rw [dl_snoc, show q = (q.1, q.2) from rfl, sumZ_dstep _ gmu _ _ (fun x hx j => ?_), sum_gmu _ h.last.2, if_neg (by simp), Int.mul_zero]
    unfold gmu
    by_cases hj : j = 0
    · subst hj; simp
    · rw [if_neg hj, mu_mul_pow h ((mem_dl l h.init x).1 hx) (by omega)]
      by_cases h1 : 1 < j
      · rw [if_pos h1, if_pos h1]; simp
      · rw [if_neg h1, if_neg h1, Int.mul_neg, Int.mul_one]
/-- The divisors of n, ascending. -/
noncomputable def divs (n : Nat) : List Nat := (dl (fac n)).mergeSort fun a b => decide (a ≤ b)
theorem divs_perm (n : Nat) : (divs n).Perm (dl (fac n)) := List.mergeSort_perm _ _
theorem mem_divs {n x : Nat} (h : 0 < n) : x ∈ divs n ↔ x ∣ n := by
  rw [(divs_perm n).mem_iff, mem_dl _ (fac_spec h).all, (fac_spec h).prod]
theorem divs_asc {n : Nat} (h : 0 < n) : (divs n).Pairwise (· < ·) := by
  have h1 : (divs n).Pairwise fun a b => decide (a ≤ b) = true := List.pairwise_mergeSort (fun a b c => by simpa using Nat.le_trans) (fun a b => by simpa using Nat.le_total a b) _
  have h2 : (divs n).Nodup := (divs_perm n).nodup_iff.2 (dl_nodup _ (fac_spec h).all)
  rw [List.nodup_iff_pairwise_ne] at h2
  refine (h1.and h2).imp fun {a b} hab => ?_
  have := of_decide_eq_true hab.1
  have := hab.2
  omega
theorem divs_len {n : Nat} (h : 0 < n) : (divs n).length ≤ n := nodup_len ((divs_asc h).imp fun {a b} hab => by omega) fun x hx => ⟨Nat.pos_of_dvd_of_pos ((mem_divs h).1 hx) h, Nat.le_of_dvd h ((mem_divs h).1 hx)⟩
theorem divs_phi {n : Nat} (h : 0 < n) : sumZ ((divs n).map fun x => (phi x : Int)) = (n : Int) := by
  rw [sumZ_perm ((divs_perm n).map _), sum_phi _ (fac_spec h).all, (fac_spec h).prod]
theorem divs_mu {n : Nat} (h : 0 < n) : sumZ ((divs n).map moeb) = if n = 1 then 1 else 0 := by
  rw [sumZ_perm ((divs_perm n).map _), sum_mu _ (fac_spec h).all]
  by_cases h1 : n = 1
  · subst h1; simp [fac_one]
  · rw [if_neg h1, if_neg]
    intro h2
    have := (fac_spec h).prod
    rw [h2] at this
    exact h1 (by simpa [prodL] using this.symm)
end Go.Proofs.Ytmedflaejnbkoaa.M

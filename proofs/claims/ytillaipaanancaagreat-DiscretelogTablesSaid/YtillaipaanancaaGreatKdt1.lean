/- Machine side and arithmetic of the law, put together by a program of the session. No conditions. -/
import Derived.Test.YtillaipaanancaaGreatKdt0
section
namespace Go.Proofs.YtillaipaanancaaGreat.M
open ZX
set_option linter.unusedVariables false
set_option linter.unusedSimpArgs false
theorem P_set : ∀ (l : List Int) (i : Nat) (v : Int), i < l.length → P (l.set i v) = P l + X ^ i * C (v - l.getD i 0)
 | [], i, v, h => by simp at h
 | c :: l, 0, v, h => by
  rw [List.set_cons_zero, P_cons, P_cons, List.getD_cons_zero]
  exact ZX.zr
 | c :: l, i + 1, v, h => by
  have ih := P_set l i v (by simpa using h)
  rw [List.set_cons_succ, P_cons, P_cons, List.getD_cons_succ, ih]
  exact ZX.zr
theorem P_take_succ (l : List Int) (i : Nat) (h : i < l.length) : P (l.take (i + 1)) = P (l.take i) + X ^ i * C (l.getD i 0) := by
 rw [List.take_succ_eq_append_getElem h, P_snoc, List.length_take, Nat.min_eq_left (by omega), List.getD_eq_getElem?_getD, List.getElem?_eq_getElem h, Option.getD_some]
theorem getD_set (l : List Int) (i j : Nat) (v : Int) (h : i < l.length) : (l.set i v).getD j 0 = if i = j then v else l.getD j 0 := by
 rw [List.getD_eq_getElem?_getD, List.getD_eq_getElem?_getD, List.getElem?_set]
 split
 ·rename_i e; subst e; simp [h]
 ·rfl
theorem getD_take (l : List Int) (n j : Nat) : (l.take n).getD j 0 = if j < n then l.getD j 0 else 0 := by
 rw [List.getD_eq_getElem?_getD, List.getD_eq_getElem?_getD, List.getElem?_take]
 split <;> rfl
theorem getD_zeros (n j : Nat) : (List.replicate n (0 : Int)).getD j 0 = 0 := by
 rw [List.getD_eq_getElem?_getD, List.getElem?_replicate]
 split <;> rfl
theorem cg_of_getD {p : Nat} {f : ZX} {l m : List Int} (h : ∀ i, (p : Int) ∣ l.getD i 0 - m.getD i 0) : Cg p f (P l) (P m) := by
 have e : P l - P m = P (ladd l (m.map ((-1) * ·))) := by
  rw [P_ladd, P_scale]
  exact ZX.zr
 show In p f (P l - P m)
 rw [e]
 refine In.mono (in_zero_iff.2 fun i => ?_)
 rw [getD_ladd]
 have h5 : (m.map ((-1) * ·)).getD i 0 = - m.getD i 0 := by
  rw [List.getD_eq_getElem?_getD, List.getD_eq_getElem?_getD, List.getElem?_map]
  cases m[i]? with
  | none => rfl
  | some v => show -1 * v = - v; omega
 rw [h5, ← Int.sub_eq_add_neg]
 exact h i
theorem hv_none : ∀ (l : List Int), (∀ i, l.getD i 0 = 0) → ∀ x, hv l x = 0
 | [], _, x => rfl
 | c :: l, h, x => by
  have h0 := h 0
  rw [List.getD_cons_zero] at h0
  show c + x * hv l x = 0
  rw [hv_none l (fun i => by have := h (i + 1); rwa [List.getD_cons_succ] at this) x, h0]
  simp
theorem P_of_getD {l m : List Int} (h : ∀ i, l.getD i 0 = m.getD i 0) : P l = P m := by
 refine ZX.ext fun x => ?_
 have h2 := hv_none (ladd l (m.map ((-1) * ·))) (fun i => by
  rw [getD_ladd, h i]
  have h5 : (m.map ((-1) * ·)).getD i 0 = - m.getD i 0 := by
   rw [List.getD_eq_getElem?_getD, List.getD_eq_getElem?_getD, List.getElem?_map]
   cases m[i]? with
   | none => rfl
   | some v => show -1 * v = - v; omega
  rw [h5]; omega) x
 rw [hv_ladd, hv_scale] at h2
 show hv l x = hv m x
 omega
theorem tr_snoc_zero : ∀ l : List Int, tr (l ++ [0]) = tr l
 | [] => by simp [tr]
 | c :: l => by
  have ih := tr_snoc_zero l
  rw [List.cons_append, tr, tr, ih]
theorem tr_snoc_ne (l : List Int) {c : Int} (h : c ≠ 0) : tr (l ++ [c]) = l ++ [c] := tr_of_nz (.inr (by simpa using h))
theorem tr_short {l : List Int} {n : Nat} (h : ∀ j, n ≤ j → l.getD j 0 = 0) : (tr l).length ≤ n := by
 rw [← Nat.not_lt]
 intro hc
 rcases tr_nz l with e | e
 ·rw [e] at hc; simp at hc
 ·have h1 : (tr l).getD ((tr l).length - 1) 0 = l.getD ((tr l).length - 1) 0 := P_getD (P_tr l) _
  rw [h1, h _ (by omega)] at e
  exact e rfl
theorem tr_nl {p : Nat} {l : List Int} (h : ∀ j, j < l.length → 0 ≤ l.getD j 0 ∧ l.getD j 0 < p) : NL p (tr l) := NL.tr fun c hc => by
 obtain ⟨i, hi, rfl⟩ := List.mem_iff_getElem.1 hc
 have := h i hi
 rwa [List.getD_eq_getElem?_getD, List.getElem?_eq_getElem hi, Option.getD_some] at this
open Classical in
noncomputable def nf (p : Nat) (a : ZX) : List Int := if h : ∃ l, NL p l ∧ Cg p 0 (P l) a then h.choose else []
open Classical in
noncomputable def rm (p : Nat) (g : List Int) (a : ZX) : List Int := if h : ∃ r, NL p r ∧ r.length < g.length ∧ Cg p (P g) (P r) a then h.choose else []
theorem nf_spec {p : Nat} (hp : 0 < p) (a : ZX) : NL p (nf p a) ∧ Cg p 0 (P (nf p a)) a := by
 unfold nf
 rw [dif_pos (exists_nl hp a)]
 exact (exists_nl hp a).choose_spec
theorem nf_eq {p : Nat} (hp : 0 < p) {l : List Int} {a : ZX} (h : NL p l) (h2 : Cg p 0 (P l) a) : l = nf p a := nl_unique hp h (nf_spec hp a).1 (h2.trans (nf_spec hp a).2.symm)
theorem nf_cg {p : Nat} (hp : 0 < p) {a b : ZX} (h : Cg p 0 a b) : nf p a = nf p b := nf_eq hp (nf_spec hp a).1 ((nf_spec hp a).2.trans h)
theorem nf_len {p n : Nat} (hp : 0 < p) {l : List Int} (h : l.length ≤ n) : (nf p (P l)).length ≤ n := by
 have : nrm p l = nf p (P l) := nf_eq hp (nrm_nl hp l) (nrm_cg p 0 l)
 rw [← this]
 have := nrm_len p l
 omega
theorem nf_dg {p n : Nat} (hp : 0 < p) {a : ZX} (h : Dg n a) : (nf p a).length ≤ n := by
 obtain ⟨l, h1, rfl⟩ := h
 exact nf_len hp h1
theorem rm_spec {p : Nat} (hp : Prm p) {g : List Int} (hg : NL p g) (hne : g ≠ []) (a : ZX) : NL p (rm p g a) ∧ (rm p g a).length < g.length ∧ Cg p (P g) (P (rm p g a)) a := by
 unfold rm
 rw [dif_pos (exists_nf hp hg hne a)]
 exact (exists_nf hp hg hne a).choose_spec
theorem rm_eq {p : Nat} (hp : Prm p) {g : List Int} (hg : NL p g) (hne : g ≠ []) {r : List Int} {a : ZX} (h : NL p r) (h1 : r.length < g.length) (h2 : Cg p (P g) (P r) a) : r = rm p g a :=
 nf_unique hp hg hne h (rm_spec hp hg hne a).1 h1 (rm_spec hp hg hne a).2.1 (h2.trans (rm_spec hp hg hne a).2.2.symm)
theorem rm_cg {p : Nat} (hp : Prm p) {g : List Int} (hg : NL p g) (hne : g ≠ []) {a b : ZX} (h : Cg p (P g) a b) : rm p g a = rm p g b :=
 rm_eq hp hg hne (rm_spec hp hg hne a).1 (rm_spec hp hg hne a).2.1 ((rm_spec hp hg hne a).2.2.trans h)
theorem NL.lead {p : Nat} (hp : Prm p) {g : List Int} (hg : NL p g) (hne : g ≠ []) : 0 < g.getD (g.length - 1) 0 ∧ g.getD (g.length - 1) 0 < p := by
 have h1 := hg.getD (prm_pos hp) (g.length - 1)
 rcases hg.2 with e | e
 ·exact absurd e hne
 ·omega
def Res (p : Nat) (l : List Int) : Prop := ∀ i, 0 ≤ l.getD i 0 ∧ l.getD i 0 < p
theorem NL.res {p : Nat} (hp : 0 < p) {l : List Int} (h : NL p l) : Res p l := fun i => h.getD hp i
theorem Res.zeros {p : Nat} (hp : 0 < p) (n : Nat) : Res p (List.replicate n 0) := fun i => by rw [getD_zeros]; omega
theorem Res.set {p : Nat} {l : List Int} (h : Res p l) {i : Nat} {v : Int} (hi : i < l.length) (h0 : 0 ≤ v) (h1 : v < p) : Res p (l.set i v) := fun j => by
 rw [getD_set _ _ _ _ hi]
 split
 ·exact ⟨h0, h1⟩
 ·exact h j
theorem Res.take {p : Nat} (hp : 0 < p) {l : List Int} (h : Res p l) (n : Nat) : Res p (l.take n) := fun j => by
 rw [getD_take]
 split
 ·exact h j
 ·omega
theorem Res.tr {p : Nat} {l : List Int} (h : Res p l) : NL p (tr l) := tr_nl fun j _ => h j
theorem Cg.num {p : Nat} {f : ZX} {s t : Int} (h : (p : Int) ∣ s - t) : Cg p f (C s) (C t) := by
 show In p f (C s - C t)
 rw [show C s - C t = C (s - t) from ZX.zr]
 exact In.cst h
theorem emod_dvd (p : Nat) (x : Int) : (p : Int) ∣ x % p - x := by
 have h := Int.mul_ediv_add_emod x p
 exact ⟨- (x / p), by rw [Int.mul_neg]; omega⟩
theorem mul_step {p : Nat} {a b l : List Int} {i j : Nat} (hj : j < b.length) (hi : i + j < l.length) (h : Cg p 0 (P l) (P (a.take i) * P b + X ^ i * (C (a.getD i 0) * P (b.take j)))) :
  Cg p 0 (P (l.set (i + j) ((l.getD (i + j) 0 + a.getD i 0 * b.getD j 0) % p))) (P (a.take i) * P b + X ^ i * (C (a.getD i 0) * P (b.take (j + 1)))) := by
 rw [P_set _ _ _ hi, P_take_succ _ _ hj]
 have h1 : Cg p 0 (C ((l.getD (i + j) 0 + a.getD i 0 * b.getD j 0) % p - l.getD (i + j) 0)) (C (a.getD i 0 * b.getD j 0)) := Cg.num (by
  have := emod_dvd p (l.getD (i + j) 0 + a.getD i 0 * b.getD j 0)
  rwa [show ∀ v x y : Int, v - x - y = v - (x + y) from fun v x y => by omega])
 refine (h.add ((Cg.refl (X ^ (i + j))).mul h1)).trans (Cg.of_eq ?_)
 rw [ZX.pow_add]
 exact ZX.zr
theorem mul_next {p : Nat} {a b l : List Int} {i : Nat} (hi : i < a.length) (h : Cg p 0 (P l) (P (a.take i) * P b + X ^ i * (C (a.getD i 0) * P (b.take b.length)))) : Cg p 0 (P l) (P (a.take (i + 1)) * P b) := by
 rw [List.take_length] at h
 rw [P_take_succ _ _ hi]
 exact h.trans (Cg.of_eq ZX.zr)
structure DivI (p : Nat) (a g q r : List Int) (t : Nat) : Prop where
 lenr : r.length = a.length
 lenq : q.length + g.length = a.length + 1
 resq : Res p q
 resr : Res p r
 zq : ∀ i, i < t → q.getD i 0 = 0
 zr : ∀ i, t + g.length ≤ i + 1 → r.getD i 0 = 0
 cg : Cg p 0 (P a) (P g * P q + P r)
structure DivJ (p : Nat) (g r0 r : List Int) (s : Nat) (c : Int) (j : Nat) : Prop where
 len : r.length = r0.length
 res : Res p r
 same : ∀ i, s + j ≤ i → r.getD i 0 = r0.getD i 0
 top : j = g.length → r.getD (s + g.length - 1) 0 = 0
 cg : Cg p 0 (P r) (P r0 - X ^ s * (C c * P (g.take j)))
theorem DivI.start {p : Nat} (hp : 0 < p) {a g : List Int} (ha : NL p a) (hg : 0 < g.length) (h : g.length ≤ a.length) : DivI p a g (List.replicate (a.length - g.length + 1) 0) a (a.length - g.length + 1) where
 lenr := rfl
 lenq := by rw [List.length_replicate]; omega
 resq := Res.zeros hp _
 resr := ha.res hp
 zq := fun i _ => getD_zeros _ _
 zr := fun i hi => getD_of_len (by omega)
 cg := by
  rw [P_zeros]
  exact Cg.of_eq ZX.zr
theorem DivJ.start {p : Nat} {g r0 : List Int} (s : Nat) (c : Int) (hg : 0 < g.length) (h : Res p r0) : DivJ p g r0 r0 s c 0 where
 len := rfl
 res := h
 same := fun _ _ => rfl
 top := fun h => by omega
 cg := Cg.of_eq (by rw [List.take_zero, P_nil]; exact ZX.zr)
theorem DivJ.step {p : Nat} (hp : 0 < p) {g r0 r : List Int} {s j : Nat} {c : Int} (h : DivJ p g r0 r s c j) (hj : j < g.length) (hs : s + j < r0.length) (hc : (p : Int) ∣ r0.getD (s + g.length - 1) 0 - c * g.getD (g.length - 1) 0) :
  DivJ p g r0 (r.set (s + j) ((r.getD (s + j) 0 - c * g.getD j 0) % p)) s c (j + 1) where
 len := by rw [List.length_set]; exact h.len
 res := h.res.set (by rw [h.len]; exact hs) (Int.emod_nonneg _ (by omega)) (Int.emod_lt_of_pos _ (by omega))
 same := fun i hi => by
  rw [getD_set _ _ _ _ (by rw [h.len]; exact hs), if_neg (by omega)]
  exact h.same i (by omega)
 top := fun e => by
  have e1 : s + g.length - 1 = s + j := by omega
  have e2 : g.length - 1 = j := by omega
  rw [getD_set _ _ _ _ (by rw [h.len]; exact hs), if_pos (by omega), h.same _ (Nat.le_refl _)]
  rw [e1, e2] at hc
  exact Int.emod_eq_zero_of_dvd hc
 cg := by
  rw [P_set _ _ _ (by rw [h.len]; exact hs), P_take_succ _ _ hj]
  have h1 : Cg p 0 (C ((r.getD (s + j) 0 - c * g.getD j 0) % p - r.getD (s + j) 0)) (C (- (c * g.getD j 0))) := Cg.num (by
   have := emod_dvd p (r.getD (s + j) 0 - c * g.getD j 0)
   rwa [show ∀ v x y : Int, v - x - -y = v - (x - y) from fun v x y => by omega])
  refine (h.cg.add ((Cg.refl (X ^ (s + j))).mul h1)).trans (Cg.of_eq ?_)
  rw [ZX.pow_add]
  exact ZX.zr
theorem DivI.next {p : Nat} (hp : 0 < p) {a g q r r' : List Int} {s : Nat} {c : Int} (h : DivI p a g q r (s + 1)) (hg : 0 < g.length) (hs : s < q.length) (h0 : 0 ≤ c) (h1 : c < p) (k : DivJ p g r r' s c g.length) : DivI p a g (q.set s c) r' s where
 lenr := k.len.trans h.lenr
 lenq := by rw [List.length_set]; exact h.lenq
 resq := h.resq.set hs h0 h1
 resr := k.res
 zq := fun i hi => by
  rw [getD_set _ _ _ _ hs, if_neg (by omega)]
  exact h.zq i (by omega)
 zr := fun i hi => by
  rcases Nat.lt_or_ge i (s + g.length) with h2 | h2
  ·have e : i = s + g.length - 1 := by omega
   rw [e]
   exact k.top rfl
  ·rw [k.same i h2]
   exact h.zr i (by omega)
 cg := by
  have e := k.cg
  rw [List.take_length] at e
  rw [P_set _ _ _ hs, h.zq s (by omega)]
  refine h.cg.trans (Cg.symm ?_)
  refine ((Cg.refl (P g * (P q + X ^ s * C (c - 0)))).add e).trans (Cg.of_eq ZX.zr)
theorem top_inv {p : Nat} {x c i l : Int} (hc : c = x * i % p) (hi : (p : Int) ∣ i * l - 1) : (p : Int) ∣ x - c * l := by
 have h1 := emod_dvd p (x * i)
 rw [← hc] at h1
 obtain ⟨u, hu⟩ := hi
 obtain ⟨v, hv⟩ := h1
 exact ⟨- (x * u) - v * l, by
  have e : x - c * l = - (x * (i * l - 1)) - (c - x * i) * l := by grind
  rw [e, hu, hv]
  grind⟩
def DivR (p : Nat) (a g : List Int) (o : List Int × List Int) : Prop := NL p o.1 ∧ NL p o.2 ∧ o.2.length < g.length ∧ o.1.length ≤ a.length ∧ Cg p 0 (P a) (P g * P o.1 + P o.2)
theorem DivI.done {p : Nat} (hp : 0 < p) {a g q r : List Int} (hg : 0 < g.length) (h : DivI p a g q r 0) : DivR p a g (tr q, tr r) := by
 have h1 := tr_len q
 have h2 := h.lenq
 have h3 := tr_short (l := r) (n := g.length - 1) fun j hj => h.zr j (by omega)
 refine ⟨h.resq.tr, h.resr.tr, by show (tr r).length < g.length; omega, by show (tr q).length ≤ a.length; omega, ?_⟩
 show Cg p 0 (P a) (P g * P (tr q) + P (tr r))
 rw [P_tr, P_tr]
 exact h.cg
theorem DivI.cut {p : Nat} {a g q r : List Int} (hg : 0 < g.length) (h : DivI p a g q r 0) : tr (r.take (g.length - 1)) = tr r := by
 have e : ∀ i, (r.take (g.length - 1)).getD i 0 = r.getD i 0 := fun i => by
  rw [getD_take]
  split
  ·rfl
  ·exact (h.zr i (by omega)).symm
 have h1 : NL p (tr (r.take (g.length - 1))) := Res.tr fun i => by rw [e]; exact h.resr i
 exact nl_unique (by have := h.resr 0; omega) h1 h.resr.tr (Cg.of_eq (by rw [P_tr, P_tr, P_of_getD e]))
theorem DivR.short {p : Nat} {a g : List Int} (ha : NL p a) (h : a.length < g.length) : DivR p a g ([], a) := ⟨NL.nil, ha, h, by simp, by
 show Cg p 0 (P a) (P g * P [] + P a)
 rw [P_nil]
 exact Cg.of_eq ZX.zr⟩
theorem DivR.rm {p : Nat} (hp : Prm p) {a g : List Int} (hg : NL p g) {o : List Int × List Int} (h : DivR p a g o) : o.2 = rm p g (P a) := by
 obtain ⟨h1, h2, h3, _, h4⟩ := h
 refine rm_eq hp hg (by intro e; rw [e] at h3; simp at h3) h2 h3 (Cg.symm (h4.mono.trans ?_))
 have : Cg p (P g) (P g * P o.1) 0 := Cg.of_in (In.self.mul _)
 exact (this.add (Cg.refl _)).trans (Cg.of_eq ZX.zr)
end Go.Proofs.YtillaipaanancaaGreat.M
end

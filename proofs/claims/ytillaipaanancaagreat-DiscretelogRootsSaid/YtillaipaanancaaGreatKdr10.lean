/- Machine side and arithmetic of the law, put together by a program of the session. No conditions. -/
import Derived.Test.YtillaipaanancaaGreatKdr9
section
namespace Go.TT
open Go.RowKit
set_option linter.unusedVariables false
set_option linter.unusedSimpArgs false
section
variable {P : Program} {TE : TypeId → Option Ty} {n0 : Nat → Prop} {w0 : World} {S0 : Nat → Prop} {N nx : Nat} {ops : Array Oper} {K : KF}
def FkR (nx n : Nat) (R : List Nat) : Nat → Prop := fun k => (nx ≤ k ∧ k % 2 = 0) ∧ ∀ i, i < n → i ∉ R → ¬ (nx + 8 * i ≤ k ∧ k < nx + 8 * i + 8)
theorem wpAny_draw (hev : nx % 2 = 0) (hTE : ∀ e t, TE e = some t → TyOk P t e) (hord : ordOK ops = true) {Q : Exit → Act → World → Prop} {r : Option Nat} {n : Nat} {U : Act → Prop} (hU : ∀ o ∈ ops.toList, ∀ a v, U a → U (a.put o.dst v)) (hQ : ∀ a' w', Step n0 w0 S0 N (Fe (nx + 8 * ops.size)) K a' w' → U a' → Q .normal a' w') :
  ∀ (m : Nat) (R : List Nat) (listed : Array Bool) (f : FS) (a : Act) (w : World) (S : Nat → Prop) (V : Nat → Value), R.length = m → R.Pairwise (· < ·) → listed.size = ops.size → (∀ i, i ∈ R ↔ (i < ops.size ∧ listed.getD i true = false)) → Closed ops listed →
   RelC n0 w0 S0 N (FkR nx ops.size R) f a w S V → Runs P TE N ops nx R f K → U a → wpAnyIn (rnd r) n P .any ops Q m listed a w := by
 intro m
 induction m with
 | zero =>
  intro R listed f a w S V hl hp hs hm hc hr hrun hu
  have hR : R = [] := List.eq_nil_of_length_eq_zero hl
  subst hR
  refine ⟨?_, hQ a w ⟨f, S, V, hrun, hr.keys fun k hk => ⟨⟨by have := hk.1; omega, hk.2⟩, fun i hi _ => by have := hk.1; omega⟩⟩ hu⟩
  apply List.eq_nil_iff_forall_not_mem.2
  intro j hj
  obtain ⟨h1, o, h2, _⟩ := mem_ready.1 hj
  have := (hm j).2 ⟨(Array.getElem?_eq_some_iff.1 h2).1, h1⟩
  cases this
 | succ m ih =>
  intro R listed f a w S V hl hp hs hm hc hr hrun hu
  have hnd : R.Nodup := hp.imp (fun h => Nat.ne_of_lt h)
  have hlist : ∀ j, j < ops.size → j ∉ R → listed.getD j false = true := fun j hj hn => by
   have h1 : listed.getD j true = true := by
    rcases h' : listed.getD j true with _ | _
    ·exact absurd ((hm j).2 ⟨hj, h'⟩) hn
    ·rfl
   have hj' : j < listed.size := by omega
   simp only [Array.getD, hj', dif_pos] at h1 ⊢
   exact h1
  refine ⟨fun hnil => ?_, fun i hi => ?_⟩
  ·exfalso
   match R, hl with
   | i :: R', _ =>
    have hi := (hm i).1 List.mem_cons_self
    obtain ⟨o, ho⟩ : ∃ o, ops[i]? = some o := ⟨_, Array.getElem?_eq_getElem hi.1⟩
    have : i ∈ Region.ready .any ops listed := mem_ready.2 ⟨hi.2, o, ho, fun e he hb => by
     have h1 := (ordOK_out hord ho).1 e he hb
     refine hlist e.on (by omega) fun hmem => ?_
     rcases List.mem_cons.1 hmem with h2 | h2
     ·omega
     ·have := (List.pairwise_cons.1 hp).1 _ h2; omega⟩
    rw [hnil] at this; cases this
  ·obtain ⟨hi1, oi, hoi, hrdy⟩ := mem_ready.1 hi
   have hisz := (Array.getElem?_eq_some_iff.1 hoi).1
   have hiR : i ∈ R := (hm i).2 ⟨hisz, hi1⟩
   obtain ⟨pre, post, hRe⟩ := List.append_of_mem hiR
   have hpre : ∀ j ∈ pre, j < i := fun j hj => by
    rw [hRe] at hp
    exact (List.pairwise_append.1 hp).2.2 j hj i List.mem_cons_self
   have hni : i ∉ pre ++ post := by
    intro hmem
    rcases List.mem_append.1 hmem with h | h
    ·exact Nat.lt_irrefl _ (hpre i h)
    ·rw [hRe] at hp
     exact Nat.lt_irrefl _ ((List.pairwise_cons.1 (List.pairwise_append.1 hp).2.1).1 i h)
   have hconf : ∀ j ∈ pre, ∀ oj, ops[j]? = some oj → confl ops oj oi = false := fun j hj oj hoj => by
    rcases h' : confl ops oj oi with _ | _
    ·rfl
    ·have := hc.anc' ((ordOK_out hord hoi).2 j oj (hpre j hj) hoj h') (fun o ho e he hb => by
      rw [hoi] at ho; injection ho with ho; subst ho; exact hrdy e he hb)
     have hjR := (hm j).1 (by rw [hRe]; simp [hj])
     have hj' : j < listed.size := by omega
     have h2 := hjR.2
     simp only [Array.getD, hj', dif_pos] at h2 this
     rw [h2] at this; cases this
   have hkeys : ∀ n, n < 4 → FkR nx ops.size R (nx + 8 * i + 2 * n) := fun n hn => ⟨⟨by omega, by omega⟩, fun j hj hjR q => by
    have hne : j ≠ i := fun e => hjR (e ▸ hiR)
    have : i < j ∨ j < i := by omega
    rcases this with h | h <;> omega⟩
   have hless : ∀ k, FkR nx ops.size (pre ++ post) k → lessK (FkR nx ops.size R) (nx + 8 * i) k := fun k hk => ⟨⟨hk.1, fun j hj hjR => hk.2 j hj (fun h => hjR (by rw [hRe]; rcases List.mem_append.1 h with h | h <;> simp [h]))⟩, hk.2 i hisz hni⟩
   have hlen : (pre ++ post).length = m := by rw [hRe] at hl; simp at hl ⊢; omega
   have hpw : (pre ++ post).Pairwise (· < ·) := by
    rw [hRe] at hp
    have h1 := List.pairwise_append.1 hp
    exact List.pairwise_append.2 ⟨h1.1, (List.pairwise_cons.1 h1.2.1).2, fun x hx y hy => h1.2.2 x hx y (List.mem_cons_of_mem _ hy)⟩
   have hsz' : (listed.setIfInBounds i true).size = ops.size := by simpa using hs
   have hm' : ∀ j, j ∈ pre ++ post ↔ (j < ops.size ∧ (listed.setIfInBounds i true).getD j true = false) := fun j => by
    by_cases e : j = i
    ·subst e
     have hlt : j < listed.size := by omega
     constructor
     ·intro h; exact absurd h hni
     ·intro h; have h2 := h.2; simp [Array.getD, hlt] at h2
    ·rw [getD_set_ne true (Ne.symm e), ← hm j, hRe]
     simp [e]
   have hc' : Closed ops (listed.setIfInBounds i true) := fun j o hj ho e he hb => by
    apply getD_set_true
    by_cases q : j = i
    ·subst q; rw [hoi] at ho; injection ho with ho; subst ho; exact hrdy e he hb
    ·rw [getD_set_ne false (Ne.symm q)] at hj; exact hc j o hj ho e he hb
   have next : ∀ (f' : FS) (a' : Act) (w' : World) (S' : Nat → Prop) (V' : Nat → Value), RelC n0 w0 S0 N (FkR nx ops.size (pre ++ post)) f' a' w' S' V' → Runs P TE N ops nx (pre ++ post) f' K → U a' → wpAnyIn (rnd r) n P .any ops Q m (listed.setIfInBounds i true) a' w' :=
    fun f' a' w' S' V' h1 h2 h3 => ih (pre ++ post) _ f' a' w' S' V' hlen hpw hsz' hm' hc' h1 h2 h3
   have huo : ∀ v, U (a.put oi.dst v) := fun v => hU oi (Array.mem_toList_iff.2 (Array.mem_of_getElem? hoi)) a v hu
   unfold wpOpIn
   simp only [hoi]
   have hclean : Clean nx (pre ++ i :: post) f := fun j hj t k hk q => by
    rw [← hRe] at hj
    exact hr.fg t k hk (.inl ⟨⟨by omega, q.2.2⟩, fun j' hj' hjR' q' => by
     have hne : j' ≠ j := fun e => hjR' (e ▸ hj)
     have : j < j' ∨ j' < j := by omega
     rcases this with h | h <;> omega⟩)
   obtain ⟨o', ho', h2⟩ := runs_first hev hoi (hRe ▸ hnd) hclean hconf (hRe ▸ hrun)
   rw [hoi] at ho'; injection ho' with ho'; subst ho'
   rcases h2 with ⟨hb, p, obs, hf, hrun'⟩ | ⟨hb, h2⟩
   ·rcases hf.2.2.2 with ⟨hg, _⟩ | ⟨hg, e1, e2⟩
    ·rw [if_pos (gOk_wanted hr hg)]
     refine stp_ok hTE hr hkeys (stp_of_fre (K := fun f' => f' = f.add oi.dst p (nx + 8 * i) obs) hg hb hf rfl) (fun v w' ⟨f', S', V', hK, hr'⟩ => ?_) r n
     subst hK
     exact next _ _ _ _ _ (hr'.keys hless) hrun' (huo _)
    ·rw [if_neg (by rw [gOk_wanted hr hg]; simp)]
     subst e1 e2
     exact ⟨fun _ _ => trivial, next _ _ _ _ _ ((bot_put hr hf.1).keys fun k hk => (hless k hk).1) hrun' (huo _)⟩
   ·rcases h2 with ⟨hg, h3⟩ | ⟨hg, hd, h3⟩
    ·rw [if_pos (gOk_wanted hr hg)]
     refine stp_ok hTE hr hkeys h3 (fun v w' ⟨f', S', V', hK, hr'⟩ => ?_) r n
     exact next _ _ _ _ _ (hr'.keys hless) hK (huo _)
    ·rw [if_neg (by rw [gOk_wanted hr hg]; simp)]
     exact ⟨fun _ _ => trivial, next _ _ _ _ _ ((bot_put hr hd).keys fun k hk => (hless k hk).1) h3 (huo _)⟩
theorem region_draw (hev : nx % 2 = 0) (hTE : ∀ e t, TE e = some t → TyOk P t e) (hm : P.follows .mixedOrders = true) (hord : ordOK ops = true) {id : Nat} {f : FS} {a : Act} {w : World} {S : Nat → Prop} {V : Nat → Value} (h : RelC n0 w0 S0 N (Fe nx) f a w S V)
  (he : rgn P TE N true ops nx ops.toList f K) {Q : Exit → Act → World → Prop} {r : Option Nat} {n : Nat} {U : Act → Prop} (hu : U a) (hU : ∀ o ∈ ops.toList, ∀ a v, U a → U (a.put o.dst v)) (hQ : ∀ a' w', Step n0 w0 S0 N (Fe (nx + 8 * ops.size)) K a' w' → U a' → Q .normal a' w') : (Code.region id ops true).wpIn (rnd r) n P Q a w := by
 refine wpIn_region_any hm ?_
 have hruns := runs_of_rgn (nx := nx) ops.toList 0 f (fun k o e => by simpa using e) (by simpa using he)
 have hd : Below w.heap.size w w.drew := (Below.refl _ _).drew
 refine wpAny_draw (nx := nx) hev hTE hord hU hQ ops.size (List.range' 0 ops.toList.length) _ f a _ S V (by simp) List.pairwise_lt_range' (by simp) (fun i => ?_) (fun j o hj => ?_) ((h.grow hd).keys fun k hk => hk.1) hruns hu
 ·rw [List.mem_range'_1]
  simp only [Array.length_toList, Nat.zero_le, true_and, Nat.zero_add]
  constructor
  ·intro hi; exact ⟨hi, by simp [Array.getD, hi]⟩
  ·intro hi; exact hi.1
 ·exfalso
  revert hj
  simp only [Array.getD]
  split
  ·simp
  ·simp
end
end Go.TT
end

/- Machine side and arithmetic of the law, put together by a program of the session. No conditions. -/
import Derived.Maps.AppendAt
import Derived.Test.YtillaipaanancaaGreatKdr4
section
namespace Go.TT
open Go.RowKit
set_option linter.unusedVariables false
set_option linter.unusedSimpArgs false
def Ob.froze (o : Ob) : Ob := if o.t.row = true then { o with mu := false } else o
def FS.set (f : FS) (k : Nat) (o : Ob) : FS := ⟨f.g, upd f.o k (some o), f.h⟩
section rel
variable {n0 : Nat → Prop} {w0 : World} {S0 : Nat → Prop} {N : Nat} {Fk : Nat → Prop} {f : FS} {a : Act} {w w' : World} {S S' : Nat → Prop} {V V' : Nat → Value}
theorem froze_row {o : Ob} (h : o.t.row = true) : o.froze = { o with mu := false } := by unfold Ob.froze; rw [if_pos h]
theorem froze_t {o : Ob} : o.froze.t = o.t := by unfold Ob.froze; split <;> rfl
theorem froze_ln {o : Ob} : o.froze.ln = o.ln := by unfold Ob.froze; split <;> rfl
theorem sh_set {k : Nat} {o o' : Ob} (e : f.o k = some o) (hl : o'.ln = o.ln) (ht : o'.t = o.t) : ∀ j s, (f.set k o').sh j = some s → f.sh j = some s := by
 intro j s hs
 by_cases h : j = k
 ·subst h; simp [FS.sh, FS.set, upd] at hs; simp [FS.sh, e, ← hs, hl, ht]
 ·simpa [FS.sh, FS.set, upd, h] using hs
theorem own_row {w : World} {e : TypeId} {z b0 : Nat} {v : Value} {n : Nat} {cs : List Value} (h : w.ownsRow b0 e z v n cs) : ∃ A c, v = .slice A n c ∧ n ≤ c ∧ (A = none ∧ n = 0 ∧ cs = [] ∨ ∃ g, A = some ⟨g, 0, none⟩ ∧ ∀ j u, cs[j]? = some u → w.cell? ((⟨g, 0, none⟩ : Addr).add j) = some u) := by
 have h2 : ∀ {g : Nat}, v.ownBlock = some g → ∀ j u, cs[j]? = some u → w.cell? ((⟨g, 0, none⟩ : Addr).add j) = some u := fun hg => h.cells hg
 rcases h.2 with ⟨e1, e2⟩ | ⟨g, cap, cur, e1, _, _, e2, _⟩
 ·exact ⟨none, 0, by rw [e1, e2], by omega, .inl ⟨rfl, e2, List.eq_nil_of_length_eq_zero (by rw [h.1, e2]; simp)⟩⟩
 ·exact ⟨_, cap, e1, e2, .inr ⟨g, rfl, h2 (g := g) (by rw [e1]; rfl)⟩⟩
theorem RelC.frz (h : RelC n0 w0 S0 N Fk f a w S V) {k : Nat} {o : Ob} (e : f.o k = some o) (hr : o.t.row = true) :
  RelC n0 w0 S0 N Fk (f.set k { o with mu := false }) a w (fun b => S b ∨ (o.mu = true ∧ blk (V k) = some b)) V := by
 have hS : ∀ b, S b → S b ∨ (o.mu = true ∧ blk (V k) = some b) := fun b h => .inl h
 have ha : Ag S w w := fun _ _ => rfl
 have hoe : ∀ k', k' ≠ k → (f.set k { o with mu := false }).o k' = f.o k' := fun k' e => by simp [FS.set, upd, e]
 have hok : (f.set k { o with mu := false }).o k = some { o with mu := false } := by simp [FS.set, upd]
 have h1 := h.ob k o e
 refine ⟨h.bel, h.nle, Dfs_mono hS ha h.df, h.sz, fun i => PVr_mono (sh := f.sh) (V := V) hS ha (fun k' _ => ⟨sh_set (o' := { o with mu := false }) e rfl rfl k', rfl⟩) (h.sl i), fun k' o' e' => ?_, fun k1 k2 o1 o2 hne e1 e2 hm hm2 => ?_, fun k' o' e' hm b hb => ?_, fun k' o' e' hm b hb => ?_, fun b hb hn => ?_, fun b hb => ?_, fun k' hk' => ?_, h.fg, fun k' o' e' i hi => ?_, h.fe⟩
 ·by_cases hne : k' = k
  ·subst hne
   rw [hok] at e'; injection e' with e'; subst e'
   rw [OR_fz (o := { o with mu := false }) hr rfl]
   show Cs w _ (.sl o.e o.t) o.xs [V k']
   rcases hm : o.mu with _ | _
   ·rw [OR_fz hr hm] at h1
    exact Cs_mono (fun b h => .inl h) ha h1
   ·rw [OR_own hr hm] at h1
    obtain ⟨cs, h2, h3⟩ := h1
    obtain ⟨A, c, e1, e2, e3⟩ := own_row h2
    refine ⟨A, c, cs, by rw [e1], e2, Fl_Cs_mono (fun b h => .inl h) ha h3, ?_⟩
    rcases e3 with ⟨rfl, e4, e5⟩ | ⟨g, rfl, e4⟩
    ·exact .inl (List.eq_nil_of_length_eq_zero e4)
    ·exact .inr ⟨_, rfl, .inr ⟨rfl, by rw [e1]; rfl⟩, e4⟩
  ·rw [hoe k' hne] at e'
   exact OR_mono hS ha (fun _ _ _ => rfl) (fun _ _ => rfl) (h.ob k' o' e')
 ·have n1 : k1 ≠ k := fun q => by subst q; rw [hok] at e1; injection e1 with e1; subst e1; cases hm
  have n2 : k2 ≠ k := fun q => by subst q; rw [hok] at e2; injection e2 with e2; subst e2; cases hm2
  rw [hoe k1 n1] at e1
  rw [hoe k2 n2] at e2; exact h.ds k1 k2 o1 o2 hne e1 e2 hm hm2
 ·have n1 : k' ≠ k := fun q => by subst q; rw [hok] at e'; injection e' with e'; subst e'; cases hm
  rw [hoe k' n1] at e'
  rintro (hs | ⟨hm', hb'⟩)
  ·exact h.sp k' o' e' hm b hb hs
  ·exact h.ds k' k o' o n1 e' e hm hm' b hb hb'
 ·have n1 : k' ≠ k := fun q => by subst q; rw [hok] at e'; injection e' with e'; subst e'; cases hm
  rw [hoe k' n1] at e'
  exact h.ow k' o' e' hm b hb
 ·rcases hb with hb | ⟨hm, hb⟩
  ·exact h.old b hb hn
  ·exact absurd (h.ow k o e hm b hb).1 hn
 ·rcases hb with hb | ⟨hm, hb⟩
  ·exact h.lt b hb
  ·exact (h.ow k o e hm b hb).2
 ·by_cases hne : k' = k
  ·subst hne; rw [h.fr k' hk'] at e; cases e
  ·rw [hoe k' hne]; exact h.fr k' hk'
 ·by_cases hne : k' = k
  ·subst hne; rw [hok] at e'; injection e' with e'; subst e'
   rw [row_ids (o := { o with mu := false }) hr] at hi; cases hi
  ·rw [hoe k' hne] at e'; exact h.fi k' o' e' i hi
theorem RelC.ag_row (h : RelC n0 w0 S0 N Fk f a w S V) {k : Nat} {o : Ob} (e : f.o k = some o) (hm : o.mu = true) (hg : w.grownBy w' (blk (V k))) : Ag S w w' := by
 intro b hb
 refine hg.block b (h.lt b hb) ?_
 intro q
 exact h.sp k o e hm b q.symm hb
theorem RelC.bel_row (h : RelC n0 w0 S0 N Fk f a w S V) {k : Nat} {o : Ob} (e : f.o k = some o) (hm : o.mu = true) (hg : w.grownBy w' (blk (V k))) : Bel n0 w0 w' :=
 h.bel.trans ⟨hg.os, hg.tape, hg.output, hg.size, fun j hj hn => hg.block j hj fun q => hn (h.ow k o e hm j q.symm).1⟩
theorem RelC.wr (h : RelC n0 w0 S0 N Fk f a w S V) {k : Nat} {o o' : Ob} (e : f.o k = some o) (hm : o.mu = true) (hm' : o'.mu = true) (hl : o'.ln = o.ln) (ht : o'.t = o.t)
  (hg : w.grownBy w' (blk (V k))) (ho : OR w' S V o' (V k)) (hi : ∀ i ∈ idsOf o', ∃ j, j < f.h ∧ i = od j) : RelC n0 w0 S0 N Fk (f.set k o') a w' S V := by
 have ha := h.ag_row e hm hg
 have hoe : ∀ k', k' ≠ k → (f.set k o').o k' = f.o k' := fun k' e => by simp [FS.set, upd, e]
 have hok : (f.set k o').o k = some o' := by simp [FS.set, upd]
 refine ⟨h.bel_row e hm hg, h.nle, Dfs_mono (fun _ h => h) ha h.df, h.sz, fun i => PVr_mono (fun _ h => h) ha (fun k' _ => ⟨sh_set e hl ht k', rfl⟩) (h.sl i), fun k' o1 e' => ?_, fun k1 k2 o1 o2 hne e1 e2 hm1 hm2 => ?_, fun k' o1 e' hm1 => ?_, fun k' o1 e' hm1 b hb => ?_, h.old, fun b hb => Nat.lt_of_lt_of_le (h.lt b hb) hg.size, fun k' hk' => ?_, h.fg, fun k' o1 e' i hi' => ?_, h.fe⟩
 ·by_cases hne : k' = k
  ·subst hne; rw [hok] at e'; injection e' with e'; subst e'; exact ho
  ·rw [hoe k' hne] at e'
   exact OR_mono (fun _ h => h) ha (fun hm1 b hb => hg.block b (h.ow k' o1 e' hm1 b hb).2 fun q => h.ds k k' o o1 (Ne.symm hne) e e' hm hm1 b q.symm hb) (fun _ _ => rfl) (h.ob k' o1 e')
 ·by_cases n1 : k1 = k
  ·subst n1
   by_cases n2 : k2 = k1
   ·exact absurd n2.symm hne
   ·rw [hoe k2 n2] at e2; exact h.ds k1 k2 o o2 hne e e2 hm hm2
  ·rw [hoe k1 n1] at e1
   by_cases n2 : k2 = k
   ·subst n2; exact h.ds k1 k2 o1 o hne e1 e hm1 hm
   ·rw [hoe k2 n2] at e2; exact h.ds k1 k2 o1 o2 hne e1 e2 hm1 hm2
 ·by_cases n1 : k' = k
  ·subst n1; exact h.sp k' o e hm
  ·rw [hoe k' n1] at e'; exact h.sp k' o1 e' hm1
 ·by_cases n1 : k' = k
  ·subst n1; exact ⟨(h.ow k' o e hm b hb).1, Nat.lt_of_lt_of_le (h.ow k' o e hm b hb).2 hg.size⟩
  ·rw [hoe k' n1] at e'; exact ⟨(h.ow k' o1 e' hm1 b hb).1, Nat.lt_of_lt_of_le (h.ow k' o1 e' hm1 b hb).2 hg.size⟩
 ·by_cases hne : k' = k
  ·subst hne; rw [h.fr k' hk'] at e; cases e
  ·rw [hoe k' hne]; exact h.fr k' hk'
 ·by_cases hne : k' = k
  ·subst hne; rw [hok] at e'; injection e' with e'; subst e'; exact hi i hi'
  ·rw [hoe k' hne] at e'; exact h.fi k' o1 e' i hi'
theorem RelC.app (h : RelC n0 w0 S0 N Fk f a w S V) {k k2 : Nat} {o o' : Ob} {v' : Value} (e : f.o k = some o) (hm : o.mu = true) (hm' : o'.mu = true) (hk : Fk k2)
  (hg : w.grownBy w' (blk (V k))) (ho : OR w' S V o' v') (hi : ∀ i ∈ idsOf o', ∃ j, j < f.h ∧ i = od j) (hv : blk v' = blk (V k) ∨ blk v' = some w.heap.size) :
  RelC n0 w0 S0 N (fun j => Fk j ∧ j ≠ k2) ((f.del k).new k2 o') a w' S (upd V k2 v') := by
 have ha := h.ag_row e hm hg
 have h1 : RelC n0 w0 S0 N Fk (f.del k) a w' S V := by
  have h2 := h.del k
  have hd : ∀ k' o1, (f.del k).o k' = some o1 → k' ≠ k ∧ f.o k' = some o1 := fun k' o1 e' => by
   have hne : k' ≠ k := fun q => by subst q; simp [FS.del, upd] at e'
   exact ⟨hne, by simpa [FS.del, upd, hne] using e'⟩
  refine ⟨h.bel_row e hm hg, h.nle, Dfs_mono (fun _ h => h) ha h.df, h.sz, fun i => PVr_mono (fun _ h => h) ha (fun k' _ => ⟨fun _ h => h, rfl⟩) (h2.sl i), fun k' o1 e' => ?_, h2.ds, h2.sp, fun k' o1 e' hm1 b hb => ⟨(h2.ow k' o1 e' hm1 b hb).1, Nat.lt_of_lt_of_le (h2.ow k' o1 e' hm1 b hb).2 hg.size⟩, h.old, fun b hb => Nat.lt_of_lt_of_le (h.lt b hb) hg.size, h2.fr, h.fg, h2.fi, h.fe⟩
  obtain ⟨hne, e2⟩ := hd k' o1 e'
  exact OR_mono (fun _ h => h) ha (fun hm1 b hb => hg.block b (h.ow k' o1 e2 hm1 b hb).2 fun q => h.ds k k' o o1 (Ne.symm hne) e e2 hm hm1 b q.symm hb) (fun _ _ => rfl) (h.ob k' o1 e2)
 refine h1.new hk ho hi fun _ b hb => ⟨?_, fun hs => ?_, fun k' o1 e' hm1 q => ?_⟩
 ·rcases hv with hv | hv
  ·exact (h.ow k o e hm b (hv.symm.trans hb)).1
  ·rw [hb] at hv; injection hv with hv; exact h.size b (by omega)
 ·rcases hv with hv | hv
  ·exact h.sp k o e hm b (hv.symm.trans hb) hs
  ·have := h.lt b hs
   rw [hb] at hv; injection hv with hv; omega
 ·have hne : k' ≠ k := fun q => by subst q; simp [FS.del, upd] at e'
  have e2 : f.o k' = some o1 := by simpa [FS.del, upd, hne] using e'
  rcases hv with hv | hv
  ·exact h.ds k k' o o1 (Ne.symm hne) e e2 hm hm1 b (hv.symm.trans hb) q
  ·have := (h.ow k' o1 e2 hm1 b q).2
   rw [hb] at hv; injection hv with hv; omega
theorem RelC.ext (h : RelC n0 w0 S0 N Fk f a w S V) (h1 : ∀ b, S' b → b < w.heap.size) (h2 : ∀ b, S' b → ¬ n0 b → S0 b) (h3 : ∀ k o b, f.o k = some o → o.mu = true → blk (V k) = some b → ¬ S' b) : RelC n0 w0 S0 N Fk f a w (fun b => S b ∨ S' b) V :=
 ⟨h.bel, h.nle, Dfs_mono (fun _ h => .inl h) (fun _ _ => rfl) h.df, h.sz, fun i => PVr_mono (sh := f.sh) (V := V) (fun _ h => .inl h) (fun _ _ => rfl) (fun _ _ => ⟨fun _ h => h, rfl⟩) (h.sl i), fun k o e => OR_mono (fun _ h => .inl h) (fun _ _ => rfl) (fun _ _ _ => rfl) (fun _ _ => rfl) (h.ob k o e), h.ds,
  fun k o e hm b hb hs => hs.elim (h.sp k o e hm b hb) (h3 k o b e hm hb), h.ow, fun b hb hn => hb.elim (fun hb => h.old b hb hn) (fun hb => h2 b hb hn), fun b hb => hb.elim (h.lt b) (h1 b), h.fr, h.fg, h.fi, h.fe⟩
end rel
end Go.TT
end
section
namespace Go.TT
open Go.RowKit
set_option linter.unusedVariables false
set_option linter.unusedSimpArgs false
def Ty.by : Ty → Nat
 | .int .i64 => 8
 | .int .u64 => 8
 | .int .i32 => 4
 | .int .u32 => 4
 | .int .i16 => 2
 | .int .u16 => 2
 | .int .i8 => 1
 | .int .u8 => 1
 | .bool => 1
 | .str => 16
 | .sl _ _ => 24
 | .pr a b => (a.by + 7) / 8 * 8 + b.by
 | .un => 0
 | .ar b => b.by
 | _ => 16
def Ty.isK : Ty → Bool
 | .int _ => true
 | .str => true
 | _ => false
structure TI (P : Program) (e : TypeId) (t : Ty) : Prop where
 mkz : ∀ i z, P.info? e = some i → i.zero = some z → z = t.mk t.zc
 ex : ∃ i z, P.info? e = some i ∧ i.zero = some z ∧ z.cells.toList = t.zc ∧ i.size = t.sz ∧ i.bytes ≤ t.by
mutual
def TyOk (P : Program) : Ty → TypeId → Prop
 | .int k, e => P.underlying e = some (.int k) ∧ TI P e (.int k)
 | .bool, e => P.underlying e = some .bool ∧ TI P e .bool
 | .str, e => P.underlying e = some .string ∧ TI P e .str
 | .sl e' t, e => P.underlying e = some (.slice e') ∧ TI P e (.sl e' t) ∧ TyOk P t e' ∧ 0 < t.sz ∧ t.row = true
 | .pr a b, e => ∃ fs, P.underlying e = some (.struct fs) ∧ TI P e (.pr a b) ∧ FdOk P (.pr a b) fs.toList 0
 | .un, e => ∃ fs, P.underlying e = some (.struct fs) ∧ TI P e .un
 | .mp k t, e => ∃ e1 e2, P.underlying e = some (.map e1 e2) ∧ TI P e (.mp k t) ∧ TyOk P k e1 ∧ TyOk P t e2 ∧ k.isK = true ∧ 0 < t.sz ∧ t.row = true
 | .rf _, _ => False
 | .fn _ _ _, _ => False
 | .ifc _ _, _ => False
 | .id _ _, _ => False
 | .ar b, e => ∃ n e', P.underlying e = some (.array n e') ∧ TI P e (.ar b) ∧ ArOk P b n e'
def FdOk (P : Program) : Ty → List Field → Nat → Prop
 | .pr a b, f :: fs, o => f.offset = o ∧ TyOk P a f.type ∧ (0 < a.sz ∧ a.row = true) ∧ FdOk P b fs (o + a.sz)
 | .un, [], _ => True
 | _, _, _ => False
/-- The elements of an array. -/
def ArOk (P : Program) : Ty → Nat → TypeId → Prop
 | .pr a b, n + 1, e => TyOk P a e ∧ (0 < a.sz ∧ a.row = true) ∧ (b = .un ∨ ∃ c, b = .pr a c) ∧ ArOk P b n e
 | .un, 0, _ => True
 | _, _, _ => False
end
theorem TyOk.info {P : Program} {t : Ty} {e : TypeId} (h : TyOk P t e) : TI P e t := by
 cases t <;> unfold TyOk at h
 ·exact h.2
 ·exact h.2
 ·exact h.2
 ·exact h.2.1
 ·obtain ⟨fs, _, h, _⟩ := h; exact h
 ·obtain ⟨fs, _, h⟩ := h; exact h
 ·exact h.elim
 ·exact h.elim
 ·exact h.elim
 ·exact h.elim
 ·obtain ⟨_, _, _, h, _⟩ := h; exact h
 ·obtain ⟨_, _, _, h, _⟩ := h; exact h
theorem zok_of {P : Program} : ∀ (t : Ty), t.row = true → (∀ e, TyOk P t e → t.zok = true) ∧ (∀ fs o, FdOk P t fs o → t.zok = true) ∧ (∀ n e, ArOk P t n e → t.zok = true)
 | .int _, _ => ⟨fun _ _ => rfl, fun _ _ _ => rfl, fun _ _ _ => rfl⟩
 | .bool, _ => ⟨fun _ _ => rfl, fun _ _ _ => rfl, fun _ _ _ => rfl⟩
 | .str, _ => ⟨fun _ _ => rfl, fun _ _ _ => rfl, fun _ _ _ => rfl⟩
 | .un, _ => ⟨fun _ _ => rfl, fun _ _ _ => rfl, fun _ _ _ => rfl⟩
 | .sl _ _, _ => ⟨fun _ _ => rfl, fun _ _ _ => rfl, fun _ _ _ => rfl⟩
 | .pr a b, _ => by
  have hf : ∀ fs o, FdOk P (.pr a b) fs o → (Ty.pr a b).zok = true := by
   intro fs o h
   cases fs with
   | nil => unfold FdOk at h; exact h.elim
   | cons f fs =>
    unfold FdOk at h
    obtain ⟨_, h2, h3, h4⟩ := h
    rw [Ty.zok, Bool.and_eq_true]
    exact ⟨(zok_of a h3.2).1 _ h2, (zok_of b (by cases b <;> first | rfl | (unfold FdOk at h4; exact h4.elim))).2.1 _ _ h4⟩
  have ha : ∀ n e, ArOk P (.pr a b) n e → (Ty.pr a b).zok = true := by
   intro n e h
   cases n with
   | zero => unfold ArOk at h; exact h.elim
   | succ n =>
    unfold ArOk at h
    obtain ⟨h2, h3, _, h4⟩ := h
    rw [Ty.zok, Bool.and_eq_true]
    exact ⟨(zok_of a h3.2).1 _ h2, (zok_of b (by cases b <;> first | rfl | (unfold ArOk at h4; exact h4.elim))).2.2 _ _ h4⟩
  refine ⟨fun e h => ?_, hf, ha⟩
  unfold TyOk at h
  obtain ⟨fs, _, _, h⟩ := h
  exact hf _ _ h
 | .ar b, _ => by
  refine ⟨fun e h => ?_, fun _ _ h => ?_, fun _ _ h => ?_⟩
  ·unfold TyOk at h
   obtain ⟨n, e', _, _, h⟩ := h
   show b.zok = true
   exact (zok_of b (by cases b <;> first | rfl | (unfold ArOk at h; exact h.elim))).2.2 _ _ h
  ·unfold FdOk at h; exact h.elim
  ·unfold ArOk at h; exact h.elim
 | .rf _, _ => ⟨fun _ h => by unfold TyOk at h; exact h.elim, fun _ _ h => by unfold FdOk at h; exact h.elim, fun _ _ h => by unfold ArOk at h; exact h.elim⟩
 | .fn _ _ _, _ => ⟨fun _ h => by unfold TyOk at h; exact h.elim, fun _ _ h => by unfold FdOk at h; exact h.elim, fun _ _ h => by unfold ArOk at h; exact h.elim⟩
 | .ifc _ _, _ => ⟨fun _ h => by unfold TyOk at h; exact h.elim, fun _ _ h => by unfold FdOk at h; exact h.elim, fun _ _ h => by unfold ArOk at h; exact h.elim⟩
 | .id _ _, h => by cases h
 | .mp _ _, h => by cases h
theorem TyOk.zok {P : Program} {t : Ty} {e : TypeId} (h : TyOk P t e) (hr : t.row = true) : t.zok = true := (zok_of t hr).1 e h
def zEq : Value → Value → Bool
 | .int k n, .int k' n' => decide (k = k') && n == n'
 | .bool a, .bool b => a == b
 | .string a, .string b => a.size == 0 && b.size == 0
 | .slice none 0 0, .slice none 0 0 => true
 | .map none, .map none => true
 | _, _ => false
theorem zEq_eq {a b : Value} (h : zEq a b = true) : a = b := by
 unfold zEq at h
 split at h
 ·simp at h; rw [h.1, h.2]
 ·simp at h; rw [h]
 ·simp at h
  rw [h.1, h.2]
 ·rfl
 ·rfl
 ·cases h
def zEqs : List Value → List Value → Bool
 | [], [] => true
 | a :: l, b :: m => zEq a b && zEqs l m
 | _, _ => false
theorem zEqs_eq : ∀ {l m : List Value}, zEqs l m = true → l = m
 | [], [], _ => rfl
 | a :: l, b :: m, h => by
  simp only [zEqs, Bool.and_eq_true] at h
  rw [zEq_eq h.1, zEqs_eq h.2]
 | [], _ :: _, h => by cases h
 | _ :: _, [], h => by cases h
def tiChk (P : Program) (e : TypeId) (t : Ty) : Bool :=
 match P.info? e with
 | some i => (match i.zero with | some z => zEqs z.cells.toList t.zc && (match z with | .agg _ => t.ag | _ => !t.ag) | none => false) && i.size == t.sz && decide (i.bytes ≤ t.by)
 | none => false
theorem tiChk_ok {P : Program} {e : TypeId} {t : Ty} (h : tiChk P e t = true) : TI P e t := by
 unfold tiChk at h
 split at h
 ·rename_i i hi
  simp only [Bool.and_eq_true] at h
  split at h
  ·rename_i z hz
   have h1 := h.1.1
   rw [Bool.and_eq_true] at h1
   have hc := zEqs_eq h1.1
   refine ⟨fun i' z' e1 e2 => ?_, ⟨i, z, hi, hz, hc, by simpa using h.1.2, by simpa using h.2⟩⟩
   rw [hi] at e1; injection e1 with e1; subst e1
   rw [hz] at e2; injection e2 with e2; subst e2
   have h2 := h1.2
   unfold Ty.mk
   rw [← hc]
   split at h2
   ·rw [if_pos h2]; rfl
   ·rename_i hna
    rw [if_neg (by simpa using h2)]
    cases z <;> first | rfl | exact absurd rfl (hna _)
  ·simp at h
 ·cases h
def tyEq : Ty → Ty → Bool
 | .int k, .int k' => decide (k = k')
 | .bool, .bool => true
 | .str, .str => true
 | .un, .un => true
 | .sl e t, .sl e' t' => e == e' && tyEq t t'
 | .pr a b, .pr a' b' => tyEq a a' && tyEq b b'
 | _, _ => false
theorem tyEq_eq : ∀ {a b : Ty}, tyEq a b = true → a = b
 | .int _, .int _, h => by rw [of_decide_eq_true h]
 | .bool, .bool, _ => rfl
 | .str, .str, _ => rfl
 | .un, .un, _ => rfl
 | .sl e t, .sl e' t', h => by
  simp only [tyEq, Bool.and_eq_true, beq_iff_eq] at h
  rw [h.1, tyEq_eq h.2]
 | .pr a b, .pr a' b', h => by
  simp only [tyEq, Bool.and_eq_true] at h
  rw [tyEq_eq h.1, tyEq_eq h.2]
def chk2 (P : Program) : Ty → (TypeId → Bool) × (List Field → Nat → Bool) × (Nat → TypeId → Bool)
 | .int k => (fun e => (match P.underlying e with | some (.int k') => decide (k' = k) | _ => false) && tiChk P e (.int k), fun _ _ => false, fun _ _ => false)
 | .bool => (fun e => (match P.underlying e with | some .bool => true | _ => false) && tiChk P e .bool, fun _ _ => false, fun _ _ => false)
 | .str => (fun e => (match P.underlying e with | some .string => true | _ => false) && tiChk P e .str, fun _ _ => false, fun _ _ => false)
 | .sl e' t => (fun e => (match P.underlying e with | some (.slice e2) => e2 == e' | _ => false) && tiChk P e (.sl e' t) && (chk2 P t).1 e' && (decide (0 < t.sz) && t.row), fun _ _ => false, fun _ _ => false)
 | .pr a b => (fun e => (match P.underlying e with
    | some (.struct fs) => (match fs.toList with | f :: fs => f.offset == 0 && (chk2 P a).1 f.type && (decide (0 < a.sz) && a.row) && (chk2 P b).2.1 fs (0 + a.sz) | [] => false)
    | _ => false) && tiChk P e (.pr a b),
   fun fs o => match fs with | f :: fs => f.offset == o && (chk2 P a).1 f.type && (decide (0 < a.sz) && a.row) && (chk2 P b).2.1 fs (o + a.sz) | [] => false,
   fun n e => match n with | n + 1 => (chk2 P a).1 e && (decide (0 < a.sz) && a.row) && (match b with | .un => true | .pr c _ => tyEq c a | _ => false) && (chk2 P b).2.2 n e | 0 => false)
 | .un => (fun e => (match P.underlying e with | some (.struct _) => true | _ => false) && tiChk P e .un, fun fs _ => match fs with | [] => true | _ => false, fun n _ => match n with | 0 => true | _ => false)
 | .mp k t => (fun e => (match P.underlying e with | some (.map e1 e2) => (chk2 P k).1 e1 && (chk2 P t).1 e2 | _ => false) && tiChk P e (.mp k t) && (k.isK && (decide (0 < t.sz) && t.row)), fun _ _ => false, fun _ _ => false)
 | .rf _ => (fun _ => false, fun _ _ => false, fun _ _ => false)
 | .fn _ _ _ => (fun _ => false, fun _ _ => false, fun _ _ => false)
 | .ifc _ _ => (fun _ => false, fun _ _ => false, fun _ _ => false)
 | .ar b => (fun e => (match P.underlying e with | some (.array n e') => (chk2 P b).2.2 n e' | _ => false) && tiChk P e (.ar b), fun _ _ => false, fun _ _ => false)
 | .id _ _ => (fun _ => false, fun _ _ => false, fun _ _ => false)
def tyChk (P : Program) (t : Ty) (e : TypeId) : Bool := (chk2 P t).1 e
theorem chk2_ok {P : Program} : ∀ (t : Ty), (∀ e, (chk2 P t).1 e = true → TyOk P t e) ∧ (∀ fs o, (chk2 P t).2.1 fs o = true → FdOk P t fs o) ∧ (∀ n e, (chk2 P t).2.2 n e = true → ArOk P t n e)
 | .int k => by
  refine ⟨fun e h => ?_, fun fs o h => (by cases h), fun n e h => (by cases h)⟩
  simp only [chk2, Bool.and_eq_true] at h
  obtain ⟨h1, h2⟩ := h
  unfold TyOk
  refine ⟨?_, tiChk_ok h2⟩
  split at h1
  ·rename_i hu; rw [hu]; simp at h1; rw [h1]
  ·cases h1
 | .bool => by
  refine ⟨fun e h => ?_, fun fs o h => (by cases h), fun n e h => (by cases h)⟩
  simp only [chk2, Bool.and_eq_true] at h
  obtain ⟨h1, h2⟩ := h
  unfold TyOk
  refine ⟨?_, tiChk_ok h2⟩
  split at h1
  ·rename_i hu; exact hu
  ·cases h1
 | .str => by
  refine ⟨fun e h => ?_, fun fs o h => (by cases h), fun n e h => (by cases h)⟩
  simp only [chk2, Bool.and_eq_true] at h
  obtain ⟨h1, h2⟩ := h
  unfold TyOk
  refine ⟨?_, tiChk_ok h2⟩
  split at h1
  ·rename_i hu; exact hu
  ·cases h1
 | .sl e' t => by
  refine ⟨fun e h => ?_, fun fs o h => (by cases h), fun n e h => (by cases h)⟩
  simp only [chk2, Bool.and_eq_true] at h
  obtain ⟨⟨⟨h1, h2⟩, h3⟩, h4⟩ := h
  unfold TyOk
  refine ⟨?_, tiChk_ok h2, (chk2_ok t).1 _ h3, by simpa using h4⟩
  split at h1
  ·rename_i hu; rw [hu]; simp at h1; rw [h1]
  ·cases h1
 | .pr a b => by
  have hf : ∀ fs o, (chk2 P (.pr a b)).2.1 fs o = true → FdOk P (.pr a b) fs o := by
   intro fs o h
   cases fs with
   | nil => cases h
   | cons f fs =>
    simp only [chk2, Bool.and_eq_true] at h
    obtain ⟨⟨⟨h1, h2⟩, h3⟩, h4⟩ := h
    unfold FdOk
    exact ⟨by simpa using h1, (chk2_ok a).1 _ h2, by simpa using h3, (chk2_ok b).2.1 _ _ h4⟩
  have ha : ∀ n e, (chk2 P (.pr a b)).2.2 n e = true → ArOk P (.pr a b) n e := by
   intro n e h
   cases n with
   | zero => cases h
   | succ n =>
    simp only [chk2, Bool.and_eq_true] at h
    obtain ⟨⟨⟨h1, h2⟩, h3⟩, h4⟩ := h
    unfold ArOk
    refine ⟨(chk2_ok a).1 _ h1, by simpa using h2, ?_, (chk2_ok b).2.2 _ _ h4⟩
    split at h3
    ·exact .inl rfl
    ·rename_i c d; exact .inr ⟨d, by rw [tyEq_eq h3]⟩
    ·cases h3
  refine ⟨fun e h => ?_, hf, ha⟩
  simp only [chk2, Bool.and_eq_true] at h
  obtain ⟨h1, h2⟩ := h
  unfold TyOk
  split at h1
  ·rename_i fs hu
   refine ⟨fs, hu, tiChk_ok h2, hf fs.toList 0 ?_⟩
   simp only [chk2]
   exact h1
  ·cases h1
 | .un => by
  refine ⟨fun e h => ?_, fun fs o h => ?_, fun n e h => ?_⟩
  ·simp only [chk2, Bool.and_eq_true] at h
   obtain ⟨h1, h2⟩ := h
   unfold TyOk
   split at h1
   ·rename_i fs hu; exact ⟨fs, hu, tiChk_ok h2⟩
   ·cases h1
  ·cases fs with
   | nil => unfold FdOk; trivial
   | cons f fs => simp [chk2] at h
  ·cases n with
   | zero => unfold ArOk; trivial
   | succ n => simp [chk2] at h
 | .ar b => by
  refine ⟨fun e h => ?_, fun fs o h => (by cases h), fun n e h => (by cases h)⟩
  simp only [chk2, Bool.and_eq_true] at h
  obtain ⟨h1, h2⟩ := h
  unfold TyOk
  split at h1
  ·rename_i n e' hu; exact ⟨n, e', hu, tiChk_ok h2, (chk2_ok b).2.2 _ _ h1⟩
  ·cases h1
 | .mp k t => by
  refine ⟨fun e h => ?_, fun fs o h => (by cases h), fun n e h => (by cases h)⟩
  simp only [chk2, Bool.and_eq_true] at h
  obtain ⟨⟨h1, h2⟩, h3, h4, h5⟩ := h
  unfold TyOk
  split at h1
  ·rename_i e1 e2 hu
   rw [Bool.and_eq_true] at h1
   exact ⟨e1, e2, hu, tiChk_ok h2, (chk2_ok k).1 _ h1.1, (chk2_ok t).1 _ h1.2, h3, by simpa using h4, h5⟩
  ·cases h1
 | .rf _ => ⟨(fun e h => by cases h), (fun fs o h => by cases h), (fun n e h => by cases h)⟩
 | .fn _ _ _ => ⟨(fun e h => by cases h), (fun fs o h => by cases h), (fun n e h => by cases h)⟩
 | .ifc _ _ => ⟨(fun e h => by cases h), (fun fs o h => by cases h), (fun n e h => by cases h)⟩
 | .id _ _ => ⟨(fun e h => by cases h), (fun fs o h => by cases h), (fun n e h => by cases h)⟩
theorem tyChk_ok {P : Program} {t : Ty} {e : TypeId} (h : tyChk P t e = true) : TyOk P t e := (chk2_ok t).1 e h
def cst : Value → PV
 | .int k n => .ro (.int k) n
 | .bool b => .ro .bool b
 | .string s => .ro .str s
 | .slice none 0 0 => .nil
 | _ => .bot
def FS.op (f : FS) : Operand → PV
 | .tmp t => f.g t
 | .const v => cst v
 | .func g => .ro (.fn (.func g) .un .un) ((), ())
 | _ => .bot
def PV.key : PV → Option Nat
 | .own k => some k
 | .ptr k _ _ => some k
 | .vw k _ _ => some k
 | .one _ k => some k
 | _ => none
abbrev Arg := PV × Option Ob
def FS.res (f : FS) (x : Operand) : Arg := (f.op x, (f.op x).key.bind f.o)
def rdc (t : Ty) : Arg → (t.den → Prop) → Prop
 | (.ro t' x, _), K => (TV.mk t' x).ofT t K
 | (.nil, _), K => match t, K with
  | .sl _ _, K => K []
  | _, _ => False
 | (.own _, some o), K => o.t.row = true ∧ (TV.mk (.sl o.e o.t) o.xs).ofT t K
 | (.vw _ l h, some o), K => o.t.row = true ∧ (TV.mk (.sl o.e o.t) ((o.xs.take h).drop l)).ofT t K
 | (.one e _, some o), K => o.mu = false ∧ (TV.mk (.sl e (.sl o.e o.t)) [o.xs]).ofT t K
 | _, _ => False
def shd (t : Ty) : Arg → (t.den → Prop) → Prop
 | (.ro t' x, _), K => (TV.mk t' x).ofT t K
 | (.nil, _), K => match t, K with
  | .sl _ _, K => K []
  | _, _ => False
 | (.own _, some o), K => o.mu = false ∧ (TV.mk (.sl o.e o.t) o.xs).ofT t K
 | (.vw _ l h, some o), K => o.mu = false ∧ (TV.mk (.sl o.e o.t) ((o.xs.take h).drop l)).ofT t K
 | (.one e _, some o), K => o.mu = false ∧ (TV.mk (.sl e (.sl o.e o.t)) [o.xs]).ofT t K
 | (.cel t' x, _), K => (TV.mk (.rf t') x).ofT t K
 | (.ptr _ i fs, some o), K => o.mu = false ∧ (TV.mk (.rf (o.t.pj fs (o.xs.getD i.toNat o.t.zv)).t) (o.t.pj fs (o.xs.getD i.toNat o.t.zv)).x).ofT t K
 | _, _ => False
def tvA : Arg → (TV → Prop) → Prop
 | (.ro t' x, _), K => K ⟨t', x⟩
 | (.own _, some o), K => o.mu = false ∧ K ⟨.sl o.e o.t, o.xs⟩
 | (.vw _ l h, some o), K => o.mu = false ∧ K ⟨.sl o.e o.t, (o.xs.take h).drop l⟩
 | (.one e _, some o), K => o.mu = false ∧ K ⟨.sl e (.sl o.e o.t), [o.xs]⟩
 | (.cel t' x, _), K => K ⟨.rf t', x⟩
 | (.ptr _ i fs, some o), K => o.mu = false ∧ K ⟨.rf (o.t.pj fs (o.xs.getD i.toNat o.t.zv)).t, (o.t.pj fs (o.xs.getD i.toNat o.t.zv)).x⟩
 | _, _ => False
def wr (k : IntKind) (n : Int) : Int := k.wrap n
def bin (op : BinOp) (k k' : IntKind) (a b : Int) (K : TV → Prop) : Prop :=
 match op with
 | .add => k = k' ∧ K ⟨.int k, wr k (a + b)⟩
 | .sub => k = k' ∧ K ⟨.int k, wr k (a - b)⟩
 | .mul => k = k' ∧ K ⟨.int k, wr k (a * b)⟩
 | .quo => k = k' ∧ b ≠ 0 ∧ K ⟨.int k, wr k (Int.tdiv a b)⟩
 | .rem => k = k' ∧ b ≠ 0 ∧ K ⟨.int k, Int.tmod a b⟩
 | .eql => k = k' ∧ K ⟨.bool, decide (a = b)⟩
 | .neq => k = k' ∧ K ⟨.bool, !decide (a = b)⟩
 | .lss => k = k' ∧ K ⟨.bool, decide (a < b)⟩
 | .leq => k = k' ∧ K ⟨.bool, decide (a ≤ b)⟩
 | .gtr => k = k' ∧ K ⟨.bool, decide (a > b)⟩
 | .geq => k = k' ∧ K ⟨.bool, decide (a ≥ b)⟩
 | .and => k = k' ∧ K ⟨.int k, wr k (BitVec.ofInt k.bits a &&& BitVec.ofInt k.bits b).toNat⟩
 | .or => k = k' ∧ K ⟨.int k, wr k (BitVec.ofInt k.bits a ||| BitVec.ofInt k.bits b).toNat⟩
 | .xor => k = k' ∧ K ⟨.int k, wr k (BitVec.ofInt k.bits a ^^^ BitVec.ofInt k.bits b).toNat⟩
 | .andNot => k = k' ∧ K ⟨.int k, wr k (BitVec.ofInt k.bits a &&& ~~~ BitVec.ofInt k.bits b).toNat⟩
 | .shl => 0 ≤ b ∧ K ⟨.int k, wr k (a * 2 ^ (min b.toNat k.bits))⟩
 | .shr => 0 ≤ b ∧ K ⟨.int k, Int.fdiv a (2 ^ (min b.toNat k.bits))⟩
theorem bin_ok {P : Program} {w : World} {op : BinOp} {k k' : IntKind} {a b : Int} {K : TV → Prop} (h : bin op k k' a b K) (t : TypeId) (x y : Operand) : ∃ tv v, K tv ∧ Vs w (fun _ => False) tv.t tv.x v ∧
  (do eqGuard op t x y (.int k a) (.int k' b); binOp op t (.int k a) (.int k' b)).run P w = .ok v w := by
 cases op <;> simp only [bin] at h
 case shl =>
  refine ⟨_, _, h.2, Vs_int.2 rfl, ?_⟩
  simp [eqGuard, binOp, Op.shift, show ¬ b < 0 by omega, wr]
 case shr =>
  refine ⟨_, _, h.2, Vs_int.2 rfl, ?_⟩
  simp [eqGuard, binOp, Op.shift, show ¬ b < 0 by omega, wr]
 case quo =>
  obtain ⟨rfl, h1, h2⟩ := h
  refine ⟨_, _, h2, Vs_int.2 rfl, ?_⟩
  simp [eqGuard, binOp, Op.intDiv, h1, wr]
 case rem =>
  obtain ⟨rfl, h1, h2⟩ := h
  refine ⟨_, _, h2, Vs_int.2 rfl, ?_⟩
  simp [eqGuard, binOp, Op.intDiv, h1, wr]
 case eql =>
  obtain ⟨rfl, h2⟩ := h
  refine ⟨_, _, h2, Vs_bool.2 rfl, ?_⟩
  simp [eqGuard, binOp, Op.intCmp]; rfl
 case neq =>
  obtain ⟨rfl, h2⟩ := h
  refine ⟨_, _, h2, Vs_bool.2 rfl, ?_⟩
  simp [eqGuard, binOp, Op.intCmp]; rfl
 all_goals
  obtain ⟨rfl, h2⟩ := h
  first | refine ⟨_, _, h2, Vs_int.2 rfl, ?_⟩ | refine ⟨_, _, h2, Vs_bool.2 rfl, ?_⟩
  first | (simp [eqGuard, binOp, Op.intCmp, Op.intArith, Op.intBits]; done) | (simp [eqGuard, binOp, Op.intCmp, Op.intArith, Op.intBits]; rfl) | (simp [eqGuard, binOp, Op.intCmp, Op.intArith, Op.intBits, wr]; done)
end Go.TT
end
section
namespace Go.TT
open Go.RowKit
set_option linter.unusedVariables false
set_option linter.unusedSimpArgs false
def FS.news (f : FS) (key : Nat) : List Ob → FS
 | [] => f
 | o :: os => (f.new key o).news (key + 2) os
def PV.nth : PV → Nat → Option PV
 | .pair a _, 0 => some a
 | .pair _ b, n + 1 => b.nth n
 | _, _ => none
abbrev KK := PV → List Ob → Prop
def elT (e' : TypeId) : Ty → Ty
 | .mp k t => .mp k t
 | t => .sl e' t
def elR : Ty → Bool
 | .mp _ _ => true
 | t => t.row
theorem elT_ag {e' : TypeId} {t : Ty} : (elT e' t).ag = false := by cases t <;> rfl
theorem elT_sz {e' : TypeId} {t : Ty} : (elT e' t).sz = 1 := by cases t <;> rfl
def aMove : List Arg → KK → Prop
 | [a], K => K a.1 []
 | _, _ => False
def aPick : List Arg → KK → Prop
 | [(.ro .bool c, _), a, b], K => K (if (c : Bool) = true then a.1 else b.1) []
 | _, _ => False
def aBin (op : BinOp) : List Arg → KK → Prop
 | [(.ro (.int k) a, _), (.ro (.int k') b, _)], K => bin op k k' a b fun r => K (.ro r.t r.x) []
 | [(.ro .str a, _), (.ro .str b, _)], K => match op with
  | .eql => K (.ro .bool (ByteArray.toList a == ByteArray.toList b)) []
  | .neq => K (.ro .bool (!(ByteArray.toList a == ByteArray.toList b))) []
  | _ => False
 | _, _ => False
def aUn (op : UnOp) : List Arg → KK → Prop
 | [(.ro (.int k) a, _)], K => match op with
  | .neg => K (.ro (.int k) (wr k (0 - a))) []
  | _ => False
 | [(.ro .bool a, _)], K => match op with
  | .not => K (.ro .bool (!a)) []
  | _ => False
 | _, _ => False
def strN (xs : List Int) : ByteArray := xs.foldl (fun r n => r.push (UInt8.ofNat n.toNat)) ByteArray.empty
def aConv (TE : TypeId → Option Ty) (src dst : TypeId) : List Arg → KK → Prop
 | [(.ro (.int k) a, _)], K => (TE src = some (.int k)) ∧ match TE dst with
  | some (.int k') => K (.ro (.int k') (wr k' a)) []
  | _ => False
 | [(.ro (.sl e (.int .u8)) xs, _)], K => TE src = some (.sl e (.int .u8)) ∧ TE dst = some .str ∧ K (.ro .str (strN xs)) []
 | [(.own _, some ⟨e, .int .u8, xs, _⟩)], K => TE src = some (.sl e (.int .u8)) ∧ TE dst = some .str ∧ K (.ro .str (strN xs)) []
 | [(.vw _ l h, some ⟨e, .int .u8, xs, _⟩)], K => TE src = some (.sl e (.int .u8)) ∧ TE dst = some .str ∧ K (.ro .str (strN ((List.take h xs).drop l))) []
 | _, _ => False
def aLoad (TE : TypeId → Option Ty) (t : TypeId) : List Arg → KK → Prop
 | [(.cel t' x, _)], K => TE t = some t' ∧ K (.ro t' x) []
 | [(.ro (.rf t') x, _)], K => TE t = some t' ∧ K (.ro t' x) []
 | [(.ptr k i [], some ⟨e, .id e' t', ids, m⟩)], K => TE t = some (elT e' t') ∧ List.getD ids (i : Int).toNat (od 0) % 2 = 1 ∧ K (.own (List.getD ids (i : Int).toNat (od 0))) []
 | [(.ptr k i fs, some o)], K => o.t.row = true ∧ TE t = some (o.t.pj fs (o.xs.getD i.toNat o.t.zv)).t ∧ K (.ro (o.t.pj fs (o.xs.getD i.toNat o.t.zv)).t (o.t.pj fs (o.xs.getD i.toNat o.t.zv)).x) []
 | _, _ => False
def arK (TE : TypeId → Option Ty) (T : TypeId) (k : Nat) (i j : Int) (fs : List Nat) (K : KK) : Option (Nat × Ty) → Prop
 | some (_, .ar b) => TE T = some (.ar b) ∧ 0 ≤ j ∧ (b.off [j.toNat]).isSome = true ∧ K (.ptr k i (fs ++ [0, j.toNat])) []
 | _ => False
def aIdxA (TE : TypeId → Option Ty) (T : TypeId) : List Arg → KK → Prop
 | [(.ro (.sl e t) xs, _), (.ro (.int _) i, _)], K => TE T = some (.sl e t) ∧ 0 ≤ (i : Int) ∧ (i : Int) < (List.length xs : Int) ∧ K (.cel t (List.getD xs (i : Int).toNat t.zv)) []
 | [(.own k, some ⟨e, .id e' t', ids, m⟩), (.ro (.int _) i, _)], K => TE T = some (.sl e (.sl e' t')) ∧ 0 ≤ (i : Int) ∧ (i : Int) < (List.length ids : Int) ∧ K (.ptr k i []) []
 | [(.own k, some o), (.ro (.int _) i, _)], K => TE T = some (.sl o.e o.t) ∧ 0 ≤ (i : Int) ∧ (i : Int) < (o.xs.length : Int) ∧ K (.ptr k i []) []
 | [(.vw k l h, some o), (.ro (.int _) i, _)], K => TE T = some (.sl o.e o.t) ∧ 0 ≤ (i : Int) ∧ (i : Int) < ((h - l : Nat) : Int) ∧ K (.ptr k ((l : Int) + i) []) []
 | [(.ptr k i fs, some o), (.ro (.int _) j, _)], K => arK TE T k i j fs K (o.t.off fs)
 | _, _ => False
def aFldA (TE : TypeId → Option Ty) (T : TypeId) (n : Nat) : List Arg → KK → Prop
 | [(.cel t x, _)], K => TE T = some t ∧ (t.off [n]).isSome = true ∧ K (.cel (t.pj [n] x).t (t.pj [n] x).x) []
 | [(.ro (.rf t) x, _)], K => TE T = some t ∧ (t.off [n]).isSome = true ∧ K (.cel (t.pj [n] x).t (t.pj [n] x).x) []
 | [(.ptr k i fs, some o)], K => match o.t.off fs with
  | some q => TE T = some q.2 ∧ (q.2.off [n]).isSome = true ∧ K (.ptr k i (fs ++ [n])) []
  | none => False
 | _, _ => False
def aFld (TE : TypeId → Option Ty) (T : TypeId) (n : Nat) : List Arg → KK → Prop
 | [(.ro t x, _)], K => TE T = some t ∧ (t.off [n]).isSome = true ∧ K (.ro (t.pj [n] x).t (t.pj [n] x).x) []
 | _, _ => False
def aIdx (TE : TypeId → Option Ty) (T : TypeId) : List Arg → KK → Prop
 | [(.ro .str s, _), (.ro (.int _) i, _)], K => TE T = some .str ∧ 0 ≤ (i : Int) ∧ (i : Int) < ((ByteArray.size s : Nat) : Int) ∧ K (.ro (.int .u8) ((((ByteArray.data s).getD (i : Int).toNat 0).toNat : Nat) : Int)) []
 | _, _ => False
def roSl (e : TypeId) (t : Ty) (xs : List t.den) (lo hi : Bool) : List Arg → KK → Prop
 | [], K => match lo, hi with
  | false, false => K (.ro (.sl e t) xs) []
  | _, _ => False
 | [(.ro (.int _) l, _)], K => match lo, hi with
  | true, false => 0 ≤ (l : Int) ∧ (l : Int) ≤ (xs.length : Int) ∧ K (.ro (.sl e t) (xs.drop (l : Int).toNat)) []
  | false, true => 0 ≤ (l : Int) ∧ (l : Int) ≤ (xs.length : Int) ∧ K (.ro (.sl e t) (xs.take (l : Int).toNat)) []
  | _, _ => False
 | [(.ro (.int _) l, _), (.ro (.int _) h, _)], K => match lo, hi with
  | true, true => 0 ≤ (l : Int) ∧ (l : Int) ≤ (h : Int) ∧ (h : Int) ≤ (xs.length : Int) ∧ K (.ro (.sl e t) ((xs.take (h : Int).toNat).drop (l : Int).toNat)) []
  | _, _ => False
 | _, _ => False
def vwSl (k n l0 : Nat) (lo hi : Bool) : List Arg → KK → Prop
 | [], K => match lo, hi with
  | false, false => K (.vw k l0 (l0 + n)) []
  | _, _ => False
 | [(.ro (.int _) l, _)], K => match lo, hi with
  | true, false => 0 ≤ (l : Int) ∧ (l : Int) ≤ (n : Int) ∧ K (.vw k (l0 + (l : Int).toNat) (l0 + n)) []
  | false, true => 0 ≤ (l : Int) ∧ (l : Int) ≤ (n : Int) ∧ K (.vw k l0 (l0 + (l : Int).toNat)) []
  | _, _ => False
 | [(.ro (.int _) l, _), (.ro (.int _) h, _)], K => match lo, hi with
  | true, true => 0 ≤ (l : Int) ∧ (l : Int) ≤ (h : Int) ∧ (h : Int) ≤ (n : Int) ∧ K (.vw k (l0 + (l : Int).toNat) (l0 + (h : Int).toNat)) []
  | _, _ => False
 | _, _ => False
def aSli (TE : TypeId → Option Ty) (T : TypeId) (lo hi : Bool) : List Arg → KK → Prop
 | (.ro (.sl e t) xs, _) :: al, K => TE T = some (.sl e t) ∧ roSl e t xs lo hi al K
 | (.own k, some o) :: al, K => TE T = some (.sl o.e o.t) ∧ match o.mu with
  | false => roSl o.e o.t o.xs lo hi al K
  | true => vwSl k o.xs.length 0 lo hi al K
 | (.vw k l h, some o) :: al, K => TE T = some (.sl o.e o.t) ∧ vwSl k (h - l) l lo hi al K
 | _, _ => False
def roSl3 (e : TypeId) (t : Ty) (xs : List t.den) (lo : Bool) : List Arg → KK → Prop
 | [(.ro (.int _) h, _), (.ro (.int _) m, _)], K => lo = false ∧ 0 ≤ (h : Int) ∧ (h : Int) ≤ (m : Int) ∧ (m : Int) ≤ (xs.length : Int) ∧ K (.ro (.sl e t) (xs.take (h : Int).toNat)) []
 | [(.ro (.int _) l, _), (.ro (.int _) h, _), (.ro (.int _) m, _)], K => lo = true ∧ 0 ≤ (l : Int) ∧ (l : Int) ≤ (h : Int) ∧ (h : Int) ≤ (m : Int) ∧ (m : Int) ≤ (xs.length : Int) ∧ K (.ro (.sl e t) ((xs.take (h : Int).toNat).drop (l : Int).toNat)) []
 | _, _ => False
def aSli3 (TE : TypeId → Option Ty) (T : TypeId) (lo : Bool) : List Arg → KK → Prop
 | (.ro (.sl e t) xs, _) :: al, K => TE T = some (.sl e t) ∧ roSl3 e t xs lo al K
 | (.own _, some o) :: al, K => o.mu = false ∧ TE T = some (.sl o.e o.t) ∧ roSl3 o.e o.t o.xs lo al K
 | _, _ => False
def aMake (TE : TypeId → Option Ty) (key : Nat) (T : TypeId) : List Arg → KK → Prop
 | [(.ro (.int _) n, _), (.ro (.int _) c, _)], K => match TE T with
  | some (.sl e t) => ((n : Int) = (c : Int) ∨ (n : Int) = 0) ∧ 0 ≤ (c : Int) ∧ (c : Int).toNat ≤ 281474976710656 / t.by ∧ K (.own key) [⟨e, t, List.replicate (n : Int).toNat t.zv, true⟩]
  | _ => False
 | _, _ => False
def aAlloc (TE : TypeId → Option Ty) (key : Nat) (e : TypeId) : List Arg → KK → Prop
 | [], K => match TE e with
  | some t => (0 < t.sz ∧ t.row = true) ∧ K (.ptr key 0 []) [⟨e, t, [t.zv], true⟩]
  | none => False
 | _, _ => False
def aBox (TE : TypeId → Option Ty) (key : Nat) (e : TypeId) : List Arg → KK → Prop
 | [a], K => match TE e with
  | some t => 0 < t.sz ∧ shd t a fun x => K (.ptr key 0 []) [⟨e, t, [x], true⟩]
  | none => False
 | _, _ => False
def lst (t : Ty) : List Arg → (List t.den → Prop) → Prop
 | [], K => K []
 | a :: al, K => shd t a fun x => lst t al fun xs => K (x :: xs)
def one1 : List Arg → Option (Nat × TypeId × Ty)
 | [(.own j, some ⟨e', t', _, true⟩)] => some (j, e', t')
 | _ => none
def aBldS (TE : TypeId → Option Ty) (key : Nat) (T : TypeId) (n : Nat) (ix : List Nat) (al : List Arg) (K : KK) : Prop :=
 match one1 al with
 | some (j, e', t') => match TE T with
  | some (.sl e t2) => (ix = [0] ∧ n = 1 ∧ t'.row = true ∧ t2 = .sl e' t') ∧ K (.one e j) []
  | _ => False
 | none => match TE T with
 | some (.sl e t) => ix = List.range n ∧ al.length = n ∧ n * t.sz ≤ 16777216 ∧ lst t al fun xs => K (.own key) [⟨e, t, xs, true⟩]
 | _ => False
def bld : (t : Ty) → List Nat → List Arg → t.den → (t.den → Prop) → Prop
 | t, [], [], x, K => K x
 | t, i :: is, a :: al, x, K => match t.off [i] with
  | some q => shd q.2 a fun y => t.st [i] x ⟨q.2, y⟩ fun x' => bld t is al x' K
  | none => False
 | _, _, _, _, _ => False
def aBld (TE : TypeId → Option Ty) (T : TypeId) (ix : List Nat) (al : List Arg) (K : KK) : Prop :=
 match TE T with
 | some (.pr a b) => bld (.pr a b) ix al (Ty.pr a b).zv fun x => K (.ro (.pr a b) x) []
 | _ => False
def aExt (i : Nat) : List Arg → KK → Prop
 | [(p, _)], K => match p.nth i with
  | some q => K q []
  | none => False
 | _, _ => False
def aNilC : List Arg → KK → Prop
 | [(.ptr k i fs, some o)], K => K (.ptr k i fs) []
 | [(.cel t x, _)], K => K (.cel t x) []
 | [(.ro (.rf t) x, _)], K => K (.ro (.rf t) x) []
 | [(.ro (.fn (.func g) a c) x, _)], K => K (.ro (.fn (.func g) a c) x) []
 | _, _ => False
def keq : (k : Ty) → k.den → k.den → Bool
 | .int _, a, b => (a : Int) == (b : Int)
 | .str, a, b => (a : ByteArray) == (b : ByteArray)
 | _, _, _ => false
def mget (k : Ty) {α : Type} (y : k.den) : List (k.den × α) → Option α
 | [] => none
 | x :: xs => if keq k y x.1 = true then some x.2 else mget k y xs
def mset (k : Ty) {α : Type} (y : k.den) (v : α) : List (k.den × α) → List (k.den × α)
 | [] => [(y, v)]
 | x :: xs => if keq k y x.1 = true then (y, v) :: xs else x :: mset k y v xs
def aMap (TE : TypeId → Option Ty) (key : Nat) (T : TypeId) : List Arg → KK → Prop
 | [], K => match TE T with
  | some (.mp k t) => K (.own key) [⟨0, .mp k t, [], true⟩]
  | _ => False
 | [(.ro (.int _) _, _)], K => match TE T with
  | some (.mp k t) => K (.own key) [⟨0, .mp k t, [], true⟩]
  | _ => False
 | _, _ => False
def aLook (TE : TypeId → Option Ty) (T : TypeId) (ok : Bool) : List Arg → KK → Prop
 | [(.own _, some ⟨_, .mp k t, xs, _⟩), a], K => TE T = some (.mp k t) ∧ shd k a fun y =>
   if ok = true then K (.pair (.ro t ((mget k y xs).getD t.zv)) (.pair (.ro .bool (mget k y xs).isSome) .tnil)) [] else K (.ro t ((mget k y xs).getD t.zv)) []
 | _, _ => False
def tvs : List Arg → (List TV → Prop) → Prop
 | [], K => K []
 | a :: l, K => tvA a fun y => tvs l fun ys => K (y :: ys)
def aFn (fn : Fn) (n : Nat) (al : List Arg) (K : KK) : Prop := tvs al fun l => K (.ro (.fn fn (tup (l.take n)).t (tup (l.drop n)).t) ((tup (l.take n)).x, (tup (l.drop n)).x)) []
def aIfc (TE : TypeId → Option Ty) (T : TypeId) : List Arg → KK → Prop
 | [a], K => match TE T with
  | some t => shd t a fun y => K (.ro (.ifc T t) y) []
  | none => False
 | _, _ => False
def aLen (TE : TypeId → Option Ty) (T : TypeId) : List Arg → KK → Prop
 | [(.ro (.sl e t) xs, _)], K => TE T = some (.sl e t) ∧ K (.ro (.int .i64) (List.length xs : Int)) []
 | [(.own _, some ⟨e, .id e' t', ids, m⟩)], K => TE T = some (.sl e (.sl e' t')) ∧ K (.ro (.int .i64) (List.length ids : Int)) []
 | [(.own _, some ⟨_, .mp k' t', xs, m⟩)], K => TE T = some (.mp k' t') ∧ K (.ro (.int .i64) (List.length xs : Int)) []
 | [(.own _, some o)], K => TE T = some (.sl o.e o.t) ∧ K (.ro (.int .i64) (o.xs.length : Int)) []
 | [(.vw _ l h, some o)], K => TE T = some (.sl o.e o.t) ∧ K (.ro (.int .i64) ((h - l : Nat) : Int)) []
 | [(.nil, _)], K => match TE T with
  | some (.sl _ _) => K (.ro (.int .i64) (0 : Int)) []
  | _ => False
 | [(.ro .str s, _)], K => TE T = some .str ∧ K (.ro (.int .i64) ((ByteArray.size s : Nat) : Int)) []
 | _, _ => False
def aMax : List Arg → KK → Prop
 | [(.ro (.int k) a, _), (.ro (.int k') b, _)], K => k = k' ∧ K (.ro (.int k) (if (b : Int) > (a : Int) then b else a)) []
 | _, _ => False
def aMin : List Arg → KK → Prop
 | [(.ro (.int k) a, _), (.ro (.int k') b, _)], K => k = k' ∧ K (.ro (.int k) (if (b : Int) < (a : Int) then b else a)) []
 | _, _ => False
def ev (TE : TypeId → Option Ty) (key : Nat) (op : Op) (al : List Arg) (K : KK) : Prop :=
 match op with
 | .move _ => aMove al K
 | .assign _ => aMove al K
 | .pick _ _ _ => aPick al K
 | .binOp op _ _ _ _ => aBin op al K
 | .unOp op _ _ => aUn op al K
 | .convert src dst _ => aConv TE src dst al K
 | .load t _ => aLoad TE t al K
 | .indexAddr T _ _ => aIdxA TE T al K
 | .fieldAddr T _ n => aFldA TE T n al K
 | .field T _ n => aFld TE T n al K
 | .index T _ _ => aIdx TE T al K
 | .slice T _ lo hi none => aSli TE T lo.isSome hi.isSome al K
 | .slice T _ lo (some _) (some _) => aSli3 TE T lo.isSome al K
 | .makeSlice T _ _ => aMake TE key T al K
 | .alloc e => aAlloc TE key e al K
 | .box e _ => aBox TE key e al K
 | .build T ps => aBld TE T (ps.toList.map (·.1)) al K
 | .buildSlice T n ps => aBldS TE key T n (ps.toList.map (·.1)) al K
 | .extract _ i => aExt i al K
 | .nilCheck _ => aNilC al K
 | .makeMap T _ => aMap TE key T al K
 | .lookup T _ _ ok => aLook TE T ok al K
 | .makeFunc fn first _ => aFn fn first.size al K
 | .makeInterface T _ => aIfc TE T al K
 | .call { callee := .builtin .len, args := _, argTypes := ts } => 0 < ts.size ∧ aLen TE (ts.getD 0 0) al K
 | .call { callee := .builtin .max, args := _, argTypes := _ } => aMax al K
 | .call { callee := .builtin .min, args := _, argTypes := _ } => aMin al K
 | _ => False
section
variable {P : Program} {TE : TypeId → Option Ty} {n0 : Nat → Prop} {w0 : World} {S0 : Nat → Prop} {N : Nat} {Fk : Nat → Prop} {f : FS} {a : Act} {w w' : World} {S S' : Nat → Prop} {V V' : Nat → Value}
def lessK (Fk : Nat → Prop) (key : Nat) : Nat → Prop := fun j => Fk j ∧ ¬ (key ≤ j ∧ j < key + 8)
def Out (n0 : Nat → Prop) (w0 : World) (S0 : Nat → Prop) (N : Nat) (Fk : Nat → Prop) (f : FS) (a : Act) (S : Nat → Prop) (key : Nat) (K : KK) (r : Result Value) : Prop :=
 ∃ p obs v w' S' V', K p obs ∧ r = .ok v w' ∧ RelC n0 w0 S0 N (lessK Fk key) (f.news key obs) a w' S' V' ∧ PVr w' S' V' (f.news key obs).sh p v ∧ ∀ k ∈ p.keys, ¬ Fr (lessK Fk key) f k
theorem Out.pure (h : RelC n0 w0 S0 N Fk f a w S V) {key : Nat} {K : KK} {p : PV} {v : Value} (hK : K p []) (hp : PVr w S V f.sh p v) (hk : ∀ k ∈ p.keys, ¬ Fr Fk f k) : Out n0 w0 S0 N Fk f a S key K (.ok v w) :=
 ⟨p, [], v, w, S, V, hK, rfl, h.keys (fun _ h => h.1), hp, fun k h1 h2 => hk k h1 (h2.imp (fun h => h.1) id)⟩
theorem Out.ro (h : RelC n0 w0 S0 N Fk f a w S V) {key : Nat} {K : KK} {t : Ty} {x : t.den} {v : Value} (hK : K (.ro t x) []) (hp : Vs w S t x v) : Out n0 w0 S0 N Fk f a S key K (.ok v w) :=
 Out.pure h hK hp (fun k hk => by cases hk)
theorem RelC.fresh (h : RelC n0 w0 S0 N Fk f a w S V) (hg : Below w.heap.size w w') {key : Nat} (hk : Fk key) {o : Ob} {v : Value} (hv : blk v = some w.heap.size) (ho : OR w' S V o v) (hi : ∀ i ∈ idsOf o, ∃ j, j < f.h ∧ i = od j) :
  RelC n0 w0 S0 N (fun j => Fk j ∧ j ≠ key) (f.new key o) a w' S (upd V key v) := by
 refine (h.grow hg).new hk ho hi fun _ b hb => ?_
 rw [hv] at hb; injection hb with hb; subst hb
 exact ⟨h.size _ (Nat.le_refl _), fun hs => Nat.lt_irrefl _ (h.lt _ hs), fun k' o' e hm q => Nat.lt_irrefl _ (h.ow k' o' e hm _ q).2⟩
theorem Out.own (h : RelC n0 w0 S0 N Fk f a w S V) (hg : Below w.heap.size w w') {key : Nat} (hk : Fk key) {K : KK} {o : Ob} {v vs : Value} {p : PV} (hv : blk vs = some w.heap.size) (ho : OR w' S V o vs) (hi : ∀ i ∈ idsOf o, ∃ j, j < f.h ∧ i = od j) (hK : K p [o])
  (hp : PVr w' S (upd V key vs) (f.new key o).sh p v) (hkk : ∀ k ∈ p.keys, k = key) : Out n0 w0 S0 N Fk f a S key K (.ok v w') :=
 ⟨p, [o], v, w', S, upd V key vs, hK, rfl, (h.fresh hg hk hv ho hi).keys (fun j hj => ⟨hj.1, fun e => hj.2 (by omega)⟩), hp, fun k h1 h2 => by
  have := hkk k h1; subst this
  rcases h2 with h2 | ⟨i, h3, h4⟩
  ·exact h2.2 (by omega)
  ·have := h.fe _ hk; unfold od at h4; omega⟩
theorem below_grown {w w' : World} (h : w.grownBy w' none) : Below w.heap.size w w' := ⟨h.os, h.tape, h.output, h.size, fun k hk => h.block k hk (by simp)⟩
theorem below_new (w : World) (o : Obj) : Below w.heap.size w (w.alloc o) := (Below.refl _ _).alloc (Nat.le_refl _) _
end
end Go.TT
end
section
namespace Go.TT
open Go.RowKit
set_option linter.unusedVariables false
set_option linter.unusedSimpArgs false
theorem add_add (a : Addr) (m n : Nat) : (a.add m).add n = a.add (m + n) := by
 unfold Addr.add
 by_cases hm : m = 0
 ·simp [hm]
 ·by_cases hn : n = 0
  ·simp [hn]
  ·have : m + n ≠ 0 := by omega
   simp [hm, hn, Nat.add_assoc]
theorem toNat_lt' {i : Int} {n : Nat} (h0 : 0 ≤ i) (h1 : i < n) : i.toNat < n := by omega
theorem add_block (a : Addr) (n : Nat) : (a.add n).block = a.block := by unfold Addr.add; split <;> rfl
section
variable {P : Program} {TE : TypeId → Option Ty} {n0 : Nat → Prop} {w0 : World} {S0 : Nat → Prop} {N : Nat} {Fk : Nat → Prop} {f : FS} {a : Act} {w w' : World} {S S' : Nat → Prop} {V V' : Nat → Value} {key : Nat} {K : KK}
structure ArgOk (Fk : Nat → Prop) (f : FS) (w : World) (S : Nat → Prop) (V : Nat → Value) (x : Arg) (v : Value) : Prop where
 pv : PVr w S V f.sh x.1 v
 ob : x.2 = x.1.key.bind f.o
 ks : ∀ k ∈ x.1.keys, ¬ Fr Fk f k
theorem cst_ok {sh : Sh} (v : Value) : PVr w S V sh (cst v) v ∧ (cst v).keys = [] := by
 unfold cst
 split
 ·exact ⟨Vs_int.2 rfl, rfl⟩
 ·exact ⟨Vs_bool.2 rfl, rfl⟩
 ·exact ⟨Vs_str.2 rfl, rfl⟩
 ·exact ⟨rfl, rfl⟩
 ·exact ⟨trivial, rfl⟩
theorem RelC.arg (h : RelC n0 w0 S0 N Fk f a w S V) (x : Operand) : ArgOk Fk f w S V (f.res x) (a.eval x) := by
 cases x with
 | tmp t => exact ⟨h.sl t, rfl, fun k hk => h.fg t k hk⟩
 | const v => exact ⟨(cst_ok v).1, rfl, fun k hk => by rw [show ((f.res (.const v)).1.keys) = (cst v).keys from rfl, (cst_ok (w := w) (S := S) (V := V) (sh := f.sh) v).2] at hk; cases hk⟩
 | global g => exact ⟨trivial, rfl, fun k hk => by cases hk⟩
 | func g => exact ⟨Vs_fn.2 ⟨[], [], rfl, ⟨[], rfl, rfl⟩, ⟨[], rfl, rfl⟩⟩, rfl, fun k hk => by cases hk⟩
theorem ArgOk.sh {k : Nat} {o : Ob} {p : PV} {v : Value} (h : ArgOk Fk f w S V (p, some o) v) (hp : p.key = some k) : f.o k = some o ∧ f.sh k = some (o.ln, o.t) := by
 have := h.ob
 simp only [hp, Option.bind_some] at this
 exact ⟨this.symm, by simp [FS.sh, ← this]⟩
theorem ArgOk.int {k : IntKind} {n : Int} {o : Option Ob} {v : Value} (h : ArgOk Fk f w S V (.ro (.int k) n, o) v) : v = .int k n := Vs_int.1 h.pv
theorem ArgOk.bool {n : Bool} {o : Option Ob} {v : Value} (h : ArgOk Fk f w S V (.ro .bool n, o) v) : v = .bool n := Vs_bool.1 h.pv
theorem ArgOk.str {n : ByteArray} {o : Option Ob} {v : Value} (h : ArgOk Fk f w S V (.ro .str n, o) v) : v = .string n := Vs_str.1 h.pv
theorem RelC.own_sl (h : RelC n0 w0 S0 N Fk f a w S V) {k : Nat} {o : Ob} (e : f.o k = some o) (hr : o.t.row = true) : ∃ A c cs, V k = .slice A o.xs.length c ∧ o.xs.length ≤ c ∧ Fl (Cs w S o.t) o.xs cs ∧
  (o.xs = [] ∨ ∃ ad, A = some ad ∧ ∀ j u, cs[j]? = some u → w.cell? (ad.add j) = some u) := by
 have h1 := h.ob k o e
 rcases hm : o.mu with _ | _
 ·rw [OR_fz hr hm] at h1
  obtain ⟨A, c, cs', e1, e2, e3, e4⟩ := h1
  injection e1 with e1
  refine ⟨A, c, cs', e1, e2, e3, e4.imp id fun ⟨ad, h1, _, h2⟩ => ⟨ad, h1, h2⟩⟩
 ·rw [OR_own hr hm] at h1
  obtain ⟨cs, h2, h3⟩ := h1
  obtain ⟨A, c, e1, e2, e3⟩ := own_row h2
  refine ⟨A, c, cs, e1, e2, h3, ?_⟩
  rcases e3 with ⟨rfl, e4, _⟩ | ⟨g, rfl, e4⟩
  ·exact .inl (List.eq_nil_of_length_eq_zero e4)
  ·exact .inr ⟨_, rfl, e4⟩
theorem own_len {A : Option Addr} {n c m c2 : Nat} {B : Option Addr} (h : Value.slice A n c = .slice B m c2) : n = m ∧ c = c2 ∧ A = B := by injection h with h1 h2 h3; exact ⟨h2, h3, h1⟩
def Cel (w : World) (S : Nat → Prop) (t : Ty) (x : t.den) (ad : Addr) : Prop := ∃ cs, Cs w S t x cs ∧ ∀ j u, cs[j]? = some u → w.cell? (ad.add j) = some u
theorem Cel_el {t : Ty} {xs : List t.den} {cs : List Value} {ad : Addr} (l : Fl (Cs w S t) xs cs) (hc : ∀ j u, cs[j]? = some u → w.cell? (ad.add j) = some u) (i : Nat) (hi : i < xs.length) : Cel w S t xs[i] (ad.add (i * t.sz)) := by
 obtain ⟨c, h1, h2⟩ := Fl_get (fun _ _ => Cs_len) l i hi
 exact ⟨c, h1, fun j u hj => by rw [add_add]; exact hc _ _ (h2 j u hj)⟩
theorem Cel_pj {t : Ty} {x : t.den} {ad : Addr} {fs : List Nat} {q : Nat × Ty} (h : Cel w S t x ad) (e : t.off fs = some q) : (t.pj fs x).t = q.2 ∧ Cel w S (t.pj fs x).t (t.pj fs x).x (ad.add q.1) := by
 obtain ⟨cs, h1, h2⟩ := h
 obtain ⟨e1, c, e2, e3, _⟩ := Cs_pj h1 e
 exact ⟨e1, c, e2, fun j u hj => by rw [add_add]; exact h2 _ _ (e3 j u hj)⟩
theorem getD_of_lt {α : Type} (xs : List α) (i : Nat) (d : α) (h : i < xs.length) : xs.getD i d = xs[i] := by simp [List.getD, h]
theorem ag_iff {t : Ty} {e : TypeId} (hT : TyOk P t e) : (t.ag = true → ∃ d, P.underlying e = some d ∧ ((∃ fs, d = .struct fs) ∨ ∃ n e, d = .array n e)) ∧ (t.ag = false → ∃ d, P.underlying e = some d ∧ (∀ fs, d ≠ .struct fs) ∧ (∀ n e, d ≠ .array n e)) := by
 cases t <;> unfold TyOk at hT <;> refine ⟨fun h => ?_, fun h => ?_⟩ <;> first | (cases h; done) | exact hT.elim | skip
 ·exact ⟨_, hT.1, (fun _ => TypeDesc.noConfusion), (fun _ _ => TypeDesc.noConfusion)⟩
 ·exact ⟨_, hT.1, (fun _ => TypeDesc.noConfusion), (fun _ _ => TypeDesc.noConfusion)⟩
 ·exact ⟨_, hT.1, (fun _ => TypeDesc.noConfusion), (fun _ _ => TypeDesc.noConfusion)⟩
 ·exact ⟨_, hT.1, (fun _ => TypeDesc.noConfusion), (fun _ _ => TypeDesc.noConfusion)⟩
 ·obtain ⟨fs, h1, _⟩ := hT; exact ⟨_, h1, .inl ⟨fs, rfl⟩⟩
 ·obtain ⟨fs, h1, _⟩ := hT; exact ⟨_, h1, .inl ⟨fs, rfl⟩⟩
 ·obtain ⟨e1, e2, h1, _⟩ := hT; exact ⟨_, h1, (fun _ => TypeDesc.noConfusion), (fun _ _ => TypeDesc.noConfusion)⟩
 ·obtain ⟨n, e', h1, _⟩ := hT; exact ⟨_, h1, .inr ⟨n, e', rfl⟩⟩
theorem run_sizeOf {t : Ty} {e : TypeId} (hT : TyOk P t e) (w : World) : (sizeOf e).run P w = .ok t.sz w := by
 obtain ⟨i, z, h1, h2, h3, h4, h5⟩ := hT.info.ex
 simp [sizeOf, typeInfo, h1, h4]
theorem run_isAgg {t : Ty} {e : TypeId} (hT : TyOk P t e) (w : World) : (isAgg e).run P w = .ok t.ag w := by
 unfold isAgg
 rcases h : t.ag with _ | _
 ·obtain ⟨d, h1, h2, h3⟩ := (ag_iff hT).2 h
  simp only [Sem.run_bind, run_underlying h1, Result.andThen_ok]
  cases d <;> first | rfl | exact absurd rfl (h2 _) | exact absurd rfl (h3 _ _)
 ·obtain ⟨d, h1, ⟨fs, rfl⟩ | ⟨n, e', rfl⟩⟩ := (ag_iff hT).1 h
  ·simp only [Sem.run_bind, run_underlying h1, Result.andThen_ok]
   rfl
  ·simp only [Sem.run_bind, run_underlying h1, Result.andThen_ok]
   rfl
theorem run_loadVar {t : Ty} {e : TypeId} {x : t.den} {ad : Addr} (hT : TyOk P t e) (h : Cel w S t x ad) : ∃ v, (loadVar e ad).run P w = .ok v w ∧ Vs w S t x v := by
 obtain ⟨cs, h1, h2⟩ := h
 refine ⟨t.mk cs, ?_, cs, h1, rfl⟩
 unfold loadVar Ty.mk
 simp only [Sem.run_bind, run_isAgg hT, Result.andThen_ok]
 rcases ha : t.ag with _ | _
 ·have hl := Cs_len h1
  have : t.sz = 1 := by cases t <;> first | rfl | cases ha
  rw [this] at hl
  match cs, hl with
  | [c], _ =>
   have := h2 0 c rfl
   rw [show ad.add 0 = ad by unfold Addr.add; simp] at this
   simp [this]
 ·have h3 := run_loadCells_list (P := P) w ad cs h2
  simp only [if_true, Sem.run_bind, run_sizeOf hT, Result.andThen_ok, ← Cs_len h1, h3]
  rfl
theorem run_indexAt' {T e : TypeId} {ad : Addr} {n c : Nat} {t : Ty} {k : IntKind} {i : Int} (hu : P.underlying T = some (.slice e)) (hT : TyOk P t e) (h0 : 0 ≤ i) (h1 : i < n) :
  (Instr.indexAt T (.slice (some ad) n c) (.int k i)).run P w = .ok (.pointer (some (ad.add (i.toNat * t.sz)))) w := by
 simp [Instr.indexAt, run_underlying hu, asIntOf, h0, h1, run_sizeOf hT]
theorem off_app : ∀ {t : Ty} {fs : List Nat} {q : Nat × Ty} {n : Nat} {gs : List Nat} {r : Nat × Ty}, t.off fs = some q → q.2.off (n :: gs) = some r → t.off (fs ++ n :: gs) = some (q.1 + r.1, r.2)
 | t, [], q, n, gs, r, e, e2 => by
  unfold Ty.off at e
  have e : some (0, t) = some q := by simpa using e
  injection e with e; subst e
  rw [List.nil_append, e2, Nat.zero_add]
 | .pr a b, 0 :: fs, q, n, gs, r, e, e2 => off_app (t := a) (fs := fs) e e2
 | .pr a b, (m + 1) :: fs, q, n, gs, r, e, e2 => by
  have e' : (b.off (m :: fs)).map (fun q => (a.sz + q.1, q.2)) = some q := e
  obtain ⟨⟨o2, t2⟩, e3, e4⟩ := Option.map_eq_some_iff.1 e'
  subst e4
  have := off_app (t := b) (fs := m :: fs) e3 e2
  show (b.off (m :: (fs ++ n :: gs))).map (fun q => (a.sz + q.1, q.2)) = _
  rw [show (m :: (fs ++ n :: gs)) = (m :: fs) ++ n :: gs from rfl, this]
  simp [Nat.add_assoc]
 | .ar b, 0 :: m :: fs, q, n, gs, r, e, e2 => off_app (t := b) (fs := m :: fs) e e2
 | .ar b, [_], _, _, _, _, e, _ => by simp [Ty.off] at e
 | .ar b, (_ + 1) :: _ :: _, _, _, _, _, e, _ => by simp [Ty.off] at e
 | .int _, _ :: _, _, _, _, _, e, _ => by simp [Ty.off] at e
 | .bool, _ :: _, _, _, _, _, e, _ => by simp [Ty.off] at e
 | .str, _ :: _, _, _, _, _, e, _ => by simp [Ty.off] at e
 | .sl _ _, _ :: _, _, _, _, _, e, _ => by simp [Ty.off] at e
 | .un, _ :: _, _, _, _, _, e, _ => by simp [Ty.off] at e
 | .rf _, _ :: _, _, _, _, _, e, _ => by simp [Ty.off] at e
 | .fn _ _ _, _ :: _, _, _, _, _, e, _ => by simp [Ty.off] at e
 | .ifc _ _, _ :: _, _, _, _, _, e, _ => by simp [Ty.off] at e
 | .id _ _, _ :: _, _, _, _, _, e, _ => by simp [Ty.off] at e
 | .mp _ _, _ :: _, _, _, _, _, e, _ => by simp [Ty.off] at e
theorem ArOk_get : ∀ {j : Nat} {a b : Ty} {n : Nat} {e : TypeId} {r : Nat × Ty}, ArOk P (.pr a b) n e → (Ty.pr a b).off [j] = some r → j < n ∧ r = (j * a.sz, a) ∧ TyOk P a e ∧ 0 < a.sz
 | j, a, b, 0, e, r, h, _ => by unfold ArOk at h; exact h.elim
 | 0, a, b, n + 1, e, r, h, e2 => by
  unfold ArOk at h
  have e2 : a.off [] = some r := e2
  unfold Ty.off at e2
  injection e2 with e2
  exact ⟨Nat.succ_pos _, by rw [← e2, Nat.zero_mul], h.1, h.2.1.1⟩
 | j + 1, a, b, n + 1, e, r, h, e2 => by
  unfold ArOk at h
  obtain ⟨h1, h2, h3, h4⟩ := h
  have e' : (b.off [j]).map (fun q => (a.sz + q.1, q.2)) = some r := e2
  obtain ⟨q, e3, e4⟩ := Option.map_eq_some_iff.1 e'
  rcases h3 with rfl | ⟨c, rfl⟩
  ·simp [Ty.off] at e3
  ·obtain ⟨r1, r2, r3, r4⟩ := ArOk_get h4 e3
   refine ⟨Nat.succ_lt_succ r1, ?_, r3, r4⟩
   rw [← e4, r2, Nat.succ_mul, Nat.add_comm]
theorem run_indexAr {T e : TypeId} {ad : Addr} {n : Nat} {t : Ty} {k : IntKind} {i : Int} (hu : P.underlying T = some (.array n e)) (hT : TyOk P t e) (h0 : 0 ≤ i) (h1 : i < n) :
  (Instr.indexAt T (.pointer (some ad)) (.int k i)).run P w = .ok (.pointer (some (ad.add (i.toNat * t.sz)))) w := by
 simp [Instr.indexAt, run_underlying hu, asIntOf, h0, h1, run_sizeOf hT, Instr.sureAddr]
theorem aIdxA_ok (hTE : ∀ e t, TE e = some t → TyOk P t e) (h : RelC n0 w0 S0 N Fk f a w S V) {T : TypeId} {x y : Arg} {vx vy : Value} (hx : ArgOk Fk f w S V x vx) (hy : ArgOk Fk f w S V y vy) (he : aIdxA TE T [x, y] K) :
  Out n0 w0 S0 N Fk f a S key K ((Instr.indexAt T vx vy).run P w) := by
 unfold aIdxA at he
 split at he
 ·rename_i e t xs o1 kk i o2 heq
  simp only [List.cons.injEq, and_true] at heq
  obtain ⟨rfl, rfl⟩ := heq
  obtain ⟨h1, h2, h3, h4⟩ := he
  have hT := hTE _ _ h1
  unfold TyOk at hT
  obtain ⟨hu, _, hT, _⟩ := hT
  obtain ⟨A, c, cs, e1, e2, e3, e4⟩ := Vs_sl.1 hx.pv
  injection e1 with e1
  rw [e1, hy.int]
  have hi : Int.toNat i < List.length xs := toNat_lt' h2 h3
  rcases e4 with rfl | ⟨ad, rfl, hs, hc⟩
  ·simp at hi
  rw [run_indexAt' hu hT h2 h3]
  rw [getD_of_lt _ _ _ hi] at h4
  obtain ⟨d, d1, d2⟩ := Cel_el e3 hc _ hi
  exact Out.pure h h4 ⟨_, d, rfl, by rw [add_block]; exact hs, d1, d2⟩ (fun k hk => by cases hk)
 ·rename_i k e e' t' ids m kk i o2 heq
  simp only [List.cons.injEq, and_true] at heq
  obtain ⟨rfl, rfl⟩ := heq
  obtain ⟨h1, h2, h3, h4⟩ := he
  have hT := hTE _ _ h1
  unfold TyOk at hT
  obtain ⟨hu, _, hT, _⟩ := hT
  obtain ⟨ho, hs⟩ := hx.sh rfl
  have h5 := (OR_x rfl (h.ob _ _ ho)).2
  have h5 : w.ownsRow 0 e 1 (V k) (List.length ids) (List.map V ids) := h5
  obtain ⟨A, c, e1, e2, e3⟩ := own_row h5
  have hv := hx.pv _ _ hs
  rw [hv, e1, hy.int]
  have hi : Int.toNat i < List.length ids := toNat_lt' h2 h3
  rcases e3 with ⟨_, e4, _⟩ | ⟨g, rfl, hc⟩
  ·omega
  rw [run_indexAt' hu hT h2 h3]
  refine Out.pure h h4 (fun n t e => ?_) (fun j hj => hx.ks j hj)
  rw [hs] at e
  injection e with e; injection e with q1 q2; subst q1 q2
  exact ⟨h2, h3, ⟨g, 0, none⟩, _, c, (0, .id e' t'), e1, by unfold Ty.off; rfl, by rw [Nat.add_zero]; rfl⟩
 ·rename_i k o kk i o2 hnid heq
  simp only [List.cons.injEq, and_true] at heq
  obtain ⟨rfl, rfl⟩ := heq
  obtain ⟨h1, h2, h3, h4⟩ := he
  have hT := hTE _ _ h1
  unfold TyOk at hT
  obtain ⟨hu, _, hT, _, hr⟩ := hT
  obtain ⟨ho, hs⟩ := hx.sh rfl
  rw [row_ln hr] at hs
  obtain ⟨A, c, cs, e1, e2, e3, e4⟩ := h.own_sl ho hr
  have hv := hx.pv _ _ hs
  rw [hv, e1, hy.int]
  have hi : Int.toNat i < o.xs.length := toNat_lt' h2 h3
  rcases e4 with e4 | ⟨ad, rfl, hc⟩
  ·rw [e4] at hi; simp at hi
  rw [run_indexAt' hu hT h2 h3]
  refine Out.pure h h4 (fun n t e => ?_) (fun j hj => hx.ks j hj)
  rw [hs] at e
  injection e with e; injection e with q1 q2; subst q1 q2
  exact ⟨h2, h3, ad, _, c, (0, o.t), e1, by unfold Ty.off; rfl, by rw [Nat.add_zero]⟩
 ·rename_i k l m o kk i o2 heq
  simp only [List.cons.injEq, and_true] at heq
  obtain ⟨rfl, rfl⟩ := heq
  obtain ⟨h1, h2, h3, h4⟩ := he
  have hT := hTE _ _ h1
  unfold TyOk at hT
  obtain ⟨hu, _, hT, _, hr⟩ := hT
  obtain ⟨ho, hs⟩ := hx.sh rfl
  rw [row_ln hr] at hs
  obtain ⟨hlm, hmn, A', m', c', A2, q1, q2, q6⟩ := hx.pv _ _ hs
  obtain ⟨A, c, cs, e1, e2, e3, e4⟩ := h.own_sl ho hr
  rw [e1] at q1
  obtain ⟨q3, q4, q5⟩ := own_len q1
  subst q3 q4 q5
  rw [q2, hy.int]
  obtain ⟨i, rfl⟩ := Int.eq_ofNat_of_zero_le h2
  have hi : i < m - l := Int.ofNat_lt.1 h3
  have q6 := q6.resolve_left (by omega)
  rcases e4 with e4 | ⟨ad, rfl, hc⟩
  ·rw [e4] at hmn; simp at hmn; omega
  rw [q6]
  simp only [Option.map_some]
  rw [run_indexAt' hu hT h2 h3]
  refine Out.pure h h4 (fun n t e => ?_) (fun j hj => hx.ks j hj)
  rw [hs] at e
  injection e with e; injection e with q1 q2; subst q1 q2
  refine ⟨by omega, by omega, ad, _, c, (0, o.t), e1, by unfold Ty.off; rfl, ?_⟩
  rw [add_add, Nat.add_zero, ← Nat.add_mul, Int.toNat_natCast, show ((l : Int) + (i : Int)).toNat = l + i by omega]
 ·rename_i k i fs o kk jj o2 heq
  simp only [List.cons.injEq, and_true] at heq
  obtain ⟨rfl, rfl⟩ := heq
  unfold arK at he
  split at he
  ·rename_i o1 b hq
   obtain ⟨h1, h2, h3, h4⟩ := he
   have hT := hTE _ _ h1
   unfold TyOk at hT
   obtain ⟨n, e', hu, _, hT⟩ := hT
   obtain ⟨r, hr⟩ := Option.isSome_iff_exists.1 h3
   have hbp : ∃ b1 b2, b = .pr b1 b2 := by cases b <;> first | exact ⟨_, _, rfl⟩ | (unfold ArOk at hT; first | exact hT.elim | (simp [Ty.off] at hr))
   obtain ⟨b1, b2, rfl⟩ := hbp
   obtain ⟨r1, r2, r3, r4⟩ := ArOk_get hT hr
   obtain ⟨ho, hs⟩ := hx.sh rfl
   obtain ⟨i0, i1, ad, m, c, q', e1, e2, e3⟩ := hx.pv _ _ hs
   rw [hq] at e2; injection e2 with e2; subst e2
   rw [e3, hy.int, run_indexAr hu r3 h2 (by omega), add_add]
   refine Out.pure h h4 (fun n' t' e => ?_) (fun j hj => hx.ks j hj)
   rw [hs] at e
   injection e with e; injection e with q1 q2; subst q1 q2
   refine ⟨i0, i1, ad, m, c, _, e1, off_app (n := 0) (gs := [Int.toNat jj]) hq hr, ?_⟩
   rw [r2, Nat.add_assoc]
  ·exact he.elim
 ·exact he.elim
theorem run_loadAt {t : TypeId} {ad : Addr} : Instr.loadAt t (.pointer (some ad)) = loadVar t ad := rfl
theorem aLoad_ok (hTE : ∀ e t, TE e = some t → TyOk P t e) (h : RelC n0 w0 S0 N Fk f a w S V) {T : TypeId} {x : Arg} {vx : Value} (hx : ArgOk Fk f w S V x vx) (he : aLoad TE T [x] K) :
  Out n0 w0 S0 N Fk f a S key K ((Instr.loadAt T vx).run P w) := by
 unfold aLoad at he
 split at he
 ·rename_i t x' o heq
  simp only [List.cons.injEq, and_true] at heq
  subst heq
  obtain ⟨h1, h2⟩ := he
  obtain ⟨ad, cs, rfl, hs, d1, d2⟩ := hx.pv
  obtain ⟨v, r1, r2⟩ := run_loadVar (P := P) (hTE _ _ h1) ⟨cs, d1, d2⟩
  rw [run_loadAt, r1]
  exact Out.ro h h2 r2
 ·rename_i t x' o heq
  simp only [List.cons.injEq, and_true] at heq
  subst heq
  obtain ⟨h1, h2⟩ := he
  obtain ⟨ad, cs, q1, hs, d1, d2⟩ := Vs_rf.1 hx.pv
  injection q1 with q1
  obtain ⟨v, r1, r2⟩ := run_loadVar (P := P) (hTE _ _ h1) ⟨cs, d1, d2⟩
  rw [q1, run_loadAt, r1]
  exact Out.ro h h2 r2
 ·rename_i k i e e' t' ids m heq
  simp only [List.cons.injEq, and_true] at heq
  subst heq
  obtain ⟨h1, _, h2⟩ := he
  obtain ⟨ho, hs⟩ := hx.sh rfl
  obtain ⟨i0, i1, ad, m', c, q, e1, e2, e3⟩ := hx.pv _ _ hs
  have h5 := (OR_x rfl (h.ob _ _ ho)).2
  have h5 : w.ownsRow 0 e 1 (V k) (List.length ids) (List.map V ids) := h5
  obtain ⟨A, c2, e4, e5, e6⟩ := own_row h5
  rw [e1] at e4
  obtain ⟨q1, q2, q3⟩ := own_len e4
  subst q1 q2 q3
  have hi : Int.toNat i < List.length ids := toNat_lt' i0 i1
  rcases e6 with ⟨e6, _⟩ | ⟨g, e6, hc⟩
  ·cases e6
  injection e6 with e6; subst e6
  have e2 : some (0, Ty.id e' t') = some q := by simpa [Ty.off] using e2
  injection e2 with e2; subst e2
  have hcell := hc (Int.toNat i) (V ids[Int.toNat i]) (by rw [List.getElem?_map, List.getElem?_eq_getElem hi]; rfl)
  have hT := hTE _ _ h1
  have hrun : (Instr.loadAt T vx).run P w = .ok (V ids[Int.toNat i]) w := by
   rw [e3, run_loadAt]
   unfold loadVar
   simp only [Sem.run_bind, run_isAgg hT, Result.andThen_ok]
   have hsz : Int.toNat i * Ty.sz (.id e' t') + 0 = Int.toNat i := by show Int.toNat i * 1 + 0 = _; omega
   simp only [hsz]
   simp [elT_ag, hcell]
  rw [hrun]
  rw [getD_of_lt _ _ _ hi] at h2
  obtain ⟨j0, j1, j2⟩ := h.fi _ _ ho ids[Int.toNat i] (List.getElem_mem hi)
  exact Out.pure h h2 (fun _ _ _ => rfl) (fun j hj => by rw [List.mem_singleton.1 hj, j2]; exact h.not_fr j1)
 ·rename_i k i fs o hnid heq
  simp only [List.cons.injEq, and_true] at heq
  subst heq
  obtain ⟨hr, h1, h2⟩ := he
  obtain ⟨ho, hs⟩ := hx.sh rfl
  rw [row_ln hr] at hs
  obtain ⟨i0, i1, ad, m, c, q, e1, e2, e3⟩ := hx.pv _ _ hs
  obtain ⟨A, c', cs, e1', _, e4, e5⟩ := h.own_sl ho hr
  rw [e1] at e1'
  injection e1' with e1' _ _
  subst e1'
  have hi : Int.toNat i < o.xs.length := toNat_lt' i0 i1
  rcases e5 with e5 | ⟨ad', e5, hc⟩
  ·rw [e5] at hi; simp at hi
  injection e5 with e5; subst e5
  have hcel := Cel_el e4 hc _ hi
  rw [getD_of_lt _ _ _ hi] at h1 h2
  obtain ⟨t1, hcel⟩ := Cel_pj hcel e2
  rw [add_add] at hcel
  obtain ⟨v, r1, r2⟩ := run_loadVar (P := P) (hTE _ _ h1) hcel
  rw [e3, run_loadAt, r1]
  exact Out.ro h h2 r2
 ·exact he.elim
end
end Go.TT
end

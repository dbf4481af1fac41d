/- Machine side and arithmetic of the law, put together by a program of the session. No conditions. -/
import Derived.RangeFuncRecord
import Derived.RangeFuncSeq
import Derived.Test.YtillaipaanancaaGreatKdr10
section
namespace Go.TT
open Go.RowKit
set_option linter.unusedVariables false
set_option linter.unusedSimpArgs false
def wrs : Code → Nat → Bool
 | .region _ ops _, s => ops.toList.any fun o => o.dst == some s
 | .seq a b, s => wrs a s || wrs b s
 | .cond _ a b, s => wrs a s || wrs b s
 | .block _ b, s => wrs b s
 | .loop b, s => wrs b s
 | _, _ => false
def noRF : Code → Bool
 | .rangeFunc _ _ _ _ => false
 | .seq a b => noRF a && noRF b
 | .cond _ a b => noRF a && noRF b
 | .block _ b => noRF b
 | .loop b => noRF b
 | _ => true
def Kp (c : Code) (a a' : Act) : Prop := (∀ s, wrs c s = false → a'.tmps.getD s undef = a.tmps.getD s undef) ∧ (noRF c = true → a'.defers = a.defers)
theorem put_keep {a : Act} {d : Option Nat} {v : Value} {s : Nat} (h : d ≠ some s) : (a.put d v).tmps.getD s undef = a.tmps.getD s undef := by
 cases d with
 | none => rfl
 | some d =>
  have : d ≠ s := fun e => h (by rw [e])
  simp [Act.put, Array.getD_eq_getD_getElem?, Array.getElem?_setIfInBounds_ne this]
theorem put_defers {a : Act} {d : Option Nat} {v : Value} : (a.put d v).defers = a.defers := by cases d <;> rfl
section
variable {P : Program} {n0 : Nat → Prop} {w0 : World} {S0 : Nat → Prop} {N : Nat} {Fk Fk' : Nat → Prop} {f f' : FS} {a a' : Act} {w w' : World} {S S' : Nat → Prop} {V V' : Nat → Value}
theorem Dfs_nil {n0 : Nat → Prop} {w : World} {S : Nat → Prop} : Dfs n0 w S [] := ⟨fun d hd => (by cases hd), .nil⟩
def Own (f : FS) (V : Nat → Value) (b : Nat) : Prop := ∃ k o, f.o k = some o ∧ o.mu = true ∧ blk (V k) = some b
theorem OR_obj {o : Ob} {v : Value} (h : OR w S V o v) (hm : o.mu = true) : ∀ b, blk v = some b → (∃ cs t fr, w.heap[b]? = some (.cells cs t fr)) ∨ ∃ es c, w.heap[b]? = some (.map es c) := by
 have key : ∀ {e : TypeId} {z n : Nat} {cs : List Value}, w.ownsRow 0 e z v n cs → ∀ b, blk v = some b → ∃ cs t fr, w.heap[b]? = some (.cells cs t fr) := fun {e z n cs} h b hb => by
  rcases h.2 with ⟨q1, _⟩ | ⟨g, cap, cur, q1, q2, q3, _⟩
  ·rw [q1] at hb; cases hb
  ·rw [q1] at hb; injection hb with hb; subst hb; exact ⟨_, _, _, q3⟩
 rcases hr : o.t.row with _ | _
 ·obtain ⟨_, h⟩ := OR_x hr h
  obtain ⟨e, t, xs, m⟩ := o
  cases t <;> try cases hr
  ·exact fun b hb => .inl (key h b hb)
  ·obtain ⟨r, es, c, h1, h2, _⟩ := h
   intro b hb; rw [h1] at hb; injection hb with hb; subst hb; exact .inr ⟨_, _, h2⟩
 ·rw [OR_own hr hm] at h
  obtain ⟨cs, h1, _⟩ := h
  exact fun b hb => .inl (key h1 b hb)
theorem RelC.own_not (h : RelC n0 w0 S0 N Fk f a w S V) {b : Nat} {x : Obj} (hx : w.heap[b]? = some x) (h1 : ∀ cs t fr, x ≠ .cells cs t fr) (h2 : ∀ es c, x ≠ .map es c) : ¬ Own f V b := by
 rintro ⟨k, o, e, hm, hb⟩
 rcases OR_obj (h.ob k o e) hm b hb with ⟨cs, t, fr, q⟩ | ⟨es, c, q⟩
 ·rw [hx] at q; injection q with q; exact h1 _ _ _ q
 ·rw [hx] at q; injection q with q; exact h2 _ _ q
theorem RelC.rebase (h : RelC n0 w0 S0 N Fk f a w S V) (hd : a.defers = []) : RelC (fun b => w.heap.size ≤ b ∨ Own f V b) w S N Fk f a w S V :=
 ⟨Bel.refl _ _, fun b hb => .inl hb, by rw [hd]; exact Dfs_nil, h.sz, h.sl, h.ob, h.ds, h.sp, fun k o e hm b hb => ⟨.inr ⟨k, o, e, hm, hb⟩, (h.ow k o e hm b hb).2⟩, fun b hb _ => hb, h.lt, h.fr, h.fg, h.fi, h.fe⟩
theorem RelC.sp' (h : RelC n0 w0 S0 N Fk f a w S V) {b : Nat} (hb : S b) : ¬ (w.heap.size ≤ b ∨ Own f V b) := by
 rintro (q | ⟨k, o, e, hm, q⟩)
 ·have := h.lt b hb; omega
 ·exact h.sp k o e hm b q hb
theorem RelC.frame (h : RelC n0 w0 S0 N Fk f a w S V) (h' : RelC (fun b => w.heap.size ≤ b ∨ Own f V b) w S N Fk' f' a' w' S' V') (hd : a'.defers = []) :
  RelC n0 w0 S0 N Fk' f' a' w' (fun b => S' b ∨ S b) V' := by
 have hn : ∀ b, (w.heap.size ≤ b ∨ Own f V b) → n0 b := fun b hb => hb.elim (h.size b) fun ⟨k, o, e, hm, q⟩ => (h.ow k o e hm b q).1
 have h1 : RelC n0 w0 S0 N Fk' f' a' w' S' V' :=
  ⟨h.bel.trans (h'.bel.mono fun k _ hk => hn k hk), h.nle, by rw [hd]; exact Dfs_nil, h'.sz, h'.sl, h'.ob, h'.ds, h'.sp, fun k o e hm b hb => ⟨hn b (h'.ow k o e hm b hb).1, (h'.ow k o e hm b hb).2⟩,
   fun b hb hnb => h.old b (h'.old b hb fun q => hnb (hn b q)) hnb, h'.lt, h'.fr, h'.fg, h'.fi, h'.fe⟩
 exact h1.ext (S' := S) (fun b hb => Nat.lt_of_lt_of_le (h.lt b hb) h'.bel.size) h.old fun k o b e hm hb hs => h.sp' hs (h'.ow k o e hm b hb).1
theorem RelC.stays (h : RelC n0 w0 S0 N Fk f a w S V) (h' : RelC (fun b => w.heap.size ≤ b ∨ Own f V b) w S N Fk' f' a' w' S' V') {b : Nat} (hb : b < w.heap.size) (ho : ¬ Own f V b) : w'.heap[b]? = w.heap[b]? :=
 h'.bel.block b hb fun q => q.elim (fun q => by omega) ho
theorem RelC.outS (h : RelC n0 w0 S0 N Fk f a w S V) (h' : RelC (fun b => w.heap.size ≤ b ∨ Own f V b) w S N Fk' f' a' w' S' V') {b : Nat} (hb : b < w.heap.size) (ho : ¬ Own f V b) (hs : ¬ S b) : ¬ (S' b ∨ S b) :=
 fun q => q.elim (fun q => hs (h'.old b q fun q => q.elim (fun q => by omega) ho)) hs
theorem RelC.agS (h : RelC n0 w0 S0 N Fk f a w S V) (h' : RelC (fun b => w.heap.size ≤ b ∨ Own f V b) w S N Fk' f' a' w' S' V') : Ag S w w' := fun b hb => h'.bel.block b (h.lt b hb) (h.sp' hb)
theorem RelC.act (h : RelC n0 w0 S0 N Fk f a w S V) (hs : a'.tmps.size = N) (hd : Dfs n0 w S a'.defers) (hg : ∀ i, f.g i = .bot ∨ a'.tmps.getD i undef = a.tmps.getD i undef) : RelC n0 w0 S0 N Fk f a' w S V :=
 ⟨h.bel, h.nle, hd, hs, fun i => by
  rcases hg i with e | e
  ·rw [e]; exact trivial
  ·rw [e]; exact h.sl i, h.ob, h.ds, h.sp, h.ow, h.old, h.lt, h.fr, h.fg, h.fi, h.fe⟩
theorem RelC.putL (h : RelC n0 w0 S0 N Fk f a w S V) {l : Nat} {x o' : Obj} (hl : w.heap[l]? = some x) (h1 : ∀ cs t fr, x ≠ .cells cs t fr) (h2 : ∀ es c, x ≠ .map es c) (hS : ¬ S l) (hn : n0 l) (hd : a.defers = []) : RelC n0 w0 S0 N Fk f a (w.putObj l o') S V := by
 have hno := h.own_not hl h1 h2
 have ha : Ag S w (w.putObj l o') := fun b hb => World.putObj_heap_other fun e => hS (e ▸ hb)
 have hsz : (w.putObj l o').heap.size = w.heap.size := by simp
 refine ⟨h.bel.trans ⟨rfl, rfl, rfl, by simp, fun k _ hk => World.putObj_heap_other fun e => hk (e ▸ hn)⟩, h.nle, by rw [hd]; exact Dfs_nil, h.sz, fun i => PVr_mono (fun _ h => h) ha (fun k _ => ⟨fun _ h => h, rfl⟩) (h.sl i),
  fun k o e => OR_mono (fun _ h => h) ha (fun hm b hb => World.putObj_heap_other fun q => hno ⟨k, o, e, hm, q ▸ hb⟩) (fun _ _ => rfl) (h.ob k o e), h.ds, h.sp, fun k o e hm b hb => ⟨(h.ow k o e hm b hb).1, by rw [hsz]; exact (h.ow k o e hm b hb).2⟩, h.old, fun b hb => by rw [hsz]; exact h.lt b hb, h.fr, h.fg, h.fi, h.fe⟩
theorem cn1_bot {hp : Bool} {k : Nat} {m : HM} {c : CA} {i : Nat} (h : i ≠ k) : lkp .bot (cn1 f hp N k m c).1 i = lkp .bot c.1 i := by
 obtain ⟨g, o, od⟩ := c
 have hp' : ∀ (p : PV), lkp .bot ((k, p) :: g) i = lkp .bot g i := fun p => by show (if i = k then p else lkp .bot g i) = _; rw [if_neg h]
 cases m <;> simp only [cn1] <;> try exact hp' _
 ·split
  ·split
   ·split
    ·exact hp' _
    ·rfl
   ·split
    ·split
     ·exact hp' _
     ·rfl
    ·rfl
   ·rfl
  ·rfl
 ·split
  ·split
   ·split
    ·split
     ·exact hp' _
     ·rfl
    ·rfl
   ·rfl
  ·rfl
 ·split
  ·split
   ·split
    ·split
     ·split
      ·exact hp' _
      ·rfl
     ·rfl
    ·rfl
   ·rfl
  ·rfl
theorem cnl_bot {hp : Bool} {i : Nat} : ∀ (l : List (Nat × HM)) (c : CA), (∀ x ∈ l, x.1 ≠ i) → lkp .bot (cnl f hp N l c).1 i = lkp .bot c.1 i
 | [], c, _ => rfl
 | (k, m) :: l, c, h => by
  unfold cnl
  rw [cnl_bot l _ (fun x hx => h x (List.mem_cons_of_mem _ hx)), cn1_bot (fun e => h (k, m) List.mem_cons_self e.symm)]
theorem canon_bot {i : Nat} (l : List (Nat × HM)) (h : ∀ x ∈ l, x.1 ≠ i) : (f.canon N l).g i = .bot := cnl_bot l _ h
def puts (f : FS) : List Nat → List TV → FS
 | q :: qs, y :: ys => puts (f.put (some q) (.ro y.t y.x)) qs ys
 | _, _ => f
theorem RelC.puts : ∀ {qs : List Nat} {ys : List TV} {vs : List Value} {f : FS} {a : Act}, RelC n0 w0 S0 N Fk f a w S V → (∀ q ∈ qs, q < N) → Args w S ys vs → ys.length = qs.length →
  RelC n0 w0 S0 N Fk (TT.puts f qs ys) { tmps := (qs.zip vs).foldl (fun t (p, v) => t.setIfInBounds p v) a.tmps, defers := a.defers } w S V
 | [], [], [], f, a, h, _, _, _ => h
 | q :: qs, y :: ys, v :: vs, f, a, h, hq, ha, hl => by
  unfold TT.puts
  have h1 := h.put (p := .ro y.t y.x) (v := v) ha.1 (fun k hk => by cases hk) (some q) (fun i e => by injection e with e; subst e; exact hq _ List.mem_cons_self)
  exact RelC.puts h1 (fun q' hq' => hq q' (List.mem_cons_of_mem _ hq')) ha.2 (by simpa using hl)
 | [], _ :: _, _, _, _, _, _, _, hl => by simp at hl
 | _ :: _, [], _, _, _, _, _, _, hl => by simp at hl
 | [], [], _ :: _, _, _, _, _, ha, _ => ha.elim
 | _ :: _, _ :: _, [], _, _, _, _, ha, _ => ha.elim
theorem foldl_keep {s : Nat} : ∀ (l : List (Nat × Value)) (t : Array Value), (∀ x ∈ l, x.1 ≠ s) → (l.foldl (fun t (p, v) => t.setIfInBounds p v) t).getD s undef = t.getD s undef
 | [], t, _ => rfl
 | (p, v) :: l, t, h => by
  rw [List.foldl_cons, foldl_keep l _ (fun x hx => h x (List.mem_cons_of_mem _ hx))]
  simp [Array.getD_eq_getD_getElem?, Array.getElem?_setIfInBounds_ne (h (p, v) List.mem_cons_self)]
end
def Vis (P : Program) (g : FuncId) (al : List TV) (M : Nat) (el : Nat → List TV) (D : Nat → Prop) : Prop :=
 fnOk P g ∧ ∀ (m l : Nat) (w : World) (S : Nat → Prop) (lb : List Value) (J : Nat → (Nat → Prop) → World → Prop) (Jx : Nat → World → Prop), 1 ≤ m → (∀ b, S b → b < w.heap.size) → Args w S al lb →
  (∀ k T A B, J k T A → Below A.heap.size A B → J k T B) → (∀ k T A, J k T A → Ag S w A ∧ w.heap.size ≤ A.heap.size) → (∀ k T A, J k T A → k < M → D k) →
  (∀ k vs A0 A T S', k < M → J k T A0 → Below A0.heap.size A0 A → Args A S' (el k) vs → (∀ b, S' b → b < A.heap.size) → (∀ b, b < A0.heap.size → S' b → T b) →
   YieldAt Fence.wide (m - 1) P l vs.toArray A fun e W' => (e = .returned (.bool true) ∧ J (k + 1) (fun b => T b ∨ S' b) W' ∧ Ag (fun b => T b ∨ S' b) A W') ∨ (e = .returned (.bool false) ∧ Jx k W')) →
  J 0 S w → CallsIn Fence.wide m P g (#[.func (.yield l) #[] #[]] ++ lb.toArray) w fun e W' => (∃ v, e = .returned v) ∧ ((∃ T, J M T W') ∨ ∃ k, k < M ∧ Jx k W')
end Go.TT
end
section
namespace Go.TT
open Go.RowKit
set_option linter.unusedVariables false
set_option linter.unusedSimpArgs false
abbrev KE := Exit → Nat → FS → Prop
def rndK (X : FS → Prop) (N : Nat) (h : List (Nat × HM)) (Q : KE) : KE
 | .normal, _, f => X (f.canon N h)
 | .ret, _, f => Q .ret (2 * N) (f.canon N h)
 | .exit id, _, f => Q (.exit id) (2 * N) (f.canon N h)
 | _, _, _ => False
def asgK (B : Nat → FS → KE → Prop) (Q : KE) : KE
 | .normal, nx, f => B nx f Q
 | _, _, _ => False
def rfr (A B : Nat → FS → KE → Prop) (qs : List Nat) (N : Nat) (h : List (Nat × HM)) (Q : KE) (el : Nat → List TV) (D : Nat → Prop) : Nat → Nat → FS → Prop
 | 0, _, g => Q .normal (2 * N) g
 | m + 1, i, g => D i ∧ A (2 * N) (puts g qs (el i)) (asgK B (rndK (rfr A B qs N h Q el D m (i + 1)) N h Q))
def rfV (p : PV) (K : FuncId → List TV → Prop) : Prop := match p with
 | .ro (.fn (.func g) a c) z => a.tvs z.1 = [] ∧ K g (c.tvs z.2)
 | _ => False
def rfOk (x y : Code) (qs : List Nat) (N : Nat) (h : List (Nat × HM)) : Bool := (noRF x && noRF y) && (qs.all (fun q => decide (q < N)) && h.all fun k => !(wrs x k.1) && (!(wrs y k.1) && !(qs.contains k.1)))
def Fin (n0 : Nat → Prop) (w0 : World) (S0 : Nat → Prop) (N : Nat) (Q : KE) (e : Exit) (a : Act) (w : World) : Prop := ∃ nx f S V, Q e nx f ∧ (2 * N ≤ nx ∧ nx % 2 = 0) ∧ RelC n0 w0 S0 N (Fe nx) f a w S V
def GoodA (P : Program) (N : Nat) (r : Option Nat) (n : Nat) (A : Nat → FS → KE → Prop) (c : Code) : Prop :=
 ∀ (n0 : Nat → Prop) (w0 : World) (S0 : Nat → Prop) (nx : Nat) (f : FS) (a : Act) (w : World) (S : Nat → Prop) (V : Nat → Value) (Q : KE),
  RelC n0 w0 S0 N (Fe nx) f a w S V → (2 * N ≤ nx ∧ nx % 2 = 0) → A nx f Q → c.wpIn (rnd r) n P (fun e a' w' => Fin n0 w0 S0 N Q e a' w' ∧ Kp c a a') a w
theorem Args_len {w : World} {S : Nat → Prop} : ∀ {l : List TV} {vs : List Value}, Args w S l vs → l.length = vs.length
 | [], [], _ => rfl
 | _ :: _, _ :: _, h => congrArg (· + 1) (Args_len h.2)
 | [], _ :: _, h => h.elim
 | _ :: _, [], h => h.elim
theorem call_ok {P : Program} {g : FuncId} (h : fnOk P g) (args : Array Value) (w : World) : (callFunc g args).run P w = .ok (.enter g args) w := by
 obtain ⟨F, f1, f2, f3⟩ := h
 have hb3 : F.body.isNone = false := by
  rw [Option.isSome_iff_ne_none] at f3
  cases hF : F.body with
  | none => exact absurd hF f3
  | some _ => rfl
 simp only [callFunc, Sem.run_bind, run_program, Result.andThen_ok, f1, f2, hb3, Bool.false_eq_true, if_false, Sem.run_pure]
section
variable {P : Program} {n0 : Nat → Prop} {w0 : World} {S0 : Nat → Prop} {N : Nat} {f g : FS} {a a0 : Act} {w A : World} {S S' : Nat → Prop} {V V' : Nat → Value} {lp : Loop}
structure Bk (n0 : Nat → Prop) (w0 : World) (S0 : Nat → Prop) (N : Nat) (w : World) (S : Nat → Prop) (a0 : Act) (lp : Loop) (g : FS) (A : World) (S' : Nat → Prop) (V' : Nat → Value) : Prop where
 rel : RelC n0 w0 S0 N (Fe (2 * N)) g a0 A S' V'
 sl : ¬ S' (w.heap.size + 1)
 sd : ¬ S' w.heap.size
 sub : ∀ b, S b → S' b
 ag : Ag S w A
 sz : w.heap.size + 2 ≤ A.heap.size
 lp : A.heap[w.heap.size + 1]? = some (.loop lp)
 df : A.heap[w.heap.size]? = some (.deferred (some []))
theorem Bk.grow (hw : ∀ b, S b → b < w.heap.size) (h : Bk n0 w0 S0 N w S a0 lp g A S' V') {B : World} (hb : Below A.heap.size A B) : Bk n0 w0 S0 N w S a0 lp g B S' V' :=
 ⟨h.rel.grow hb, h.sl, h.sd, h.sub, fun b hs => (hb.block b (by have := hw b hs; have := h.sz; omega)).trans (h.ag b hs), Nat.le_trans h.sz hb.size, (hb.block _ (by have := h.sz; omega)).trans h.lp, (hb.block _ (by have := h.sz; omega)).trans h.df⟩
theorem Bk.put (hw : ∀ b, S b → b < w.heap.size) (h : Bk n0 w0 S0 N w S a0 lp g A S' V') (hd : a0.defers = []) (hn : n0 (w.heap.size + 1)) (lp' : Loop) : Bk n0 w0 S0 N w S a0 lp' g (A.putObj (w.heap.size + 1) (.loop lp')) S' V' :=
 ⟨h.rel.putL h.lp (fun _ _ _ e => by cases e) (fun _ _ e => by cases e) h.sl hn hd, h.sl, h.sd, h.sub, fun b hs => (World.putObj_heap_other (by have := hw b hs; omega)).trans (h.ag b hs), by simpa using h.sz, World.putObj_heap_same (by have := h.sz; omega), (World.putObj_heap_other (by omega)).trans h.df⟩
theorem rf_ok {n : Nat} {x y : Code} {AX AY : Nat → FS → KE → Prop} {v : Operand} {qs : Array Nat} {hh : List (Nat × HM)} {Q : KE} {nx : Nat}
  (hX : ∀ l n, GoodA P N (some l) n AX x) (hY : ∀ l n, GoodA P N (some l) n AY y) (h : RelC n0 w0 S0 N (Fe nx) f a w S V) (hok : rfOk x y qs.toList N hh = true)
  (hv : rfV (f.op v) fun g al => ∃ M el D, Vis P g al M el D ∧ (∀ i, (el i).length = qs.size) ∧ rfr AX AY qs.toList N hh Q el D M 0 (f.canon N hh)) :
  (Code.rangeFunc v qs x y).wpIn (rnd none) n P (fun e a' w' => Fin n0 w0 S0 N Q e a' w' ∧ Kp (.rangeFunc v qs x y) a a') a w := by
 simp only [rfOk, Bool.and_eq_true, List.all_eq_true, decide_eq_true_eq, Bool.not_eq_true'] at hok
 obtain ⟨⟨nfx, nfy⟩, hq, hk⟩ := hok
 have hpv := (h.arg v).pv
 have hres : (f.res v).1 = f.op v := rfl
 rw [hres] at hpv
 unfold rfV at hv
 split at hv
 case h_2 => exact hv.elim
 rename_i gf ta tc z hz
 obtain ⟨htv, M, el, D, ⟨hfn, hvis⟩, hlen, hr⟩ := hv
 rw [hz] at hpv
 obtain ⟨l, m, hev, hl1, hl2⟩ := Vs_fn.1 hpv
 have hl1 := Vl_args hl1
 have hl2 := Vl_args hl2
 rw [htv] at hl1
 have hl0 : l = [] := by cases l with
  | nil => rfl
  | cons _ _ => exact hl1.elim
 subst hl0
 clear hl1 htv
 have hlt := h.lt
 obtain ⟨a0, ha0⟩ : ∃ a0 : Act, { a with defers := [] } = a0 := ⟨_, rfl⟩
 have ht0 : a0.tmps = a.tmps := by rw [← ha0]
 have hd0 : a0.defers = [] := by rw [← ha0]
 have h0 : RelC n0 w0 S0 N (Fe nx) f a0 w S V := h.act (by rw [ht0]; exact h.sz) (by rw [hd0]; exact Dfs_nil) (fun i => .inr (by rw [ht0]))
 obtain ⟨S1, V1, hc1⟩ := (h0.rebase hd0).canon hh
 have hc := h0.frame hc1 hd0
 have hagS : Ag S w w := fun _ _ => rfl
 have n0l : n0 (w.heap.size + 1) := h.size _ (by omega)
 have n0d : n0 w.heap.size := h.size _ (Nat.le_refl _)
 refine wpIn_rangeFunc ?_
 intro fn hF
 obtain ⟨R, hR⟩ : ∃ R : LoopState → Option Code → Loop, R = fun st pe => { state := st, pending := pe, fn := fn, tmps := a.tmps, params := qs, assign := x, body := y, defers := w.heap.size } := ⟨_, rfl⟩
 obtain ⟨W1, hW1⟩ : ∃ W1, (w.alloc (.deferred (some []))).alloc (.loop (R .ready none)) = W1 := ⟨_, rfl⟩
 have hb1 : Below w.heap.size w W1 := by
  rw [← hW1]
  exact ((Below.refl _ w).alloc (Nat.le_refl _) _).alloc (by simp) _
 have hsz1 : W1.heap.size = w.heap.size + 2 := by rw [← hW1]; simp
 have hL1 : W1.heap[w.heap.size + 1]? = some (.loop (R .ready none)) := by
  have := World.alloc_heap_new (w.alloc (.deferred (some []))) (.loop (R .ready none))
  rw [World.size_alloc] at this
  rw [← hW1]; exact this
 have hK1 : W1.heap[w.heap.size]? = some (.deferred (some [])) := by
  rw [← hW1]
  exact (Below.heap_alloc _ _ _ (by simp)).trans (World.alloc_heap_new w _)
 have hag1 : Ag S w W1 := fun b hb => hb1.block b (hlt b hb)
 have hnS : ∀ b, w.heap.size ≤ b → ¬ (S1 b ∨ S b) := fun b hb q => by have := hc.lt b q; omega
 have hbk1 : Bk n0 w0 S0 N w S a0 (R .ready none) (f.canon N hh) W1 (fun b => S1 b ∨ S b) V1 :=
  ⟨hc.grow hb1, hnS _ (by omega), hnS _ (Nat.le_refl _), fun b hb => .inr hb, hag1, by omega, hL1, hK1⟩
 have hargs : Args W1 S (tc.tvs z.2) m := by
  have mono : ∀ {al : List TV} {vs : List Value}, Args w S al vs → Args W1 S al vs := fun {al} => by
   induction al with
   | nil => intro vs h; cases vs <;> exact h
   | cons tv al ih => intro vs h; cases vs with
    | nil => exact h
    | cons v vs => exact ⟨Vs_mono (fun _ h => h) hag1 h.1, ih h.2⟩
  exact mono hl2
 refine ⟨w.heap.size + 1, [{ target := .collected w.heap.size, args := #[] }], W1, { target := .fn (.func gf) m.toArray, args := #[.func (.yield (w.heap.size + 1)) #[] #[]] }, W1, gf, #[.func (.yield (w.heap.size + 1)) #[] #[]] ++ m.toArray, W1, ?_, ?_, fun _ _ => trivial, ?_, (fun q => by cases q), ?_⟩
 ·rw [← hW1, hR]; exact run_enterLoop_outer _ _ _ _ _
 ·simp only [resolve, hev]
  simp [go_sem]
 ·simp [invoke, go_sem, call_ok hfn]
 obtain ⟨J, hJ⟩ : ∃ J : Nat → (Nat → Prop) → World → Prop, J = fun k T A => ∃ g S' V', (k ≤ M ∧ rfr AX AY qs.toList N hh Q el D (M - k) k g) ∧ (∀ b, T b → S' b) ∧ Bk n0 w0 S0 N w S a0 (R .ready none) g A S' V' := ⟨_, rfl⟩
 obtain ⟨Jx, hJx⟩ : ∃ Jx : Nat → World → Prop, Jx = fun k A => ∃ c e g S' V', ((c = Code.ret ∧ e = Exit.ret) ∨ ∃ id, c = Code.exit id ∧ e = Exit.exit id) ∧ Q e (2 * N) g ∧ Bk n0 w0 S0 N w S a0 (R .done (some c)) g A S' V' := ⟨_, rfl⟩
 have hcall := hvis 2 (w.heap.size + 1) W1 S m J Jx (by omega) (fun b hb => by have := hlt b hb; omega) hargs ?hgrow ?hag ?hD ?hround ?hstart
 case hgrow =>
  subst hJ
  rintro k T A B ⟨g, S', V', q1, qT, q2⟩ hb
  exact ⟨g, S', V', q1, qT, q2.grow hlt hb⟩
 case hag =>
  subst hJ
  rintro k T A ⟨g, S', V', q1, _, q2⟩
  exact ⟨fun b hb => (q2.ag b hb).trans (hag1 b hb).symm, by have := q2.sz; omega⟩
 case hD =>
  subst hJ
  rintro k T A ⟨g, S', V', ⟨q0, q1⟩, _, q2⟩ hk
  rw [show M - k = (M - (k + 1)) + 1 by omega] at q1
  exact q1.1
 case hstart => subst hJ; exact ⟨_, _, _, ⟨Nat.zero_le _, hr⟩, fun _ h => .inr h, hbk1⟩
 case hround =>
  intro k vs A0 A T S3 hkM hj hbA hvs h3lt h3old
  subst hJ
  obtain ⟨g, S', V', ⟨_, hg⟩, hT, hbk0⟩ := hj
  have h3old : ∀ b, b < A0.heap.size → S3 b → S' b := fun b q1 q2 => hT b (h3old b q1 q2)
  have hbk := hbk0.grow hlt hbA
  have hlz : (el k).length = qs.size := hlen k
  have hvl : vs.length = qs.size := by rw [← (Args_len hvs)]; exact hlz
  have hy := run_yield (P := P) (args := vs.toArray) hbk.lp (by rw [hR]; simpa using hvl)
  rw [hR] at hy
  rw [show M - k = (M - (k + 1)) + 1 by omega] at hg
  have hg := hg.2
  -- what is handed over is shared
  have hx3 : RelC n0 w0 S0 N (Fe (2 * N)) g a0 A (fun b => S' b ∨ S3 b) V' := hbk.rel.ext h3lt (fun b hb hn => by
   rcases Nat.lt_or_ge b A0.heap.size with q | q
   ·exact hbk.rel.old b (h3old b q hb) hn
   ·exact absurd (hbk0.rel.size b q) hn) (fun k o b e hm hb hs => by
   have hlt0 := (hbk0.rel.ow k o e hm b hb).2
   exact hbk0.rel.sp k o e hm b hb (h3old b hlt0 hs))
  have hp3 := hx3.puts (qs := qs.toList) (ys := (el k)) (vs := vs) hq (by
   have mono : ∀ {al : List TV} {us : List Value}, Args A S3 al us → Args A (fun b => S' b ∨ S3 b) al us := fun {al} => by
    induction al with
    | nil => intro us h; cases us <;> exact h
    | cons tv al ih => intro us h; cases us with
     | nil => exact h
     | cons v us => exact ⟨Vs_mono (fun _ h => .inr h) (fun _ _ => rfl) h.1, ih h.2⟩
   exact mono hvs) (by simpa using hlz)
  have n3l : ¬ (S' (w.heap.size + 1) ∨ S3 (w.heap.size + 1)) := fun q => q.elim hbk.sl fun q => hbk.sl (h3old _ (by have := hbk0.sz; omega) q)
  have n3d : ¬ (S' w.heap.size ∨ S3 w.heap.size) := fun q => q.elim hbk.sd fun q => hbk.sd (h3old _ (by have := hbk0.sz; omega) q)
  obtain ⟨ar, har⟩ : ∃ ar : Act, { tmps := (qs.toList.zip vs).foldl (fun t (p, v) => t.setIfInBounds p v) a0.tmps, defers := a0.defers } = ar := ⟨_, rfl⟩
  rw [har] at hp3
  have hdr : ar.defers = [] := by rw [← har]; exact hd0
  have htm : (qs.zip vs.toArray).foldl (fun t (p, v) => t.setIfInBounds p v) a.tmps = ar.tmps := by
   rw [← har, ht0, ← Array.foldl_toList, Array.toList_zip]
  refine ⟨fn, _, x, y, hy, ?_⟩
  rw [htm]
  have hact : ({ tmps := ar.tmps, defers := [] } : Act) = ar := by
   cases ar; simp only at hdr; subst hdr; rfl
  refine roundIn_of_wpIn (F := Fence.wide) hF ?_
  rw [hact]
  -- the assignments
  refine wpIn_mono (hX (w.heap.size + 1) _ _ _ _ _ _ _ _ _ _ _ (hp3.rebase hdr) ⟨Nat.le_refl _, by omega⟩ hg) ?_
  rintro e a1 B ⟨⟨nx1, f1, S4, V4, hQ1, hn1, hr1⟩, hkp1⟩
  cases e with
  | normal =>
   have hd1 : a1.defers = [] := (hkp1.2 nfx).trans hdr
   have hf1 := hp3.frame hr1 hd1
   have olA : ¬ Own (puts g qs.toList (el k)) V' (w.heap.size + 1) := hp3.own_not hbk.lp (fun _ _ _ e => by cases e) (fun _ _ e => by cases e)
   have odA : ¬ Own (puts g qs.toList (el k)) V' w.heap.size := hp3.own_not hbk.df (fun _ _ _ e => by cases e) (fun _ _ e => by cases e)
   have lpB := (hp3.stays hr1 (by have := hbk.sz; omega) olA).trans hbk.lp
   have dfB := (hp3.stays hr1 (by have := hbk.sz; omega) odA).trans hbk.df
   have nSl := hp3.outS hr1 (by have := hbk.sz; omega) olA n3l
   have nSd := hp3.outS hr1 (by have := hbk.sz; omega) odA n3d
   have agB := hp3.agS hr1
   have szB := hr1.bel.size
   refine ⟨B.putObj (w.heap.size + 1) (.loop { R .ready none with state := .busy }), run_beginRound lpB (by rw [hR]), ?_⟩
   obtain ⟨B', hB'⟩ : ∃ B', B.putObj (w.heap.size + 1) (.loop { R .ready none with state := .busy }) = B' := ⟨_, rfl⟩
   rw [hB']
   have hf2 : RelC n0 w0 S0 N (Fe nx1) f1 a1 B' (fun b => S4 b ∨ S' b ∨ S3 b) V4 := by
    rw [← hB']
    exact hf1.putL lpB (fun _ _ _ e => by cases e) (fun _ _ e => by cases e) nSl n0l hd1
   have lpB' : B'.heap[w.heap.size + 1]? = some (.loop { R .ready none with state := .busy }) := by rw [← hB']; exact World.putObj_heap_same (by have := hbk.sz; omega)
   have dfB' : B'.heap[w.heap.size]? = some (.deferred (some [])) := by rw [← hB']; exact (World.putObj_heap_other (by omega)).trans dfB
   have szB' : B'.heap.size = B.heap.size := by rw [← hB']; simp
   have agB' : Ag S w B' := fun b hb => by
    have h1 := agB b (.inl (hbk.sub b hb))
    rw [← hB']
    exact (World.putObj_heap_other (by have := hlt b hb; omega)).trans (h1.trans (hbk.ag b hb))
   -- the body
   refine wpIn_mono (hY (w.heap.size + 1) _ _ _ _ _ _ _ _ _ _ _ (hf2.rebase hd1) hn1 hQ1) ?_
   rintro e a2 E ⟨⟨nx2, f2, S5, V5, hQ2, hn2, hr2⟩, hkp2⟩
   have hd2 : a2.defers = [] := (hkp2.2 nfy).trans hd1
   have olB : ¬ Own f1 V4 (w.heap.size + 1) := hf2.own_not lpB' (fun _ _ _ e => by cases e) (fun _ _ e => by cases e)
   have odB : ¬ Own f1 V4 w.heap.size := hf2.own_not dfB' (fun _ _ _ e => by cases e) (fun _ _ e => by cases e)
   obtain ⟨S6, V6, hr3⟩ := hr2.canon hh
   have hsame : ∀ i, (f2.canon N hh).g i = .bot ∨ a0.tmps.getD i undef = a2.tmps.getD i undef := fun i => by
    by_cases hi : ∃ k ∈ hh, k.1 = i
    ·obtain ⟨k', hk1, rfl⟩ := hi
     obtain ⟨h1, h2, h3⟩ := hk k' hk1
     refine .inr ?_
     rw [hkp2.1 _ h2, hkp1.1 _ h1, ← har]
     refine (foldl_keep _ _ fun z hz e => ?_).symm
     have hz1 := (List.of_mem_zip hz).1
     rw [e] at hz1
     have : qs.toList.contains k'.1 = true := by simpa using hz1
     rw [this] at h3; cases h3
    ·exact .inl (canon_bot hh fun k' hk' e => hi ⟨k', hk', e⟩)
   have hbkE : Bk n0 w0 S0 N w S a0 { R .ready none with state := .busy } (f2.canon N hh) E (fun b => S6 b ∨ S4 b ∨ S' b ∨ S3 b) V6 :=
    ⟨(hf2.frame hr3 hd2).act (by rw [ht0]; exact h.sz) (by rw [hd0]; exact Dfs_nil) hsame, hf2.outS hr3 (by have := hbk.sz; omega) olB nSl, hf2.outS hr3 (by have := hbk.sz; omega) odB nSd, fun b hb => .inr (.inr (.inl (hbk.sub b hb))),
     fun b hb => (hf2.agS hr3 b (.inr (.inl (hbk.sub b hb)))).trans (agB' b hb), by have := hr3.bel.size; have := hbk.sz; omega, (hf2.stays hr3 (by have := hbk.sz; omega) olB).trans lpB', (hf2.stays hr3 (by have := hbk.sz; omega) odB).trans dfB'⟩
   have close : ∀ (jump : Option Code), (Instr.endRound (w.heap.size + 1) jump).run P E = .ok (.bool jump.isNone) (E.putObj (w.heap.size + 1) (.loop (R (if jump.isNone then .ready else .done) jump))) := fun jump => by
    have e4 := run_endRound (P := P) jump hbkE.lp
    rw [hR] at e4 ⊢
    exact e4
   cases e with
   | normal =>
    have hT3 : ∀ b, T b ∨ S3 b → S' b ∨ S3 b := fun b h => h.imp (hT b) id
    refine ⟨_, _, close none, .inl ⟨rfl, ⟨_, _, _, ⟨hkM, hQ2⟩, fun b hb => .inr (.inr (hT3 b hb)), hbkE.put hlt hd0 n0l _⟩, fun b hb => ?_⟩⟩
    have hne : b ≠ w.heap.size + 1 := fun q => n3l (q ▸ hT3 b hb)
    refine (World.putObj_heap_other hne).trans ((hf2.agS hr3 b (.inr (hT3 b hb))).trans ?_)
    rw [← hB']
    exact (World.putObj_heap_other hne).trans (agB b (hT3 b hb))
   | ret =>
    refine ⟨_, _, close (some .ret), .inr ⟨rfl, ?_⟩⟩
    rw [hJx]
    exact ⟨.ret, .ret, _, _, _, .inl ⟨rfl, rfl⟩, hQ2, hbkE.put hlt hd0 n0l _⟩
   | exit id =>
    refine ⟨_, _, close (some (.exit id)), .inr ⟨rfl, ?_⟩⟩
    rw [hJx]
    exact ⟨.exit id, .exit id, _, _, _, .inr ⟨id, rfl, rfl⟩, hQ2, hbkE.put hlt hd0 n0l _⟩
   | goto t => exact hQ2.elim
   | panic c => exact hQ2.elim
   | outgrown => exact hQ2.elim
  | ret => exact hQ1.elim
  | exit id => exact hQ1.elim
  | goto t => exact hQ1.elim
  | panic c => exact hQ1.elim
  | outgrown => exact hQ1.elim
 -- behind the iterator
 refine CallsIn.mono (callsIn_rnd (callsIn_wide.1 hcall)) ?_
 rintro e E ⟨⟨rv, rfl⟩, hE⟩
 have last : ∀ {g : FS} {S' : Nat → Prop} {V' : Nat → Value} {lp : Loop}, Bk n0 w0 S0 N w S a0 lp g E S' V' → RelC n0 w0 S0 N (Fe (2 * N)) g { a with defers := [{ target := .collected w.heap.size, args := #[] }] ++ a.defers } (E.putObj (w.heap.size + 1) (.loop { lp with state := .exhausted })) (fun b => S' b ∨ b = w.heap.size) V' := fun {g S' V' lp} hb => by
  have hb2 := hb.put hlt hd0 n0l { lp with state := .exhausted }
  have od := hb2.rel.own_not hb2.df (fun _ _ _ e => by cases e) (fun _ _ e => by cases e)
  have hx := hb2.rel.ext (S' := fun b => b = w.heap.size) (fun b hb => by rw [hb]; have := hb2.sz; omega) (fun b hb hn => by rw [hb] at hn; exact absurd n0d hn) (fun k o b e hm hb1 hs => od ⟨k, o, e, hm, hs ▸ hb1⟩)
  refine hx.act h.sz ⟨fun d hd => ?_, ?_⟩ (fun i => .inr (by rw [ht0]))
  ·rcases List.mem_cons.1 hd with rfl | hd
   ·exact ⟨_, rfl, n0d, .inr rfl, hb2.df⟩
   ·obtain ⟨D, e, q1, q2, q3⟩ := h.df.1 d hd
    exact ⟨D, e, q1, .inl (hb2.sub D q2), (hb2.ag D q2).trans q3⟩
  ·refine List.pairwise_cons.2 ⟨fun d hd e => ?_, h.df.2⟩
   obtain ⟨D, e', q1, q2, q3⟩ := h.df.1 d hd
   rw [e'] at e
   injection e with e _
   injection e with e
   have := hlt D q2; omega
 have kp : ∀ ds, Kp (.rangeFunc v qs x y) a { a with defers := ds } := fun ds => ⟨fun s _ => rfl, fun q => by cases q⟩
 rcases hE with ⟨_, hE⟩ | ⟨k, hkL, hE⟩
 ·rw [hJ] at hE
  obtain ⟨g, S', V', ⟨_, hg⟩, _, hb⟩ := hE
  rw [Nat.sub_self] at hg
  have r := run_endLoop (P := P) hb.lp (by rw [hR]; simp)
  have hp : (R .ready none).pending = none := by rw [hR]
  refine ⟨none, _, r.trans (congrArg (fun p => Result.ok p _) hp), ⟨2 * N, g, _, _, hg, ⟨Nat.le_refl _, by omega⟩, last hb⟩, kp _⟩
 ·rw [hJx] at hE
  obtain ⟨c, e, g, S', V', hce, hQ, hb⟩ := hE
  have r := run_endLoop (P := P) hb.lp (by rw [hR]; simp)
  have hp : (R .done (some c)).pending = some c := by rw [hR]
  refine ⟨some c, _, r.trans (congrArg (fun p => Result.ok p _) hp), ?_⟩
  rcases hce with ⟨rfl, rfl⟩ | ⟨id, rfl, rfl⟩
  ·exact wpIn_ret ⟨⟨2 * N, g, _, _, hQ, ⟨Nat.le_refl _, by omega⟩, last hb⟩, kp _⟩
  ·exact wpIn_exit ⟨⟨2 * N, g, _, _, hQ, ⟨Nat.le_refl _, by omega⟩, last hb⟩, kp _⟩
theorem Cs_eqc {w w' : World} {S : Nat → Prop} (hc : ∀ a, w'.cell? a = w.cell? a) : ∀ {t : Ty} {x : t.den} {cs}, Cs w S t x cs → Cs w' S t x cs
 | .int _, _, _, e => e
 | .bool, _, _, e => e
 | .str, _, _, e => e
 | .un, _, _, e => e
 | .pr _ _, _, _, ⟨c1, c2, e, h1, h2⟩ => ⟨c1, c2, e, Cs_eqc hc h1, Cs_eqc hc h2⟩
 | .sl _ t, xs, _, ⟨A, c, cs', e, hc', l, r⟩ => ⟨A, c, cs', e, hc', Fl_imp (fun _ _ => Cs_eqc hc) l, r.imp id (fun ⟨ad, e, hs, h⟩ => ⟨ad, e, hs, fun j u hj => (hc _).trans (h j u hj)⟩)⟩
 | .rf t, _, _, ⟨ad, c, e, hs, h, h'⟩ => ⟨ad, c, e, hs, Cs_eqc hc h, fun j u hj => (hc _).trans (h' j u hj)⟩
 | .fn _ _ _, _, _, ⟨c1, c2, e, h1, h2⟩ => ⟨c1, c2, e, Cs_eqc hc h1, Cs_eqc hc h2⟩
 | .ifc _ _, _, _, ⟨c, e, h⟩ => ⟨c, e, Cs_eqc hc h⟩
 | .id _ _, _, _, h => h.elim
 | .mp _ _, _, _, h => h.elim
 | .ar b, _, _, h => Cs_eqc hc (t := b) h
theorem Vs_eqc {w w' : World} {S : Nat → Prop} (hc : ∀ a, w'.cell? a = w.cell? a) {t : Ty} {x : t.den} {v : Value} (h : Vs w S t x v) : Vs w' S t x v := by
 obtain ⟨cs, h1, h2⟩ := h; exact ⟨cs, Cs_eqc hc h1, h2⟩
theorem PV1_eqc {w w' : World} {S : Nat → Prop} (hc : ∀ a, w'.cell? a = w.cell? a) {V : Nat → Value} {sh : Sh} : ∀ {p : PV} {v : Value}, PV1 w S V sh p v → PV1 w' S V sh p v
 | .bot, _, h => trivial
 | .ro t x, _, h => Vs_eqc hc h
 | .nil, _, h => h
 | .own k, _, h => h
 | .ptr k i fs, _, h => h
 | .vw k i j, _, h => h
 | .one e k, _, h => fun n t q => by
  obtain ⟨ad, c, h1, h2, h3, h4⟩ := h n t q
  exact ⟨ad, c, h1, h2, h3, (hc _).trans h4⟩
 | .cel t x, _, ⟨ad, cs, e, hs, h, h'⟩ => ⟨ad, cs, e, hs, Cs_eqc hc h, fun j u hj => (hc _).trans (h' j u hj)⟩
theorem PVl_eqc {w w' : World} {S : Nat → Prop} (hc : ∀ a, w'.cell? a = w.cell? a) {V : Nat → Value} {sh : Sh} : ∀ {p : PV} {vs : List Value}, PVl w S V sh p vs → PVl w' S V sh p vs
 | .pair a b, _, ⟨v, vs', e, h1, h2⟩ => ⟨v, vs', e, PV1_eqc hc h1, PVl_eqc hc h2⟩
 | .tnil, _, h => h
theorem PVr_eqc {w w' : World} {S : Nat → Prop} (hc : ∀ a, w'.cell? a = w.cell? a) {V : Nat → Value} {sh : Sh} {p : PV} {v : Value} (h : PVr w S V sh p v) : PVr w' S V sh p v := by
 cases p with
 | pair a b => obtain ⟨vs, e, h⟩ := h; exact ⟨vs, e, PVl_eqc hc h⟩
 | tnil => exact h
 | bot => exact trivial
 | ro t x => exact PV1_eqc (S := S) (V := V) (sh := sh) (p := .ro t x) hc h
 | nil => exact PV1_eqc (S := S) (V := V) (sh := sh) (p := .nil) hc h
 | own k => exact PV1_eqc (S := S) (V := V) (sh := sh) (p := .own k) hc h
 | ptr k i fs => exact PV1_eqc (S := S) (V := V) (sh := sh) (p := .ptr k i fs) hc h
 | vw k i j => exact PV1_eqc (S := S) (V := V) (sh := sh) (p := .vw k i j) hc h
 | one e k => exact PV1_eqc (S := S) (V := V) (sh := sh) (p := .one e k) hc h
 | cel t x => exact PV1_eqc (S := S) (V := V) (sh := sh) (p := .cel t x) hc h
theorem Mp_eqc {w w' : World} {S : Nat → Prop} (hc : ∀ a, w'.cell? a = w.cell? a) {k t : Ty} : ∀ {xs : List (k.den × t.den)} {es : List MapEntry}, Mp w S k t xs es → Mp w' S k t xs es
 | [], _, h => h
 | _ :: _, _, ⟨e, es', h1, h2, h3, h4⟩ => ⟨e, es', h1, Vs_eqc hc h2, Vs_eqc hc h3, Mp_eqc hc h4⟩
theorem OR_eqc {w w' : World} {S : Nat → Prop} {V : Nat → Value} {o : Ob} {v : Value} (hc : ∀ a, w'.cell? a = w.cell? a) (hb : o.mu = true → ∀ b, blk v = some b → w'.heap[b]? = w.heap[b]?) (h : OR w S V o v) : OR w' S V o v := by
 rcases hr : o.t.row with _ | _
 ·obtain ⟨hm, h⟩ := OR_x hr h
  obtain ⟨e, t, xs, m⟩ := o
  simp only at hm hr
  subst hm
  cases t <;> try cases hr
  ·rw [OR_id]
   exact ownsRow_blk h (hb rfl)
  ·obtain ⟨r, es, c, h1, h2, h3, h4⟩ := h
   rw [OR_mp]
   exact ⟨r, es, c, h1, by rw [hb rfl r (by rw [h1]; rfl)]; exact h2, Mp_eqc hc h3, h4⟩
 ·rcases hm : o.mu with _ | _
  ·rw [OR_fz hr hm] at h ⊢; exact Cs_eqc hc h
  ·rw [OR_own hr hm] at h ⊢
   obtain ⟨cs, h1, h2⟩ := h
   exact ⟨cs, ownsRow_blk h1 (hb hm), Fl_imp (fun _ _ => Cs_eqc hc) h2⟩
theorem putD_cell {w : World} {l : Nat} {o' : Obj} (h1 : ∀ cs t fr, w.heap[l]? ≠ some (.cells cs t fr)) (h2 : ∀ cs t fr, o' ≠ .cells cs t fr) (ad : Addr) : (w.putObj l o').cell? ad = w.cell? ad := by
 by_cases e : ad.block = l
 ·unfold World.cell?
  have q1 : (match w.heap[ad.block]? with | some (.cells c _ _) => if ad.spot.isSome then none else c[ad.off]? | _ => none) = (none : Option Value) := by
   split
   ·rename_i q; rw [e] at q; exact absurd q (h1 _ _ _)
   ·rfl
  have q2 : (match (w.putObj l o').heap[ad.block]? with | some (.cells c _ _) => if ad.spot.isSome then none else c[ad.off]? | _ => none) = (none : Option Value) := by
   split
   ·rename_i q
    rw [e] at q
    by_cases hl : l < w.heap.size
    ·rw [World.putObj_heap_same hl] at q; injection q with q; exact absurd q (h2 _ _ _)
    ·rw [Array.getElem?_eq_none (by simpa using hl)] at q; cases q
   ·rfl
  exact q2.trans q1.symm
 ·unfold World.cell?
  rw [World.putObj_heap_other e]
theorem RelC.putD {Fk : Nat → Prop} (h : RelC n0 w0 S0 N Fk f a w S V) {l : Nat} {x o' : Obj} (hl : w.heap[l]? = some x) (h1 : ∀ cs t fr, x ≠ .cells cs t fr) (h2 : ∀ es c, x ≠ .map es c) (h3 : ∀ cs t fr, o' ≠ .cells cs t fr) (hn : n0 l) (hd : a.defers = []) : RelC n0 w0 S0 N Fk f a (w.putObj l o') S V := by
 have hno := h.own_not hl h1 h2
 have hc := putD_cell (w := w) (l := l) (o' := o') (fun cs t fr e => by rw [hl] at e; injection e with e; exact h1 _ _ _ e) h3
 have hsz : (w.putObj l o').heap.size = w.heap.size := by simp
 exact ⟨h.bel.trans ⟨rfl, rfl, rfl, by simp, fun k _ hk => World.putObj_heap_other fun e => hk (e ▸ hn)⟩, h.nle, by rw [hd]; exact Dfs_nil, h.sz, fun i => PVr_eqc hc (h.sl i),
  fun k o e => OR_eqc hc (fun hm b hb => World.putObj_heap_other fun q => hno ⟨k, o, e, hm, q ▸ hb⟩) (h.ob k o e), h.ds, h.sp, fun k o e hm b hb => ⟨(h.ow k o e hm b hb).1, by rw [hsz]; exact (h.ow k o e hm b hb).2⟩, h.old, fun b hb => by rw [hsz]; exact h.lt b hb, h.fr, h.fg, h.fi, h.fe⟩
theorem leaves_ok {Fk : Nat → Prop} {F : Fence} {n : Nat} {fn : Func} {R : Ending → World → Prop} {tm : Array Value} (hr : ∀ w', RelC n0 w0 S0 N Fk f ⟨tm, []⟩ w' S V → ∃ v, (results fn tm).run P w' = .ok v w' ∧ R (.returned v) w') :
  ∀ (ds : List Deferred) (w : World), RelC n0 w0 S0 N Fk f ⟨tm, []⟩ w S V → Dfs n0 w S ds → LeavesInM F n P fn tm R ds .returning w
 | [], w, h, _ => hr w h
 | d :: ds, w, h, hds => by
  obtain ⟨D, e, q1, q2, q3⟩ := hds.1 d List.mem_cons_self
  refine ⟨by simp, .inl ⟨D, _, by rw [e], run_takeDeferred q3, ?_⟩⟩
  refine leaves_ok hr ds _ (h.putD q3 (fun _ _ _ e => by cases e) (fun _ _ e => by cases e) (fun _ _ _ e => by cases e) q1 rfl) ⟨fun d' hd' => ?_, (List.pairwise_cons.1 hds.2).2⟩
  obtain ⟨D', e', p1, p2, p3⟩ := hds.1 d' (List.mem_cons_of_mem _ hd')
  refine ⟨D', e', p1, p2, (World.putObj_heap_other fun q => ?_).trans p3⟩
  exact (List.pairwise_cons.1 hds.2).1 d' hd' (by rw [e, e', q])
end
end Go.TT
end
section
namespace Go.TT
open Go.RowKit
set_option linter.unusedVariables false
set_option linter.unusedSimpArgs false
def FS.trim (f : FS) (ps : List Nat) : FS := ⟨lkp .bot (ps.map fun k => (k, f.g k)), f.o, f.h⟩
def thenK (b : Nat → FS → KE → Prop) (Q : KE) : KE
 | .normal, nx, f => b nx f Q
 | e, nx, f => Q e nx f
def inBlk (id : Nat) (Q : KE) : KE
 | .exit id', nx, f => if id' = id then Q .normal nx f else Q (.exit id') nx f
 | e, nx, f => Q e nx f
def loopK (X : FS → Prop) (N : Nat) (h : List (Nat × HM)) (Q : KE) : KE
 | .normal, _, f => X (f.canon N h)
 | e, nx, f => Q e nx f
def fzl (f : FS) (k : KF) : Prop := ∃ l : List Operand, k (f.fzo l)
def tw (P : Program) (TE : TypeId → Option Ty) (N : Nat) (ps : List Nat) : Code → Nat → FS → KE → Prop
 | .skip, nx, f, Q => Q .normal nx f
 | .ret, nx, f, Q => Q .ret nx f
 | .exit id, nx, f, Q => Q (.exit id) nx f
 | .region _ ops draw, nx, f, Q => (draw = false ∨ ordOK ops = true) ∧ match draw with
  | false => rgn P TE N false ops nx ops.toList f fun f' => Q .normal (nx + 8 * ops.size) (f'.trim ps)
  | true => fzl f fun f => rgn P TE N true ops nx ops.toList f fun f' => Q .normal (nx + 8 * ops.size) (f'.trim ps)
 | .seq a b, nx, f, Q => tw P TE N ps a nx f (thenK (tw P TE N ps b) Q)
 | .cond c x y, nx, f, Q => match f.op c with
  | .ro .bool b => if (b : Bool) = true then tw P TE N ps x nx f Q else tw P TE N ps y nx f Q
  | _ => False
 | .block id b, nx, f, Q => tw P TE N ps b nx f (inBlk id Q)
 | .loop b, nx, f, Q => ∃ h, ∀ X : FS → Prop, (∀ g, tw P TE N ps b (2 * N) g (loopK X N h Q) → X g) → X (f.canon N h)
 | .rangeFunc v qs x y, nx, f, Q => ∃ h, rfOk x y qs.toList N h = true ∧ rfV (f.op v) fun g al => ∃ M el D, Vis P g al M el D ∧ (∀ i, (el i).length = qs.size) ∧ rfr (tw P TE N ps x) (tw P TE N ps y) qs.toList N h Q el D M 0 (f.canon N h)
 | _, _, _, _ => False
section
variable {P : Program} {TE : TypeId → Option Ty} {n0 : Nat → Prop} {w0 : World} {S0 : Nat → Prop} {N : Nat} {ps : List Nat}
theorem look_map {f : FS} : ∀ (ps : List Nat) (i : Nat), lkp .bot (ps.map fun k => (k, f.g k)) i = f.g i ∨ lkp .bot (ps.map fun k => (k, f.g k)) i = .bot
 | [], i => .inr rfl
 | k :: ps, i => by
  show (if i = k then f.g k else lkp .bot (ps.map fun k => (k, f.g k)) i) = f.g i ∨ (if i = k then f.g k else lkp .bot (ps.map fun k => (k, f.g k)) i) = .bot
  split
  ·rename_i h; subst h; exact .inl rfl
  ·exact look_map ps i
theorem tw_ok (hTE : ∀ e t, TE e = some t → TyOk P t e) (hm : P.follows .mixedOrders = true) : ∀ (c : Code) (r : Option Nat) (n : Nat), (r.isSome = true → noRF c = true) → GoodA P N r n (tw P TE N ps c) c
 | .skip, r, n, _ => fun n0 w0 S0 nx f a w S V Q h hn he => wpIn_skip ⟨⟨nx, f, S, V, he, hn, h⟩, fun _ _ => rfl, fun _ => rfl⟩
 | .ret, r, n, _ => fun n0 w0 S0 nx f a w S V Q h hn he => wpIn_ret ⟨⟨nx, f, S, V, he, hn, h⟩, fun _ _ => rfl, fun _ => rfl⟩
 | .exit id, r, n, _ => fun n0 w0 S0 nx f a w S V Q h hn he => wpIn_exit ⟨⟨nx, f, S, V, he, hn, h⟩, fun _ _ => rfl, fun _ => rfl⟩
 | .region id ops draw, r, n, _ => fun n0 w0 S0 nx f a w S V Q h hn he => by
  obtain ⟨h1, h2⟩ := he
  have fin : ∀ a' w', Step n0 w0 S0 N (Fe (nx + 8 * ops.size)) (fun f' => Q .normal (nx + 8 * ops.size) (f'.trim ps)) a' w' → Kp (.region id ops draw) a a' → Fin n0 w0 S0 N Q .normal a' w' ∧ Kp (.region id ops draw) a a' := fun a' w' ⟨f', S', V', hK, hr⟩ hu =>
   ⟨⟨_, _, S', V', hK, by omega, hr.less (fun i => look_map ps i) (fun k o e => e) rfl⟩, hu⟩
  have hU : ∀ o ∈ ops.toList, ∀ a' v, Kp (.region id ops draw) a a' → Kp (.region id ops draw) a (a'.put o.dst v) := fun o ho a' v hu => ⟨fun s hs => by
   rw [put_keep, hu.1 s hs]
   intro e
   have hs : (ops.toList.any fun o => o.dst == some s) = false := hs
   rw [List.any_eq_false] at hs
   exact hs o ho (by rw [e]; simp), fun q => by rw [put_defers]; exact hu.2 q⟩
  have hu0 : Kp (.region id ops draw) a a := ⟨fun _ _ => rfl, fun _ => rfl⟩
  cases draw with
  | false =>
   refine wpIn_region_list (rgn_ok (U := Kp (.region id ops false) a) hTE hn.2 h h2 hu0 hU fun a' w' hs hu => fin a' w' ?_ hu)
   rw [Array.length_toList] at hs
   exact hs
  | true =>
   obtain ⟨l, h2⟩ := h2
   obtain ⟨S', h'⟩ := RelC.fzo l h
   exact region_draw (U := Kp (.region id ops true) a) hn.2 hTE hm (h1.resolve_left (by simp)) h' h2 hu0 hU fin
 | .seq x y, r, n, hrf => fun n0 w0 S0 nx f a w S V Q h hn he => by
  have hx : r.isSome = true → noRF x = true := fun q => by have := hrf q; simp only [noRF, Bool.and_eq_true] at this; exact this.1
  have hy : r.isSome = true → noRF y = true := fun q => by have := hrf q; simp only [noRF, Bool.and_eq_true] at this; exact this.2
  have kx : ∀ {a' : Act}, Kp x a a' → (∀ s, wrs (.seq x y) s = false → a'.tmps.getD s undef = a.tmps.getD s undef) ∧ (noRF (.seq x y) = true → a'.defers = a.defers) := fun {a'} hk =>
   ⟨fun s hs => hk.1 s (by simp only [wrs, Bool.or_eq_false_iff] at hs; exact hs.1), fun q => hk.2 (by simp only [noRF, Bool.and_eq_true] at q; exact q.1)⟩
  refine wpIn_seq (wpIn_mono (tw_ok hTE hm x r n hx n0 w0 S0 nx f a w S V _ h hn he) ?_)
  rintro e a' w' ⟨⟨nx', f', S', V', hQ, hn', hr⟩, hk⟩
  cases e with
  | normal =>
   refine wpIn_mono (tw_ok hTE hm y r n hy n0 w0 S0 nx' f' a' w' S' V' Q hr hn' hQ) ?_
   rintro e a2 w2 ⟨hf, hk2⟩
   exact ⟨hf, fun s hs => (hk2.1 s (by simp only [wrs, Bool.or_eq_false_iff] at hs; exact hs.2)).trans ((kx hk).1 s hs), fun q => (hk2.2 (by simp only [noRF, Bool.and_eq_true] at q; exact q.2)).trans ((kx hk).2 q)⟩
  | exit id => exact ⟨⟨nx', f', S', V', hQ, hn', hr⟩, kx hk⟩
  | goto l => exact ⟨⟨nx', f', S', V', hQ, hn', hr⟩, kx hk⟩
  | ret => exact ⟨⟨nx', f', S', V', hQ, hn', hr⟩, kx hk⟩
  | panic c => exact ⟨⟨nx', f', S', V', hQ, hn', hr⟩, kx hk⟩
  | outgrown => exact ⟨⟨nx', f', S', V', hQ, hn', hr⟩, kx hk⟩
 | .cond c x y, r, n, hrf => fun n0 w0 S0 nx f a w S V Q h hn he => by
  have hx : r.isSome = true → noRF x = true := fun q => by have := hrf q; simp only [noRF, Bool.and_eq_true] at this; exact this.1
  have hy : r.isSome = true → noRF y = true := fun q => by have := hrf q; simp only [noRF, Bool.and_eq_true] at this; exact this.2
  unfold tw at he
  have hc := (h.arg c).pv
  have hres : (f.res c).1 = f.op c := rfl
  rw [hres] at hc
  split at he
  ·rename_i b hb
   rw [hb] at hc
   have hv : a.eval c = .bool b := Vs_bool.1 hc
   refine wpIn_cond hv ?_
   revert he
   cases (b : Bool) with
   | true =>
    intro he
    refine wpIn_mono (tw_ok hTE hm x r n hx n0 w0 S0 nx f a w S V Q h hn he) ?_
    rintro e a2 w2 ⟨hf, hk2⟩
    exact ⟨hf, fun s hs => hk2.1 s (by simp only [wrs, Bool.or_eq_false_iff] at hs; exact hs.1), fun q => hk2.2 (by simp only [noRF, Bool.and_eq_true] at q; exact q.1)⟩
   | false =>
    intro he
    refine wpIn_mono (tw_ok hTE hm y r n hy n0 w0 S0 nx f a w S V Q h hn he) ?_
    rintro e a2 w2 ⟨hf, hk2⟩
    exact ⟨hf, fun s hs => hk2.1 s (by simp only [wrs, Bool.or_eq_false_iff] at hs; exact hs.2), fun q => hk2.2 (by simp only [noRF, Bool.and_eq_true] at q; exact q.2)⟩
  ·exact he.elim
 | .block id b, r, n, hrf => fun n0 w0 S0 nx f a w S V Q h hn he => by
  refine wpIn_block (wpIn_mono (tw_ok hTE hm b r n hrf n0 w0 S0 nx f a w S V _ h hn he) ?_)
  rintro e a' w' ⟨⟨nx', f', S', V', hQ, hn', hr⟩, hk⟩
  have hk : Kp (.block id b) a a' := hk
  cases e with
  | normal => exact ⟨⟨nx', f', S', V', hQ, hn', hr⟩, hk⟩
  | exit id' =>
   have hQ : (if id' = id then Q .normal nx' f' else Q (.exit id') nx' f') := hQ
   show (if id' = id then _ else _)
   split
   ·rename_i e; rw [if_pos e] at hQ; exact ⟨⟨nx', f', S', V', hQ, hn', hr⟩, hk⟩
   ·rename_i e; rw [if_neg e] at hQ; exact ⟨⟨nx', f', S', V', hQ, hn', hr⟩, hk⟩
  | goto l => exact ⟨⟨nx', f', S', V', hQ, hn', hr⟩, hk⟩
  | ret => exact ⟨⟨nx', f', S', V', hQ, hn', hr⟩, hk⟩
  | panic c => exact ⟨⟨nx', f', S', V', hQ, hn', hr⟩, hk⟩
  | outgrown => exact ⟨⟨nx', f', S', V', hQ, hn', hr⟩, hk⟩
 | .loop c, r, n, hrf => fun n0 w0 S0 nx f a w S V Q h hn he => by
  obtain ⟨hh, he⟩ := he
  intro b k cs hro hb hroom
  have key := he (fun g => ∀ a w S V, RelC n0 w0 S0 N (Fe (2 * N)) g a w S V → ∃ e a' w', (Fin n0 w0 S0 N Q e a' w' ∧ Kp c a a') ∧ ArrivesIn (Machine.fenced P (rnd r)) P (lone (b.atR a (.code c :: .inLoop c :: k)) cs w) b k cs e a' w') (fun g hg a w S V hr => by
   obtain ⟨e, a₁, w₁, ⟨⟨nx', f', S', V', hQ, hn', hr'⟩, hk1⟩, harr⟩ := tw_ok hTE hm c r n hrf n0 w0 S0 (2 * N) g a w S V _ hr ⟨Nat.le_refl _, by omega⟩ hg b (.inLoop c :: k) cs hro hb hroom
   cases e with
   | normal =>
    obtain ⟨S2, V2, hr2⟩ := hr'.canon hh
    obtain ⟨e₂, a₂, w₂, ⟨hq₂, hk2⟩, harr₂⟩ := hQ a₁ w₁ S2 V2 hr2
    exact ⟨e₂, a₂, w₂, ⟨hq₂, fun s hs => (hk2.1 s hs).trans (hk1.1 s hs), fun q => (hk2.2 q).trans (hk1.2 q)⟩, .of_steps (StepsIn.trans harr (.one (fenced_calm hb hroom rfl) stepR_inLoop)) harr₂⟩
   | exit id => exact ⟨_, a₁, w₁, ⟨⟨nx', f', S', V', hQ, hn', hr'⟩, hk1⟩, .pass (x := .inLoop c) rfl (fun _ _ => .inl (by simp)) harr⟩
   | goto l => exact ⟨_, a₁, w₁, ⟨⟨nx', f', S', V', hQ, hn', hr'⟩, hk1⟩, .pass (x := .inLoop c) rfl (fun _ _ => .inl (by simp)) harr⟩
   | ret => exact ⟨_, a₁, w₁, ⟨⟨nx', f', S', V', hQ, hn', hr'⟩, hk1⟩, .pass (x := .inLoop c) rfl (fun _ _ => .inl (by simp)) harr⟩
   | panic _ => exact ⟨_, a₁, w₁, ⟨⟨nx', f', S', V', hQ, hn', hr'⟩, hk1⟩, .pass (x := .inLoop c) rfl (fun _ _ => .inl (by simp)) harr⟩
   | outgrown => exact ⟨_, a₁, w₁, ⟨⟨nx', f', S', V', hQ, hn', hr'⟩, hk1⟩, .pass (x := .inLoop c) rfl (fun _ _ => .inl (by simp)) harr⟩)
  obtain ⟨S2, V2, hr2⟩ := h.canon hh
  obtain ⟨e, a', w', ⟨hq, hk⟩, harr⟩ := key a w S2 V2 hr2
  exact ⟨e, a', w', ⟨hq, hk⟩, .of_steps (.one (fenced_calm hb hroom rfl) stepR_loop) harr⟩
 | .rangeFunc v qs x y, r, n, hrf => fun n0 w0 S0 nx f a w S V Q h hn he => by
  cases r with
  | some l => exact absurd (hrf rfl) (by simp [noRF])
  | none =>
   obtain ⟨hh, hok, hv⟩ := he
   have hno : noRF x = true ∧ noRF y = true := by
    simp only [rfOk, Bool.and_eq_true] at hok; exact hok.1
   exact rf_ok (fun l n => tw_ok hTE hm x (some l) n fun _ => hno.1) (fun l n => tw_ok hTE hm y (some l) n fun _ => hno.2) h hok hv
 | .scope _, _, _, _ => fun _ _ _ _ _ _ _ _ _ _ _ _ he => he.elim
 | .label _, _, _, _ => fun _ _ _ _ _ _ _ _ _ _ _ _ he => he.elim
 | .goto _, _, _, _ => fun _ _ _ _ _ _ _ _ _ _ _ _ he => he.elim
 | .refuse _, _, _, _ => fun _ _ _ _ _ _ _ _ _ _ _ _ he => he.elim
def entry : Nat → List TV → List (Nat × PV)
 | _, [] => []
 | i, tv :: l => (i, .ro tv.t tv.x) :: entry (i + 1) l
abbrev RS := Nat × Option TypeId
def resv : RS → ResultVar
 | (s, none) => .tmp s
 | (s, some T) => .cell s T
def outs (TE : TypeId → Option Ty) : FS → List RS → List RV → List Nat → Prop
 | _, [], [], _ => True
 | f, (s, none) :: ss, (false, tv) :: rs, us => rdc tv.t (f.res (.tmp s)) (fun y => y = tv.x) ∧ (match (f.g s).key with | some k => us.contains k = false | _ => True) ∧ outs TE (f.fzo [.tmp s]) ss rs us
 | f, (s, some T) :: ss, (false, tv) :: rs, us => aLoad TE T [f.res (.tmp s)] (fun p _ => p = .ro tv.t tv.x) ∧ outs TE f ss rs us
 | f, (s, none) :: ss, (true, ⟨.sl e t, xs⟩) :: rs, us => t.nid = true ∧ match f.g s with
  | .nil => t.row = true ∧ xs = [] ∧ outs TE f ss rs us
  | .own k => match f.o k with
   | some o => o.mu = true ∧ us.contains k = false ∧ (TV.mk (.sl o.e o.t) o.xs).ofT (.sl e t) (fun y => y = xs) ∧ outs TE f ss rs (k :: us)
   | none => False
  | _ => False
 | _, _, _, _ => False
theorem entry_look : ∀ (l : List TV) (i j : Nat), lkp .bot (entry i l) j = if i ≤ j then (match l[j - i]? with | some tv => .ro tv.t tv.x | none => .bot) else .bot
 | [], i, j => by simp [entry, lkp]
 | tv :: l, i, j => by
  show (if j = i then _ else lkp .bot (entry (i + 1) l) j) = _
  rw [entry_look l]
  by_cases h : j = i
  ·subst h; simp
  ·rw [if_neg h]
   by_cases h2 : i + 1 ≤ j
   ·rw [if_pos h2, if_pos (by omega), show j - i = (j - (i + 1)) + 1 by omega, List.getElem?_cons_succ]
   ·rw [if_neg h2, if_neg (by omega)]
theorem Args_get {w : World} {S : Nat → Prop} : ∀ {l : List TV} {vs : List Value}, Args w S l vs → l.length = vs.length ∧ ∀ (i : Nat) (tv : TV), l[i]? = some tv → Vs w S tv.t tv.x (vs.getD i undef)
 | [], [], _ => ⟨rfl, fun i tv e => by simp at e⟩
 | tv :: l, v :: vs, h => by
  obtain ⟨h1, h2⟩ := Args_get h.2
  refine ⟨by simp [h1], fun i tv' e => ?_⟩
  cases i with
  | zero => injection e with e; subst e; exact h.1
  | succ i => exact h2 i tv' e
 | [], _ :: _, h => h.elim
 | _ :: _, [], h => h.elim
theorem rel_entry {w : World} {S : Nat → Prop} {al : List TV} {vals : List Value} (hS : ∀ b, S b → b < w.heap.size) (ha : Args w S al vals) (hn : al.length ≤ N) :
  RelC (fun b => w.heap.size ≤ b) w S N (Fe (2 * N)) ⟨lkp .bot (entry 0 al), fun _ => none, 0⟩ { tmps := vals.toArray ++ Array.replicate (N - vals.toArray.size) undef, defers := [] } w S (fun _ => undef) := by
 obtain ⟨hl, hg⟩ := Args_get ha
 refine ⟨Bel.refl _ _, fun _ h => h, Dfs_nil, by simp; omega, fun i => ?_, (fun k o e => by cases e), (fun k k' o o' _ e => by cases e), (fun k o e => by cases e), (fun k o e => by cases e), fun b hb _ => hb, hS, fun _ _ => rfl, fun i k hk => ?_, (fun k o e => by cases e), fun k hk => hk.2⟩
 ·show PVr w S _ _ (lkp .bot (entry 0 al) i) _
  rw [entry_look, if_pos (Nat.zero_le _), Nat.sub_zero]
  rcases e : al[i]? with _ | tv
  ·exact trivial
  ·have hi : i < vals.length := by rw [← hl]; exact (List.getElem?_eq_some_iff.1 e).1
   have hv := hg i tv e
   have : ((vals.toArray ++ Array.replicate (N - vals.toArray.size) undef).getD i undef) = vals.getD i undef := by
    simp [Array.getD, List.getD, hi, Array.getElem_append_left]
    omega
   show Vs w S tv.t tv.x _
   rw [this]
   exact hv
 ·exfalso
  have hk : k ∈ (lkp .bot (entry 0 al) i).keys := hk
  rw [entry_look, if_pos (Nat.zero_le _), Nat.sub_zero] at hk
  rcases e : al[i]? with _ | tv
  ·rw [e] at hk; cases hk
  ·rw [e] at hk; cases hk
end
end Go.TT
end
section
namespace Go.TT
open Go.RowKit
set_option linter.unusedVariables false
set_option linter.unusedSimpArgs false
section
variable {P : Program} {TE : TypeId → Option Ty} {w0 : World} {S0 : Nat → Prop} {N : Nat} {ps : List Nat} {Fk : Nat → Prop} {a : Act} {w : World} {V : Nat → Value}
theorem fzo_one {f : FS} {s : Nat} {k : Nat} {o : Ob} (h : f.o k = some o) (hne : (f.g s).key ≠ some k) : (f.fzo [.tmp s]).o k = some o := by
 unfold FS.fzo
 show (fz1 f (f.g s)).o k = some o
 rw [fz1_eq]
 split
 ·rename_i j e
  rw [frz_o, if_neg (fun q => hne (by rw [e, q]))]; exact h
 ·exact h
theorem rd_shd1 {n0 : Nat → Prop} {f : FS} {S : Nat → Prop} {s : Nat} (h : RelC n0 w0 S0 N Fk (f.fzo [.tmp s]) a w S V) {t : Ty} {K : t.den → Prop} (he : rdc t (f.res (.tmp s)) K) : ∃ y, K y ∧ Vs w S t y (a.tmps.getD s undef) := by
 have hop : (f.fzo [.tmp s]).op (.tmp s) = f.op (.tmp s) := op_g (fzo_g _ f) _
 have obj : ∀ {k : Nat} {o : Ob}, (f.op (.tmp s)).key = some k → (f.op (.tmp s)).key.bind f.o = some o → o.t.row = true → (f.op (.tmp s)).key.bind (f.fzo [.tmp s]).o = some { o with mu := false } := fun {k o} h1 h2 h3 => by
  rw [h1] at h2 ⊢
  obtain ⟨m, r1, r2⟩ := fzo_o [.tmp s] f k o h2 h3
  rw [r2 (.tmp s) (List.mem_singleton.2 rfl) h1] at r1; exact r1
 have harg := h.arg (.tmp s)
 have fin : ∀ {K : t.den → Prop}, shd t ((f.fzo [.tmp s]).res (.tmp s)) K → ∃ y, K y ∧ Vs w S t y (a.tmps.getD s undef) := fun he => shd_ok h harg he
 unfold FS.res at he fin
 rw [hop] at fin
 generalize hp : f.op (.tmp s) = p at *
 rcases p with _ | ⟨t', x'⟩ | _ | k | ⟨k, i, fs⟩ | ⟨t', x'⟩ | ⟨k, l, j⟩ | ⟨e1, k⟩ | ⟨_, _⟩ | _ <;> simp only [PV.key, Option.bind_some, Option.bind_none] at he fin obj <;> simp only [rdc] at he <;> try exact he.elim
 ·exact fin he
 ·exact fin he
 ·rcases ho : f.o k with _ | o
  ·rw [ho] at he; exact he.elim
  ·rw [ho] at he
   exact fin (by rw [obj rfl ho he.1]; exact ⟨rfl, he.2⟩)
 ·rcases ho : f.o k with _ | o
  ·rw [ho] at he; exact he.elim
  ·rw [ho] at he
   exact fin (by rw [obj rfl ho he.1]; exact ⟨rfl, he.2⟩)
 ·rcases ho : f.o k with _ | o
  ·rw [ho] at he; exact he.elim
  ·rw [ho] at he
   exact fin (by
    have hst := frz_stay [.tmp s] f k o ho he.1
    rw [hst]
    exact ⟨he.1, he.2⟩)
theorem aLoad_val {n0 : Nat → Prop} {f : FS} {S : Nat → Prop} (hTE : ∀ e t, TE e = some t → TyOk P t e) (h : RelC n0 w0 S0 N Fk f a w S V) {T : TypeId} {x : Arg} {vx : Value} {t : Ty} {y : t.den} (hx : ArgOk Fk f w S V x vx) (he : aLoad TE T [x] fun p _ => p = .ro t y) :
  ∃ v, (do loadVar T (← asAddr vx) : Sem Value).run P w = .ok v w ∧ Vs w S t y v := by
 have fin : ∀ {ad : Addr} {t' : Ty} {z : t'.den}, vx = .pointer (some ad) → (∃ v, (loadVar T ad).run P w = .ok v w ∧ Vs w S t' z v) → PV.ro t' z = .ro t y → ∃ v, (do loadVar T (← asAddr vx) : Sem Value).run P w = .ok v w ∧ Vs w S t y v := fun {ad t' z} h1 ⟨v, h2, h3⟩ h4 => by
  injection h4 with q1 q2
  subst q1
  cases q2
  exact ⟨v, by rw [h1]; simp only [asAddr, Sem.run_bind, Sem.run_pure, Result.andThen_ok, h2], h3⟩
 unfold aLoad at he
 split at he
 ·rename_i t x' o heq
  simp only [List.cons.injEq, and_true] at heq
  subst heq
  obtain ⟨h1, h2⟩ := he
  obtain ⟨ad, cs, e, hs, d1, d2⟩ := hx.pv
  exact fin e (run_loadVar (P := P) (hTE _ _ h1) ⟨cs, d1, d2⟩) h2
 ·rename_i t x' o heq
  simp only [List.cons.injEq, and_true] at heq
  subst heq
  obtain ⟨h1, h2⟩ := he
  obtain ⟨ad, cs, q1, hs, d1, d2⟩ := Vs_rf.1 hx.pv
  injection q1 with q1
  exact fin q1 (run_loadVar (P := P) (hTE _ _ h1) ⟨cs, d1, d2⟩) h2
 ·exact (by cases he.2.2)
 ·rename_i k i fs o hnid heq
  simp only [List.cons.injEq, and_true] at heq
  subst heq
  obtain ⟨hr, h1, h2⟩ := he
  obtain ⟨ho, hs⟩ := hx.sh rfl
  rw [row_ln hr] at hs
  obtain ⟨i0, i1, ad, m, c, q, e1, e2, e3⟩ := hx.pv _ _ hs
  obtain ⟨A, c', cs, e1', _, e4, e5⟩ := h.own_sl ho hr
  rw [e1] at e1'
  injection e1' with e1' _ _
  subst e1'
  have hi : Int.toNat i < o.xs.length := toNat_lt' i0 i1
  rcases e5 with e5 | ⟨ad', e5, hc⟩
  ·rw [e5] at hi; simp at hi
  injection e5 with e5; subst e5
  have hcel := Cel_el e4 hc _ hi
  rw [getD_of_lt _ _ _ hi] at h1 h2
  obtain ⟨t1, hcel⟩ := Cel_pj hcel e2
  rw [add_add] at hcel
  exact fin e3 (run_loadVar (P := P) (hTE _ _ h1) hcel) h2
 ·exact he.elim
def resM (tmps : Array Value) : RS → Sem Value
 | (s, none) => pure (tmps.getD s undef)
 | (s, some T) => do loadVar T (← asAddr (tmps.getD s undef))
theorem mapM_run {tmps : Array Value} {r : RS} {ss : List RS} {v : Value} {vs : List Value} (h1 : (resM tmps r).run P w = .ok v w) (h2 : (ss.mapM (resM tmps)).run P w = .ok vs w) : ((r :: ss).mapM (resM tmps)).run P w = .ok (v :: vs) w := by
 rw [List.mapM_cons]; simp only [Sem.run_bind, h1, Result.andThen_ok, h2, Sem.run_pure]
theorem outs_ok (hTE : ∀ e t, TE e = some t → TyOk P t e) : ∀ {ss : List RS} {rs : List RV} {us : List Nat} {f : FS} {S : Nat → Prop} {B : Nat → Prop}, RelC (fun b => w0.heap.size ≤ b) w0 S0 N Fk f a w S V → outs TE f ss rs us → (∀ k ∈ us, ∃ o, f.o k = some o ∧ o.mu = true) →
  (∀ b, B b → ∃ k ∈ us, blk (V k) = some b) → ∃ S2 f2 vs, RelC (fun b => w0.heap.size ≤ b) w0 S0 N Fk f2 a w S2 V ∧ (∀ b, S b → S2 b) ∧ (ss.mapM (resM a.tmps)).run P w = .ok vs w ∧ Rets w0.heap.size w S2 B rs vs ∧ ∀ k ∈ us, ∀ b, blk (V k) = some b → ¬ S2 b
 | [], [], us, f, S, B, h, _, hu, _ => ⟨S, f, [], h, fun _ h => h, by simp, trivial, fun k hk b hb => by
   obtain ⟨o, h1, h2⟩ := hu k hk
   exact h.sp k o h1 h2 b hb⟩
 | (s, none) :: ss, (false, tv) :: rs, us, f, S, B, h, he, hu, hB => by
  obtain ⟨h1, h2, h3⟩ := he
  obtain ⟨S1, hz, hS⟩ := h.fzo' [.tmp s]
  have hrd : ∃ y, y = tv.x ∧ Vs w S1 tv.t y (a.tmps.getD s undef) := by
   have hop : ((f.fzo [.tmp s]).op (.tmp s)) = f.op (.tmp s) := op_g (fzo_g _ f) _
   obtain ⟨y, y1, y2⟩ := rd_shd1 hz h1
   exact ⟨y, y1, y2⟩
  obtain ⟨y, y1, y2⟩ := hrd
  have hu' : ∀ k ∈ us, ∃ o, (f.fzo [.tmp s]).o k = some o ∧ o.mu = true := fun k hk => by
   obtain ⟨o, q1, q2⟩ := hu k hk
   refine ⟨o, fzo_one q1 (fun q => ?_), q2⟩
   rw [q] at h2
   simp only at h2
   have : us.contains k = true := by simpa using hk
   rw [this] at h2; cases h2
  obtain ⟨S2, f2, vs, r1, r2, r0, r3, r4⟩ := outs_ok hTE hz h3 hu' hB
  exact ⟨S2, f2, _ :: vs, r1, fun b hb => r2 b (hS b hb), mapM_run (r := (s, none)) rfl r0, ⟨by rw [y1] at y2; exact Vs_mono r2 (fun _ _ => rfl) y2, r3⟩, r4⟩
 | (s, some T) :: ss, (false, tv) :: rs, us, f, S, B, h, he, hu, hB => by
  obtain ⟨h1, h3⟩ := he
  obtain ⟨v, v1, v2⟩ := aLoad_val (P := P) hTE h (h.arg (.tmp s)) h1
  obtain ⟨S2, f2, vs, r1, r2, r0, r3, r4⟩ := outs_ok hTE h h3 hu hB
  have hrs : (resM a.tmps (s, some T)).run P w = .ok v w := v1
  exact ⟨S2, f2, v :: vs, r1, r2, mapM_run hrs r0, ⟨Vs_mono r2 (fun _ _ => rfl) v2, r3⟩, r4⟩
 | (s, none) :: ss, (true, ⟨.sl e t, xs⟩) :: rs, us, f, S, B, h, he, hu, hB => by
  have hsl := h.sl s
  simp only [outs] at he
  obtain ⟨hni, he⟩ := he
  split at he
  ·rename_i hg
   obtain ⟨hrow, rfl, he⟩ := he
   rw [hg] at hsl
   have hsl : a.tmps.getD s undef = .slice none 0 0 := hsl
   obtain ⟨S2, f2, vs, r1, r2, r0, r3, r4⟩ := outs_ok (B := fun b => B b ∨ blk (a.tmps.getD s undef) = some b) hTE h he hu (fun b hb => by
    rcases hb with hb | hb
    ·exact hB b hb
    ·rw [hsl] at hb; cases hb)
   refine ⟨S2, f2, _ :: vs, r1, r2, mapM_run (r := (s, none)) rfl r0, ⟨⟨hni, by rw [hsl]; exact OR_nil hrow⟩, fun b hb => ?_, r3⟩, r4⟩
   rw [hsl] at hb; cases hb
  ·rename_i k hg
   rw [hg] at hsl
   split at he
   ·rename_i o ho
    obtain ⟨hm, hc, hx, he⟩ := he
    obtain ⟨y, e1, rfl⟩ := TV.ofT_out hx
    injection e1 with e1 e2
    injection e1 with e3 e4
    subst e3 e4
    cases e2
    have hv : a.tmps.getD s undef = V k := hsl _ _ (by simp [FS.sh, ho]; exact ⟨rfl, rfl⟩)
    have hkn : k ∉ us := fun q => by
     have : us.contains k = true := by simpa using q
     rw [this] at hc; cases hc
    obtain ⟨S2, f2, vs, r1, r2, r0, r3, r4⟩ := outs_ok (B := fun b => B b ∨ blk (a.tmps.getD s undef) = some b) hTE h he (fun j hj => by
     rcases List.mem_cons.1 hj with rfl | hj
     ·exact ⟨o, ho, hm⟩
     ·exact hu j hj) (fun b hb => by
     rcases hb with hb | hb
     ·obtain ⟨j, j1, j2⟩ := hB b hb; exact ⟨j, List.mem_cons_of_mem _ j1, j2⟩
     ·exact ⟨k, List.mem_cons_self, by rw [← hv]; exact hb⟩)
    have h1 := h.ob k o ho
    refine ⟨S2, f2, _ :: vs, r1, r2, mapM_run (r := (s, none)) rfl r0, ⟨⟨hni, ?_⟩, fun b hb => ?_, r3⟩, fun j hj => r4 j (List.mem_cons_of_mem _ hj)⟩
    ·rw [hv, show (⟨o.e, o.t, o.xs, true⟩ : Ob) = o by rw [← hm]]
     exact OR_mono r2 (fun _ _ => rfl) (fun _ _ _ => rfl) (fun i hi => by rw [nid_ids hni] at hi; cases hi) h1
    ·rw [hv] at hb
     refine ⟨(h.ow k o ho hm b hb).1, r4 k List.mem_cons_self b hb, fun hBb => ?_⟩
     obtain ⟨j, j1, j2⟩ := hB b hBb
     obtain ⟨o', q1, q2⟩ := hu j j1
     exact h.ds k j o o' (fun e => hkn (e ▸ j1)) ho q1 hm q2 b hb j2
   ·exact he.elim
  ·exact he.elim
 | [], _ :: _, _, _, _, _, _, he, _, _ => by simp [outs] at he
 | _ :: _, [], _, _, _, _, _, he, _, _ => by simp [outs] at he
 | (_, some _) :: _, (true, ⟨_, _⟩) :: _, _, _, _, _, _, he, _, _ => by simp [outs] at he
 | (_, none) :: _, (true, ⟨.int _, _⟩) :: _, _, _, _, _, _, he, _, _ => by simp [outs] at he
 | (_, none) :: _, (true, ⟨.bool, _⟩) :: _, _, _, _, _, _, he, _, _ => by simp [outs] at he
 | (_, none) :: _, (true, ⟨.str, _⟩) :: _, _, _, _, _, _, he, _, _ => by simp [outs] at he
 | (_, none) :: _, (true, ⟨.pr _ _, _⟩) :: _, _, _, _, _, _, he, _, _ => by simp [outs] at he
 | (_, none) :: _, (true, ⟨.un, _⟩) :: _, _, _, _, _, _, he, _, _ => by simp [outs] at he
 | (_, none) :: _, (true, ⟨.rf _, _⟩) :: _, _, _, _, _, _, he, _, _ => by simp [outs] at he
 | (_, none) :: _, (true, ⟨.fn _ _ _, _⟩) :: _, _, _, _, _, _, he, _, _ => by simp [outs] at he
 | (_, none) :: _, (true, ⟨.ifc _ _, _⟩) :: _, _, _, _, _, _, he, _, _ => by simp [outs] at he
 | (_, none) :: _, (true, ⟨.id _ _, _⟩) :: _, _, _, _, _, _, he, _, _ => by simp [outs] at he
 | (_, none) :: _, (true, ⟨.mp _ _, _⟩) :: _, _, _, _, _, _, he, _, _ => by simp [outs] at he
def retK (TE : TypeId → Option Ty) (res : List RS) (rs : List RV) : KE
 | .ret, _, f => outs TE f res rs []
 | .normal, _, f => outs TE f res rs []
 | _, _, _ => False
theorem run_results {F : Func} {res : List RS} {vs : List Value} (hr : F.results = (res.map resv).toArray) {tmps : Array Value} (h : (res.mapM (resM tmps)).run P w = .ok vs w) : (results F tmps).run P w = .ok (retv vs) w := by
 have hl : ∀ (g : ResultVar → Sem Value), (∀ r, g (resv r) = resM tmps r) → ∀ l : List RS, (l.map resv).mapM g = l.mapM (resM tmps) := by
  intro g hg l
  induction l with
  | nil => simp
  | cons x l ih => simp only [List.map_cons, List.mapM_cons, hg, ih]
 unfold results
 rw [hr, List.mapM_toArray]
 simp only [Sem.run_bind, Sem.run_map]
 rw [hl _ (fun r => by obtain ⟨s, t⟩ := r; cases t <;> rfl), h]
 simp only [Result.andThen_ok, Sem.run_pure]
 congr 1
 match vs with
 | [] => rfl
 | [v] => rfl
 | v :: u :: l => simp [retv]
def FS.marks (N : Nat) (f : FS) : List Nat → FS
 | [] => f
 | d :: ds => (f.put (some (N + d)) .tnil).marks N ds
theorem RelC.marks {n0 : Nat → Prop} : ∀ (ds : List Nat) {f : FS} {S : Nat → Prop}, RelC n0 w0 S0 N Fk f a w S V → RelC n0 w0 S0 N Fk (f.marks N ds) a w S V
 | [], f, S, h => h
 | d :: ds, f, S, h => by
  unfold FS.marks
  refine RelC.marks ds (h.know ?_ (fun k hk => by cases hk))
  show a.tmps.getD (N + d) undef = .tuple #[]
  have hs := h.sz
  simp [Array.getD, show ¬ N + d < a.tmps.size by omega]
  rfl
theorem con_ms {ms : List Nat} {fn : FuncId} {F : Func} {c : Code} {res : List RS} {al : List TV} {rs : List RV} (hTE : ∀ e t, TE e = some t → TyOk P t e) (hm : P.follows .mixedOrders = true) (hf : P.funcs[fn]? = some F) (hname : (F.name == "runtime.NumGoroutine") = false) (hb : F.body = some c) (hN : F.ntmps = N)
  (hr : F.results = (res.map resv).toArray) (hn : al.length ≤ N) (h : tw P TE N ps c (2 * N) (FS.marks N ⟨lkp .bot (entry 0 al), fun _ => none, 0⟩ ms) (retK TE res rs)) : Con P fn al rs := by
 refine ⟨⟨F, hf, hname, by rw [hb]; rfl⟩, fun w S vals hS hA => ?_⟩
 refine callsIn_wide.1 (callsIn_of_wp_marks (n := 3) (F := Fence.wide) hf hb trivial (wpIn_mono (tw_ok hTE hm c none 3 (by simp) _ _ _ (2 * N) _ _ w S _ _ (by rw [hN]; exact (rel_entry hS hA hn).marks ms) ⟨Nat.le_refl _, by omega⟩ h) ?_) rfl)
 rintro e a' w' ⟨⟨nx, f, S', V, hQ, _, hr'⟩, _⟩
 have fin : outs TE f res rs [] → LeavesInM Fence.wide 3 P F a'.tmps (fun e w' => ∃ vs, e = .returned (retv vs) ∧ Below w.heap.size w w' ∧ ∃ S', (∀ b, b < w.heap.size → S' b → S b) ∧ (∀ b, S' b → b < w'.heap.size) ∧ Rets w.heap.size w' S' (fun _ => False) rs vs) a'.defers .returning w' := by
  intro ho
  refine leaves_ok (fun w2 hr2 => ?_) a'.defers w' (hr'.act (a' := ⟨a'.tmps, []⟩) hr'.sz Dfs_nil (fun i => .inr rfl)) hr'.df
  obtain ⟨S2, f2, vs, r1, r2, r0, r3, r4⟩ := outs_ok (B := fun _ => False) hTE hr2 ho (fun k hk => by cases hk) (fun b hb => hb.elim)
  exact ⟨_, run_results hr r0, _, rfl, hr2.bel.below, S2, fun b hb hs => r1.old b hs (by omega), r1.lt, r3⟩
 cases e with
 | normal => exact fin hQ
 | ret => exact fin hQ
 | exit id => exact hQ.elim
 | goto l => exact hQ.elim
 | panic c => exact hQ.elim
 | outgrown => exact hQ.elim
theorem con_of {fn : FuncId} {F : Func} {c : Code} {res : List RS} {al : List TV} {rs : List RV} (hTE : ∀ e t, TE e = some t → TyOk P t e) (hm : P.follows .mixedOrders = true) (hf : P.funcs[fn]? = some F) (hname : (F.name == "runtime.NumGoroutine") = false) (hb : F.body = some c) (hN : F.ntmps = N)
  (hr : F.results = (res.map resv).toArray) (hn : al.length ≤ N) (h : tw P TE N ps c (2 * N) ⟨lkp .bot (entry 0 al), fun _ => none, 0⟩ (retK TE res rs)) : Con P fn al rs := con_ms (ms := []) hTE hm hf hname hb hN hr hn h
end
end Go.TT
end
section
namespace Go.TT
open Go.RowKit
set_option linter.unusedVariables false
set_option linter.unusedSimpArgs false
def w_ {α : Sort _} (x : α) : α := x
theorem w_1 {α : Sort _} {x : α} : w_ x = x := id rfl
section
variable {P : Program} {TE : TypeId → Option Ty} {N : Nat} {ps : List Nat} {dr : Bool} {ops : Array Oper} {key nx : Nat} {f f' : FS} {K : KF} {Q : KE}
@[congr] theorem tw_congr {c : Code} {nx' : Nat} (h : w_ f = f') (h2 : w_ nx = nx') : tw P TE N ps c nx f Q = tw P TE N ps c nx' f' Q := by rw [w_1] at h h2; rw [h, h2]
@[congr] theorem fzl_congr {k : KF} (h : w_ f = f') : fzl f k = fzl f' k := by rw [w_1] at h; rw [h]
theorem fl_ {k : KF} (h : k f) : fzl f k := ⟨[], h⟩
@[congr] theorem rgn_congr {l l' : List Oper} {key' : Nat} (h : w_ f = f') (h2 : w_ l = l') (h3 : w_ key = key') : rgn P TE N dr ops key l f K = rgn P TE N dr ops key' l' f' K := by rw [w_1] at h h2 h3; rw [h, h2, h3]
@[congr] theorem grd_congr {o : Oper} {y n : KF} (h : w_ f = f') : grd ops o f y n = grd ops o f' y n := by rw [w_1] at h; rw [h]
@[congr] theorem stp_congr {o : Oper} {key' : Nat} (h : w_ f = f') (h3 : w_ key = key') : stp P TE N dr key o f K = stp P TE N dr key' o f' K := by rw [w_1] at h h3; rw [h, h3]
@[congr] theorem fEv_congr {o : Oper} (h : w_ f = f') : fEv TE key o f K = fEv TE key o f' K := by rw [w_1] at h; rw [h]
@[congr] theorem full_congr {o : Oper} (h : w_ f = f') : full TE key o f K = full TE key o f' K := by rw [w_1] at h; rw [h]
@[congr] theorem fCal_congr {d : Option Nat} {fn : Callee} {xs xs' : List Operand} {Ts Ts' : List TypeId} (h : w_ f = f') (h2 : w_ xs = xs') (h3 : w_ Ts = Ts') : fCal P TE dr key d fn xs Ts f K = fCal P TE dr key d fn xs' Ts' f' K := by rw [w_1] at h h2 h3; rw [h, h2, h3]
section
variable {al as' : List Arg} {a a' : Arg} {k : KK} {T e : TypeId} {n : Nat}
@[congr] theorem ev_congr {o : Op} (h : w_ al = as') : ev TE key o al k = ev TE key o as' k := by rw [w_1] at h; rw [h]
@[congr] theorem aMove_congr (h : w_ al = as') : aMove al k = aMove as' k := by rw [w_1] at h; rw [h]
@[congr] theorem aPick_congr (h : w_ al = as') : aPick al k = aPick as' k := by rw [w_1] at h; rw [h]
@[congr] theorem aBin_congr {o : BinOp} (h : w_ al = as') : aBin o al k = aBin o as' k := by rw [w_1] at h; rw [h]
@[congr] theorem aUn_congr {o : UnOp} (h : w_ al = as') : aUn o al k = aUn o as' k := by rw [w_1] at h; rw [h]
@[congr] theorem aConv_congr (h : w_ al = as') : aConv TE T e al k = aConv TE T e as' k := by rw [w_1] at h; rw [h]
@[congr] theorem aLoad_congr (h : w_ al = as') : aLoad TE T al k = aLoad TE T as' k := by rw [w_1] at h; rw [h]
@[congr] theorem aIdxA_congr (h : w_ al = as') : aIdxA TE T al k = aIdxA TE T as' k := by rw [w_1] at h; rw [h]
@[congr] theorem aFldA_congr (h : w_ al = as') : aFldA TE T n al k = aFldA TE T n as' k := by rw [w_1] at h; rw [h]
@[congr] theorem aFld_congr (h : w_ al = as') : aFld TE T n al k = aFld TE T n as' k := by rw [w_1] at h; rw [h]
@[congr] theorem aIdx_congr (h : w_ al = as') : aIdx TE T al k = aIdx TE T as' k := by rw [w_1] at h; rw [h]
@[congr] theorem aSli_congr {lo hi lo' hi' : Bool} (h : w_ al = as') (h2 : w_ lo = lo') (h3 : w_ hi = hi') : aSli TE T lo hi al k = aSli TE T lo' hi' as' k := by rw [w_1] at h h2 h3; rw [h, h2, h3]
@[congr] theorem aSli3_congr {lo lo' : Bool} (h : w_ al = as') (h2 : w_ lo = lo') : aSli3 TE T lo al k = aSli3 TE T lo' as' k := by rw [w_1] at h h2; rw [h, h2]
@[congr] theorem roSl_congr {t : Ty} {xs : List t.den} {lo hi : Bool} (h : w_ al = as') : roSl e t xs lo hi al k = roSl e t xs lo hi as' k := by rw [w_1] at h; rw [h]
@[congr] theorem roSl3_congr {t : Ty} {xs : List t.den} {lo : Bool} (h : w_ al = as') : roSl3 e t xs lo al k = roSl3 e t xs lo as' k := by rw [w_1] at h; rw [h]
@[congr] theorem aMake_congr (h : w_ al = as') : aMake TE key T al k = aMake TE key T as' k := by rw [w_1] at h; rw [h]
@[congr] theorem aAlloc_congr (h : w_ al = as') : aAlloc TE key T al k = aAlloc TE key T as' k := by rw [w_1] at h; rw [h]
@[congr] theorem aBox_congr (h : w_ al = as') : aBox TE key T al k = aBox TE key T as' k := by rw [w_1] at h; rw [h]
@[congr] theorem aBldS_congr {ix ix' : List Nat} {n' : Nat} (h : w_ al = as') (h2 : w_ ix = ix') : aBldS TE key T n ix al k = aBldS TE key T n ix' as' k := by rw [w_1] at h h2; rw [h, h2]
@[congr] theorem aBld_congr {ix ix' : List Nat} (h : w_ al = as') (h2 : w_ ix = ix') : aBld TE T ix al k = aBld TE T ix' as' k := by rw [w_1] at h h2; rw [h, h2]
@[congr] theorem aExt_congr (h : w_ al = as') : aExt n al k = aExt n as' k := by rw [w_1] at h; rw [h]
@[congr] theorem aNilC_congr (h : w_ al = as') : aNilC al k = aNilC as' k := by rw [w_1] at h; rw [h]
@[congr] theorem aLen_congr (h : w_ al = as') : aLen TE T al k = aLen TE T as' k := by rw [w_1] at h; rw [h]
@[congr] theorem aMax_congr (h : w_ al = as') : aMax al k = aMax as' k := by rw [w_1] at h; rw [h]
@[congr] theorem aMin_congr (h : w_ al = as') : aMin al k = aMin as' k := by rw [w_1] at h; rw [h]
@[congr] theorem rd_congr {t : Ty} {k : t.den → Prop} (h : w_ a = a') : rdc t a k = rdc t a' k := by rw [w_1] at h; rw [h]
@[congr] theorem shd_congr {t : Ty} {k : t.den → Prop} (h : w_ a = a') : shd t a k = shd t a' k := by rw [w_1] at h; rw [h]
@[congr] theorem lst_congr {t : Ty} {k : List t.den → Prop} (h : w_ al = as') : lst t al k = lst t as' k := by rw [w_1] at h; rw [h]
@[congr] theorem bld_congr {t : Ty} {ix ix' : List Nat} {x x' : t.den} {k : t.den → Prop} (h : w_ al = as') (h2 : w_ ix = ix') (h3 : w_ x = x') : bld t ix al x k = bld t ix' as' x' k := by rw [w_1] at h h2 h3; rw [h, h2, h3]
@[congr] theorem as_congr {t : Ty} {y y' : TV} {k : t.den → Prop} (h : w_ y = y') : y.ofT t k = y'.ofT t k := by rw [w_1] at h; rw [h]
@[congr] theorem st_congr {t : Ty} {fs fs' : List Nat} {x x' : t.den} {y y' : TV} {k : t.den → Prop} (h : w_ x = x') (h2 : w_ fs = fs') (h3 : w_ y = y') : t.st fs x y k = t.st fs' x' y' k := by rw [w_1] at h h2 h3; rw [h, h2, h3]
@[congr] theorem bin_congr {op : BinOp} {i j : IntKind} {x x' y y' : Int} {k : TV → Prop} (h : w_ x = x') (h2 : w_ y = y') : bin op i j x y k = bin op i j x' y' k := by rw [w_1] at h; rw [w_1] at h2; rw [h, h2]
@[congr] theorem rds_congr' {xs xs' : List Operand} {Ts Ts' : List TypeId} {k : List TV → Prop} (h : w_ f = f') (h2 : w_ xs = xs') (h3 : w_ Ts = Ts') : rds TE f xs Ts k = rds TE f' xs' Ts' k := by rw [w_1] at h h2 h3; rw [h, h2, h3]
@[congr] theorem fSto_congr {d : Option Nat} {v v' : Arg} (h : w_ f = f') (h2 : w_ a = a') (h3 : w_ v = v') : fSto TE T v f d K a = fSto TE T v' f' d K a' := by rw [w_1] at h h2 h3; rw [h, h2, h3]
@[congr] theorem fApp_congr {d : Option Nat} {v v' : Arg} (h : w_ f = f') (h2 : w_ a = a') (h3 : w_ v = v') : fApp TE key T v f d K a = fApp TE key T v' f' d K a' := by rw [w_1] at h h2 h3; rw [h, h2, h3]
@[congr] theorem fCopy_congr {d : Option Nat} {v v' : Arg} (h : w_ f = f') (h2 : w_ a = a') (h3 : w_ v = v') : fCopy TE T v f d K a = fCopy TE T v' f' d K a' := by rw [w_1] at h h2 h3; rw [h, h2, h3]
@[congr] theorem fCut_congr {d : Option Nat} {j j' : Nat} {o o' : Ob} (h : w_ f = f') (h2 : w_ a = a') (h3 : w_ j = j') (h4 : w_ o = o') : fCut TE key T f d K j o a = fCut TE key T f' d K j' o' a' := by rw [w_1] at h h2 h3 h4; rw [h, h2, h3, h4]
@[congr] theorem fSli_congr {o : Oper} {lo hi : Option Operand} (h : w_ f = f') (h2 : w_ a = a') : fSli TE key o T lo hi f K a = fSli TE key o T lo hi f' K a' := by rw [w_1] at h; rw [w_1] at h2; rw [h, h2]
@[congr] theorem fSli3_congr {o : Oper} (h : w_ f = f') (h2 : w_ a = a') : fSli3 TE key o f K a = fSli3 TE key o f' K a' := by rw [w_1] at h; rw [w_1] at h2; rw [h, h2]
@[congr] theorem fSt_congr {d : Option Nat} {v : Operand} (h : w_ f = f') (h2 : w_ a = a') : fSt TE key T v f d K a = fSt TE key T v f' d K a' := by rw [w_1] at h h2; rw [h, h2]
@[congr] theorem fStI_congr {d : Option Nat} {t : Ty} {ids ids' : List Nat} {k k' : Nat} {i i' : Int} (h : w_ f = f') (h2 : w_ a = a') (h3 : w_ ids = ids') (h4 : w_ k = k') (h5 : w_ i = i') : fStI T e t ids k i key f d K a = fStI T e t ids' k' i' key f' d K a' := by rw [w_1] at h h2 h3 h4 h5; rw [h, h2, h3, h4, h5]
@[congr] theorem fAp_congr {d : Option Nat} {v : Operand} (h : w_ f = f') (h2 : w_ a = a') : fAp TE key T v f d K a = fAp TE key T v f' d K a' := by rw [w_1] at h h2; rw [h, h2]
@[congr] theorem fApI_congr {d : Option Nat} {t : Ty} {ids ids' : List Nat} {k k' : Nat} (h : w_ f = f') (h2 : w_ a = a') (h3 : w_ ids = ids') (h4 : w_ k = k') : fApI T e t ids k key f d K a = fApI T e t ids' k' key f' d K a' := by rw [w_1] at h h2 h3 h4; rw [h, h2, h3, h4]
@[congr] theorem fMUp_congr {d : Option Nat} {y y' v v' : Arg} (h : w_ f = f') (h2 : w_ a = a') (h3 : w_ v = v') (h4 : w_ y = y') : fMUp TE T y v f d K a = fMUp TE T y' v' f' d K a' := by rw [w_1] at h h2 h3 h4; rw [h, h2, h3, h4]
@[congr] theorem fBlS_congr {o : Oper} {l l' : List Operand} (h : w_ f = f') (h2 : w_ l = l') : fBlS TE key o f K l = fBlS TE key o f' K l' := by rw [w_1] at h h2; rw [h, h2]
@[congr] theorem tvA_congr {k : TV → Prop} (h : w_ a = a') : tvA a k = tvA a' k := by rw [w_1] at h; rw [h]
@[congr] theorem tvs_congr {k : List TV → Prop} (h : w_ al = as') : tvs al k = tvs as' k := by rw [w_1] at h; rw [h]
@[congr] theorem rd1_congr {k : TV → Prop} (h : w_ a = a') : rd1 TE T a k = rd1 TE T a' k := by rw [w_1] at h; rw [h]
@[congr] theorem aMap_congr (h : w_ al = as') : aMap TE key T al k = aMap TE key T as' k := by rw [w_1] at h; rw [h]
@[congr] theorem aLook_congr {b : Bool} (h : w_ al = as') : aLook TE T b al k = aLook TE T b as' k := by rw [w_1] at h; rw [h]
@[congr] theorem aFn_congr {fn : Fn} (h : w_ al = as') : aFn fn n al k = aFn fn n as' k := by rw [w_1] at h; rw [h]
@[congr] theorem aIfc_congr (h : w_ al = as') : aIfc TE T al k = aIfc TE T as' k := by rw [w_1] at h; rw [h]
@[congr] theorem vwSl_congr {j j' m m' i i' : Nat} {lo hi : Bool} (h : w_ al = as') (h2 : w_ j = j') (h3 : w_ m = m') (h4 : w_ i = i') : vwSl j m i lo hi al k = vwSl j' m' i' lo hi as' k := by rw [w_1] at h h2 h3 h4; rw [h, h2, h3, h4]
end
theorem thenK_n {b : Nat → FS → KE → Prop} : thenK b Q .normal nx f = b nx f Q := rfl
theorem thenK_r {b : Nat → FS → KE → Prop} : thenK b Q .ret nx f = Q .ret nx f := rfl
theorem thenK_e {b : Nat → FS → KE → Prop} {i : Nat} : thenK b Q (.exit i) nx f = Q (.exit i) nx f := rfl
theorem inBlk_n {i : Nat} : inBlk i Q .normal nx f = Q .normal nx f := rfl
theorem inBlk_r {i : Nat} : inBlk i Q .ret nx f = Q .ret nx f := rfl
theorem inBlk_e {i j : Nat} : inBlk i Q (.exit j) nx f = if j = i then Q .normal nx f else Q (.exit j) nx f := rfl
theorem loopK_n {X : FS → Prop} {h : List (Nat × HM)} : loopK X N h Q .normal nx f = X (f.canon N h) := rfl
theorem loopK_r {X : FS → Prop} {h : List (Nat × HM)} : loopK X N h Q .ret nx f = Q .ret nx f := rfl
theorem loopK_e {X : FS → Prop} {h : List (Nat × HM)} {i : Nat} : loopK X N h Q (.exit i) nx f = Q (.exit i) nx f := rfl
theorem tw_skip : tw P TE N ps .skip nx f Q = Q .normal nx f := rfl
theorem tw_ret : tw P TE N ps .ret nx f Q = Q .ret nx f := rfl
theorem tw_exit {i : Nat} : tw P TE N ps (.exit i) nx f Q = Q (.exit i) nx f := rfl
theorem tw_reg {i : Nat} : tw P TE N ps (.region i ops false) nx f Q = rgn P TE N false ops nx ops.toList f fun f' => Q .normal (nx + 8 * ops.size) (f'.trim ps) := propext ⟨fun h => h.2, fun h => ⟨.inl rfl, h⟩⟩
theorem tw_regd {i : Nat} : tw P TE N ps (.region i ops true) nx f Q = (ordOK ops = true ∧ fzl f fun f => rgn P TE N true ops nx ops.toList f fun f' => Q .normal (nx + 8 * ops.size) (f'.trim ps)) := propext ⟨fun h => ⟨h.1.resolve_left (by simp), h.2⟩, fun h => ⟨.inr h.1, h.2⟩⟩
theorem tw_seq {a b : Code} : tw P TE N ps (.seq a b) nx f Q = tw P TE N ps a nx f (thenK (tw P TE N ps b) Q) := rfl
theorem tw_block {i : Nat} {b : Code} : tw P TE N ps (.block i b) nx f Q = tw P TE N ps b nx f (inBlk i Q) := rfl
def cnd (p : PV) (x y : Prop) : Prop := match p with
 | .ro .bool b => if (b : Bool) = true then x else y
 | _ => False
@[congr] theorem cnd_congr {p p' : PV} {x y : Prop} (h : w_ p = p') : cnd p x y = cnd p' x y := by rw [w_1] at h; rw [h]
theorem cnd_t {x y : Prop} : cnd (.ro .bool true) x y = x := by simp [cnd]
theorem cnd_f {x y : Prop} : cnd (.ro .bool false) x y = y := by simp [cnd]
theorem tw_cond {c : Operand} {x y : Code} : tw P TE N ps (.cond c x y) nx f Q = cnd (f.op c) (tw P TE N ps x nx f Q) (tw P TE N ps y nx f Q) := rfl
theorem rgn_nil : rgn P TE N dr ops key [] f K = K f := rfl
theorem rgn_cons {o : Oper} {l : List Oper} : rgn P TE N dr ops key (o :: l) f K = grd ops o f (fun f => stp P TE N dr key o f fun f' => rgn P TE N dr ops (key + 8) l f' K) (fun f => dOk N o.dst ∧ rgn P TE N dr ops (key + 8) l (f.put o.dst .tnil) K) := rfl
section
variable {y n : KF} {d : Option Tmp} {op : Op} {ty : TypeId} {pos : String} {af : Array Edge} {j : Nat} {want : Bool}
theorem grd_n : grd ops ⟨d, op, ty, pos, af, none⟩ f y n = y f := rfl
def cng (p : PV) (x y z : Prop) : Prop := match p with
 | .ro .bool b => if (b : Bool) = true then x else y
 | .tnil => z
 | _ => False
@[congr] theorem cng_congr {p p' : PV} {x y z : Prop} (h : w_ p = p') : cng p x y z = cng p' x y z := by rw [w_1] at h; rw [h]
theorem cng_r {x y z : Prop} {b : Bool} : cng (.ro .bool b) x y z = cnd (.ro .bool b) x y := rfl
theorem cng_n {x y z : Prop} : cng .tnil x y z = z := rfl
def gr (p : Option Tmp) (want : Bool) (f : FS) (y n : KF) : Prop := match p with
 | none => False
 | some t => cng (f.g t) (if want = true then y (f.put (some t) (.ro .bool true)) else n (f.put (some t) (.ro .bool true))) (if want = true then n (f.put (some t) (.ro .bool false)) else y (f.put (some t) (.ro .bool false))) (n f)
@[congr] theorem gr_congr {p p' : Option Tmp} (h : w_ p = p') (h2 : w_ f = f') : gr p want f y n = gr p' want f' y n := by rw [w_1] at h; rw [w_1] at h2; rw [h, h2]
theorem gr_t {t : Tmp} : gr (some t) true f y n = cng (f.g t) (y (f.put (some t) (.ro .bool true))) (n (f.put (some t) (.ro .bool false))) (n f) := by simp [gr]
theorem gr_f {t : Tmp} : gr (some t) false f y n = cng (f.g t) (n (f.put (some t) (.ro .bool true))) (y (f.put (some t) (.ro .bool false))) (n f) := by simp [gr]
theorem grd_s : grd ops ⟨d, op, ty, pos, af, some (j, want)⟩ f y n = gr ((ops[j]?).bind (·.dst)) want f y n := by
 unfold grd gr
 simp only
 rcases (ops[j]?).bind (·.dst) with _ | t <;> rfl
end
theorem fr_ {nx2 : Nat} {l0 : List Oper} (l : List Operand) (d : Nat) (hd : (ops[0]?).bind (·.dst) = some d) (h : rgn P TE N true ops nx2 l0 (f.fzo l) K) : fzl f (fun f => rgn P TE N true ops nx2 l0 f K) := ⟨l, h⟩
end
end Go.TT
end

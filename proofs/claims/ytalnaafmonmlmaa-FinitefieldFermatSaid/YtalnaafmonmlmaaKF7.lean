/- Machine side and arithmetic of the law, put together by a program of the session. No conditions. -/
import Derived.Laws.CopyRow
import Derived.Test.YtalnaafmonmlmaaKF6
section
namespace Go.TT
open Go.RowKit
set_option linter.unusedVariables false
set_option linter.unusedSimpArgs false
def fz1 (f : FS) (p : PV) : FS := match p with
 | .own j => f.frz j
 | .ptr j _ _ => f.frz j
 | .vw j _ _ => f.frz j
 | .one _ j => f.frz j
 | _ => f
def FS.fzo (f : FS) : List Operand → FS
 | [] => f
 | x :: l => (fz1 f (f.op x)).fzo l
abbrev KF := FS → Prop
def fEv (TE : TypeId → Option Ty) (key : Nat) (o : Oper) (f : FS) (K : KF) : Prop := ev TE key o.op (o.op.operands.toList.map f.res) fun p obs => K ((f.news key obs).put o.dst p)
def fSto (TE : TypeId → Option Ty) (T : TypeId) (v : Arg) (f : FS) (d : Option Nat) (K : KF) : Arg → Prop
 | (.ptr k i fs, some o) => (o.mu = true ∧ o.t.row = true) ∧ match TE T with
  | some ft => shd ft v fun y => o.t.st fs (o.xs.getD (i : Int).toNat o.t.zv) ⟨ft, y⟩ fun x' => K ((f.set k ⟨o.e, o.t, o.xs.set (i : Int).toNat x', true⟩).put d .bot)
  | none => False
 | _ => False
def fStI (e e' : TypeId) (t' : Ty) (ids : List Nat) (k : Nat) (i : Int) (key : Nat) (f : FS) (d : Option Nat) (K : KF) : Arg → Prop
 | (.own j, some ob) => (ob.e = e' ∧ ob.t = t' ∧ j ≠ k) ∧ if j % 2 = 1 then K ((f.set k ⟨e, .id e' t', List.set ids i.toNat j, true⟩).put d .bot)
   else K (((f.adopt j).set k ⟨e, .id e' t', List.set ids i.toNat (od f.h), true⟩).put d .bot)
 | (.nil, _) => K ((((f.new key ⟨e', t', [], true⟩).adopt key).set k ⟨e, .id e' t', List.set ids i.toNat (od f.h), true⟩).put d .bot)
 | (.ro (.sl e2 t2) ys, _) => (e2 = e' ∧ t2 = t') ∧ K ((((f.new key ⟨e2, t2, ys, false⟩).adopt key).set k ⟨e, .id e' t', List.set ids i.toNat (od f.h), true⟩).put d .bot)
 | _ => False
def fSt (TE : TypeId → Option Ty) (key : Nat) (T : TypeId) (v : Operand) (f : FS) (d : Option Nat) (K : KF) : Arg → Prop
 | (.ptr k i [], some ⟨e, .id e' t', ids, _⟩) => (TE T = some (.sl e' t') ∧ t'.row = true) ∧ fStI e e' t' ids k i key f d K (f.res v)
 | (p, o) => fSto TE T ((f.fzo [v]).res v) (f.fzo [v]) d K (p, p.key.bind (f.fzo [v]).o)
def fApp (TE : TypeId → Option Ty) (key : Nat) (T : TypeId) (x : Arg) (f : FS) (d : Option Nat) (K : KF) : Arg → Prop
 | (.nil, _) => match TE T with
  | some (.sl e t) => rdc (.sl e t) x fun ys => List.length ys ≤ 140737488355328 / t.by ∧ K ((f.new key ⟨e, t, ys, true⟩).put d (.own key))
  | _ => False
 | (.own k, some o) => o.mu = true ∧ TE T = some (.sl o.e o.t) ∧ rdc (.sl o.e o.t) x fun ys => o.xs.length + List.length ys ≤ 140737488355328 / o.t.by ∧ K (((f.del k).new key ⟨o.e, o.t, o.xs ++ ys, true⟩).put d (.own key))
 | _ => False
def fApI (e e' : TypeId) (t' : Ty) (ids : List Nat) (k key : Nat) (f : FS) (d : Option Nat) (K : KF) : Arg → Prop
 | (.one e2 j, some ob) => (e2 = e ∧ ob.e = e' ∧ ob.t = t' ∧ j % 2 = 0 ∧ j ≠ k ∧ List.length ids + 1 ≤ 5864062014805) ∧ K ((((f.adopt j).del k).new key ⟨e, .id e' t', ids ++ [od f.h], true⟩).put d (.own key))
 | _ => False
def fAp (TE : TypeId → Option Ty) (key : Nat) (T : TypeId) (x : Operand) (f : FS) (d : Option Nat) (K : KF) : Arg → Prop
 | (.own k, some ⟨e, .id e' t', ids, _⟩) => (TE T = some (.sl e (.sl e' t')) ∧ t'.row = true) ∧ fApI e e' t' ids k key f d K (f.res x)
 | a => match f.res x with
  | (.one e2 j, some ob) => fApp TE key T ((f.frz j).res x) (f.frz j) d K (a.1, a.1.key.bind (f.frz j).o)
  | b => fApp TE key T b f d K a
def fCopy (TE : TypeId → Option Ty) (T : TypeId) (x : Arg) (f : FS) (d : Option Nat) (K : KF) : Arg → Prop
 | (.own k, some o) => o.mu = true ∧ TE T = some (.sl o.e o.t) ∧ rdc (.sl o.e o.t) x fun ys =>
   K ((f.set k ⟨o.e, o.t, List.take o.xs.length ys ++ o.xs.drop (List.length ys), true⟩).put d (.ro (.int .i64) ((Nat.min (List.length ys) o.xs.length : Nat) : Int)))
 | _ => False
def fMUp (TE : TypeId → Option Ty) (T : TypeId) (y v : Arg) (f : FS) (d : Option Nat) (K : KF) : Arg → Prop
 | (.own k, some ⟨e, .mp kt vt, xs, _⟩) => TE T = some (.mp kt vt) ∧ shd kt y fun a => shd vt v fun b => K ((f.set k ⟨e, .mp kt vt, mset kt a b xs, true⟩).put d .bot)
 | _ => False
def fCut (TE : TypeId → Option Ty) (key : Nat) (T : TypeId) (f : FS) (d : Option Nat) (K : KF) (k : Nat) (o : Ob) : Arg → Prop
 | (.ro (.int _) h, _) => TE T = some (.sl o.e o.t) ∧ 0 ≤ (h : Int) ∧ (h : Int) ≤ (o.xs.length : Int) ∧ K (((f.del k).new key ⟨o.e, o.t, o.xs.take (h : Int).toNat, true⟩).put d (.own key))
 | _ => False
def fSli3 (TE : TypeId → Option Ty) (key : Nat) (oo : Oper) (f : FS) (K : KF) : Arg → Prop
 | (.own k, _) => fEv TE key oo (f.frz k) K
 | _ => fEv TE key oo f K
def fSli (TE : TypeId → Option Ty) (key : Nat) (oo : Oper) (T : TypeId) (lo hi : Option Operand) (f : FS) (K : KF) : Arg → Prop
 | (.own k, some o) => match o.mu, lo, hi with
  | true, none, none => TE T = some (.sl o.e o.t) ∧ K (f.put oo.dst (.own k))
  | true, none, some h => fCut TE key T f oo.dst K k o (f.res h)
  | _, _, _ => fEv TE key oo f K
 | _ => fEv TE key oo f K
def fBlS (TE : TypeId → Option Ty) (key : Nat) (oo : Oper) (f : FS) (K : KF) : List Operand → Prop
 | [x] => match f.res x with
  | (.own _, some ⟨_, _, _, true⟩) => fEv TE key oo f K
  | _ => fEv TE key oo (f.fzo [x]) K
 | l => fEv TE key oo (f.fzo l) K
def full (TE : TypeId → Option Ty) (key : Nat) (oo : Oper) (f : FS) (K : KF) : Prop :=
 match oo.op with
 | .store T a v => fSt TE key T v f oo.dst K (f.res a)
 | .mapUpdate T m k v => fMUp TE T ((f.fzo [v]).res k) ((f.fzo [v]).res v) (f.fzo [v]) oo.dst K ((f.fzo [v]).res m)
 | .call { callee := .builtin .append, args := al, argTypes := ts } => match al.toList, ts.toList with
  | [s, x], [T, T'] => T = T' ∧ fAp TE key T x f oo.dst K (f.res s)
  | _, _ => False
 | .call { callee := .builtin .copy, args := al, argTypes := ts } => match al.toList, ts.toList with
  | [s, x], T :: _ => fCopy TE T (f.res x) f oo.dst K (f.res s)
  | _, _ => False
 | .slice T x lo hi none => fSli TE key oo T lo hi f K (f.res x)
 | .slice T x lo hi (some _) => fSli3 TE key oo f K (f.res x)
 | .build _ _ => fEv TE key oo (f.fzo oo.op.operands.toList) K
 | .makeFunc _ _ _ => fEv TE key oo (f.fzo oo.op.operands.toList) K
 | .makeInterface _ _ => fEv TE key oo (f.fzo oo.op.operands.toList) K
 | .buildSlice _ _ _ => fBlS TE key oo f K oo.op.operands.toList
 | .box _ _ => fEv TE key oo (f.fzo oo.op.operands.toList) K
 | _ => fEv TE key oo f K
section
variable {P : Program} {TE : TypeId → Option Ty} {n0 : Nat → Prop} {w0 : World} {S0 : Nat → Prop} {N : Nat} {Fk : Nat → Prop} {f : FS} {a : Act} {w w' : World} {S S' : Nat → Prop} {V V' : Nat → Value} {key : Nat} {K : KF}
theorem RelC.fz1 (h : RelC n0 w0 S0 N Fk f a w S V) (p : PV) : ∃ S', RelC n0 w0 S0 N Fk (fz1 f p) a w S' V ∧ ∀ b, S b → S' b := by
 unfold TT.fz1
 split <;> first | exact h.frz' _ | exact ⟨S, h, fun _ h => h⟩
theorem RelC.fzo' : ∀ (l : List Operand) {f : FS} {S : Nat → Prop}, RelC n0 w0 S0 N Fk f a w S V → ∃ S', RelC n0 w0 S0 N Fk (f.fzo l) a w S' V ∧ ∀ b, S b → S' b
 | [], _, S, h => ⟨S, h, fun _ h => h⟩
 | x :: l, f, S, h => by
  unfold FS.fzo
  obtain ⟨S', h', m⟩ := h.fz1 (f.op x)
  obtain ⟨S2, h2, m2⟩ := RelC.fzo' l h'
  exact ⟨S2, h2, fun b hb => m2 b (m b hb)⟩
theorem RelC.fzo : ∀ (l : List Operand) {f : FS} {S : Nat → Prop}, RelC n0 w0 S0 N Fk f a w S V → ∃ S', RelC n0 w0 S0 N Fk (f.fzo l) a w S' V
 | [], _, S, h => ⟨S, h⟩
 | x :: l, f, S, h => by
  unfold FS.fzo
  obtain ⟨S', h', _⟩ := h.fz1 (f.op x)
  exact RelC.fzo l h'
def Step (n0 : Nat → Prop) (w0 : World) (S0 : Nat → Prop) (N : Nat) (Fk : Nat → Prop) (K : KF) (a' : Act) (w' : World) : Prop := ∃ f' S' V', K f' ∧ RelC n0 w0 S0 N Fk f' a' w' S' V'
theorem news_h : ∀ (obs : List Ob) (f : FS) (key : Nat), (f.news key obs).h = f.h
 | [], f, key => rfl
 | o :: obs, f, key => by unfold FS.news; rw [news_h]; rfl
theorem fEv_ok (hTE : ∀ e t, TE e = some t → TyOk P t e) (h : RelC n0 w0 S0 N Fk f a w S V) (hk : Fk key) (o : Oper) (hd : ∀ i, o.dst = some i → i < N) (he : fEv TE key o f K) :
  ∃ v w', (execOp a.eval o).run P w = .ok (.value v) w' ∧ Step n0 w0 S0 N (lessK Fk key) K (a.put o.dst v) w' := by
 obtain ⟨v, w', h1, p, obs, v', w2, S', V', h2, h3, h4, h5, h6⟩ := ev_ok (P := P) hTE h hk o he
 injection h3 with q1 q2; subst q1 q2
 exact ⟨v, w', h1, _, _, _, h2, h4.put h5 (fun k hk => by rw [show Fr (lessK Fk key) (f.news key obs) k = Fr (lessK Fk key) f k by unfold Fr; rw [news_h]]; exact h6 k hk) o.dst hd⟩
theorem rd_ok (h : RelC n0 w0 S0 N Fk f a w S V) {x : Arg} {vx : Value} {e : TypeId} {t : Ty} {K : List t.den → Prop} (hx : ArgOk Fk f w S V x vx) (he : rdc (.sl e t) x K) :
  ∃ ys A c cs, K ys ∧ vx = .slice A ys.length c ∧ Fl (Cs w S t) ys cs ∧ (ys = [] ∨ ∃ ad, A = some ad ∧ ∀ j u, cs[j]? = some u → w.cell? (ad.add j) = some u) := by
 obtain ⟨p, o⟩ := x
 rcases p with _ | ⟨t', x'⟩ | _ | k' | ⟨k', i, fs⟩ | ⟨t', x'⟩ | ⟨k', l, j⟩ | ⟨e1, k'⟩ | ⟨_, _⟩ | _ <;> simp only [rdc] at he <;> try exact he.elim
 ·obtain ⟨y, e', k⟩ := TV.ofT_out he
  injection e' with e1 e2
  subst e1
  cases e2
  obtain ⟨A, c, cs, e3, e4, e5, e6⟩ := Vs_sl.1 hx.pv
  injection e3 with e3
  exact ⟨y, A, c, cs, k, e3, e5, e6.imp id fun ⟨ad, h1, _, h2⟩ => ⟨ad, h1, h2⟩⟩
 ·exact ⟨[], none, 0, [], he, hx.pv, rfl, .inl rfl⟩
 ·cases o with
  | none => exact he.elim
  | some o =>
   obtain ⟨hr, he⟩ := he
   obtain ⟨ho, hs⟩ := hx.sh rfl
   obtain ⟨y, e', k⟩ := TV.ofT_out he
   injection e' with e1 e2
   injection e1 with e3 e4
   subst e3 e4
   cases e2
   obtain ⟨A, c, cs, e3, e4, e5, e6⟩ := h.own_sl ho hr
   exact ⟨o.xs, A, c, cs, k, by rw [hx.pv _ _ hs]; exact e3, e5, e6⟩
 ·cases o with
  | none => exact he.elim
  | some o =>
   obtain ⟨hr, he⟩ := he
   obtain ⟨ho, hs⟩ := hx.sh rfl
   obtain ⟨y, e', k⟩ := TV.ofT_out he
   injection e' with e1 e2
   injection e1 with e3 e4
   subst e3 e4
   cases e2
   obtain ⟨A, c, cs, e3, e4, e5, e6⟩ := h.own_sl ho hr
   rw [row_ln hr] at hs
   obtain ⟨hlm, hmn, A', m', c', A2, q1, q2, q6⟩ := hx.pv _ _ hs
   rw [e3] at q1
   obtain ⟨q3, q4, q5⟩ := own_len q1
   subst q3 q4 q5
   have hlen : ((o.xs.take j).drop l).length = j - l := by rw [List.length_drop, List.length_take, Nat.min_eq_left hmn]
   refine ⟨_, A2, _, (cs.take (j * o.t.sz)).drop (l * o.t.sz), k, by rw [hlen]; exact q2, Fl_drop (fun _ _ => Cs_len) (Fl_take (fun _ _ => Cs_len) e5 j hmn) l (by rw [List.length_take, Nat.min_eq_left hmn]; exact hlm), ?_⟩
   by_cases hjl : j = l
   ·left; apply List.eq_nil_of_length_eq_zero; rw [hlen]; omega
   ·right
    rcases e6 with e6 | ⟨ad, rfl, hc⟩
    ·rw [e6] at hmn; simp at hmn; omega
    ·refine ⟨ad.add (l * o.t.sz), by rw [q6.resolve_left hjl]; rfl, fun i u hi => ?_⟩
     rw [add_add]
     rw [List.getElem?_drop, List.getElem?_take] at hi
     split at hi
     ·exact hc _ _ hi
     ·cases hi
 ·cases o with
  | none => exact he.elim
  | some o =>
   obtain ⟨y, e', k⟩ := TV.ofT_out he.2
   obtain ⟨tv, rfl, h4⟩ := tvA_ok h hx (K := fun tv => tv = ⟨.sl e1 (.sl o.e o.t), [o.xs]⟩) ⟨he.1, rfl⟩
   rw [e'] at h4
   obtain ⟨A, c, cs, e3, e4, e5, e6⟩ := Vs_sl.1 h4
   injection e3 with e3
   exact ⟨y, A, c, cs, k, e3, e5, e6.imp id fun ⟨ad, h1, _, h2⟩ => ⟨ad, h1, h2⟩⟩
theorem fSto_ok (hTE : ∀ e t, TE e = some t → TyOk P t e) (h : RelC n0 w0 S0 N Fk f a w S V) {T : TypeId} {x y : Arg} {vx vy : Value} {d : Option Nat} (hd : ∀ i, d = some i → i < N) (hx : ArgOk Fk f w S V x vx) (hy : ArgOk Fk f w S V y vy) (he : fSto TE T y f d K x) :
  ∃ w', (Instr.storeAt T vx vy).run P w = .ok () w' ∧ Step n0 w0 S0 N Fk K (a.put d undef) w' := by
 unfold fSto at he
 split at he
 ·rename_i k i fs o
  obtain ⟨hm, he⟩ := he
  split at he
  ·rename_i ft hft
   have hT := hTE _ _ hft
   obtain ⟨z, z1, z2⟩ := shd_ok h hy he
   have hz := Vs_cells z2
   obtain ⟨ho, hs⟩ := hx.sh rfl
   obtain ⟨hm, hr⟩ := hm
   rw [row_ln hr] at hs
   obtain ⟨i0, i1, ad, m, c, q, e1, e2, e3⟩ := hx.pv _ _ hs
   have hi : Int.toNat i < o.xs.length := toNat_lt' i0 i1
   have h1 := h.ob _ _ ho
   have h1' := h1
   rw [OR_own hr hm] at h1'
   obtain ⟨cs, r1, r2⟩ := h1'
   obtain ⟨r3, r4⟩ := r1
   rcases r4 with ⟨r4, r5⟩ | ⟨g, cap, cur, r4, r5, r6, r7, r8, r9, r10⟩
   ·omega
   rw [r4] at e1
   injection e1 with e1 e4 e5
   injection e1 with e1
   obtain ⟨c1, c0, c2, f1, f2, f3, f4, f5⟩ := Fl_at (fun _ _ => Cs_len) r2 _ hi
   rw [getD_of_lt _ _ _ hi] at z1
   obtain ⟨q1, x', x1, x2⟩ := Cs_st z1 f3 hz e2
   have q1 : ft = q.2 := q1
   have hoff := Ty.off_le e2
   have hl0 := Cs_len f3
   have hlv : vy.cells.toList.length = q.2.sz := by rw [← q1]; exact Cs_len hz
   have hcl : cs.length = o.xs.length * o.t.sz := r3
   have hcur : cur.size = cap * o.t.sz := r9
   have hpos : Int.toNat i * o.t.sz + o.t.sz ≤ o.xs.length * o.t.sz := by rw [← Nat.succ_mul]; exact Nat.mul_le_mul_right _ hi
   have hcap : o.xs.length * o.t.sz ≤ cap * o.t.sz := Nat.mul_le_mul_right _ r7
   have haddr : ad.add (Int.toNat i * o.t.sz + q.1) = ⟨g, Int.toNat i * o.t.sz + q.1, none⟩ := by
    rw [← e1]; unfold Addr.add; split
    ·rename_i h0; rw [h0]
    ·simp
   have hst := run_storeCells_at P g (Int.toNat i * o.t.sz + q.1) o.e vy.cells.toList 0 cur w r6 (by rw [hlv]; omega) (fun u hu => Cs_one hz u hu)
   have hrun : (Instr.storeAt T vx vy).run P w = .ok () (w.setRow g (cur.toList.take (Int.toNat i * o.t.sz + q.1) ++ vy.cells.toList ++ cur.toList.drop (Int.toNat i * o.t.sz + q.1 + q.2.sz)).toArray) := by
    rw [e3, haddr]
    have hs1 : vy.cells.size = ft.sz := by rw [← Array.length_toList, hlv, q1]
    simp only [Nat.add_zero, hlv] at hst
    simp [Instr.storeAt, Instr.sureAddr, storeVar, run_sizeOf hT, hs1, hst]
   refine ⟨_, hrun, ?_⟩
   have hgr : w.grownBy (w.setRow g (cur.toList.take (Int.toNat i * o.t.sz + q.1) ++ vy.cells.toList ++ cur.toList.drop (Int.toNat i * o.t.sz + q.1 + q.2.sz)).toArray) (blk (V k)) :=
    ⟨rfl, rfl, rfl, by simp, fun j _ hj => setRow_other w g j _ (fun e => hj (by rw [r4, e]; rfl))⟩
   have ha := h.ag_row ho hm hgr
   have hrel := h.wr (o' := ⟨o.e, o.t, o.xs.set (Int.toNat i) x', true⟩) ho hm rfl (by rw [row_ln hr, row_ln (o := ⟨o.e, o.t, _, true⟩) hr]; simp) rfl hgr (OR_new (cs := c1 ++ (c0.take q.1 ++ (vy.cells.toList ++ c0.drop (q.1 + q.2.sz)) ++ c2)) hr rfl ?_ ?_) (nids hr)
   ·exact ⟨_, S, V, x1, hrel.put (p := .bot) trivial (fun k hk => by cases hk) d hd⟩
   ·rw [r4]
    refine ⟨?_, .inr ⟨g, cap, _, by simp, r5, setRow_heap w g cur _ o.e _ r6, by simpa using r7, r8, ?_, ?_⟩⟩
    ·have : cs.length = c1.length + (c0.length + c2.length) := by rw [f1]; simp
     simp only [List.length_append, List.length_take, List.length_drop, List.length_set, hlv]
     omega
    ·simp only [List.size_toArray, List.length_append, List.length_take, List.length_drop, Array.length_toList, hlv]
     omega
    ·simp only [List.length_set]
     have hcur2 : cur.toList = cs ++ cur.toList.drop (o.xs.length * o.t.sz) := by rw [← r10, List.take_append_drop]
     have hc1 : c1.length = Int.toNat i * o.t.sz := f2
     rw [hcur2, f1]
     generalize cur.toList.drop (o.xs.length * o.t.sz) = rest
     have e6 : (c1 ++ (c0 ++ c2) ++ rest).take (Int.toNat i * o.t.sz + q.1) = c1 ++ c0.take q.1 := by
      rw [List.append_assoc, ← hc1, take_app, List.append_assoc, List.take_append, show q.1 - c0.length = 0 by omega]; simp
     have e7 : (c1 ++ (c0 ++ c2) ++ rest).drop (Int.toNat i * o.t.sz + q.1 + q.2.sz) = c0.drop (q.1 + q.2.sz) ++ (c2 ++ rest) := by
      rw [List.append_assoc, ← hc1, Nat.add_assoc, drop_app, List.append_assoc, List.drop_append, show q.1 + q.2.sz - c0.length = 0 by omega]; simp
     rw [e6, e7]
     have e8 : (c1 ++ (c0.take q.1 ++ (vy.cells.toList ++ c0.drop (q.1 + q.2.sz)) ++ c2)).length = o.xs.length * o.t.sz := by
      have : cs.length = c1.length + (c0.length + c2.length) := by rw [f1]; simp
      simp only [List.length_append, List.length_take, List.length_drop, hlv]
      omega
     rw [← e8]
     have e9 : c1 ++ c0.take q.1 ++ vy.cells.toList ++ (c0.drop (q.1 + q.2.sz) ++ (c2 ++ rest)) = (c1 ++ (c0.take q.1 ++ (vy.cells.toList ++ c0.drop (q.1 + q.2.sz)) ++ c2)) ++ rest := by simp
     show List.take _ (c1 ++ c0.take q.1 ++ vy.cells.toList ++ (c0.drop (q.1 + q.2.sz) ++ (c2 ++ rest))) = _
     rw [e9, List.take_left]
   ·rw [List.set_eq_take_append_cons_drop, if_pos hi]
    refine Fl_append (Fl_Cs_mono (fun _ h => h) ha f4) ⟨_, _, rfl, Cs_mono (fun _ h => h) ha x2, Fl_Cs_mono (fun _ h => h) ha f5⟩
  ·exact he.elim
 ·exact he.elim
theorem run_append_zero {T ty e : TypeId} {t : Ty} {n : Nat} {A : Option Addr} {c : Nat} {v : Value} {cs : List Value} (hu : P.underlying T = some (.slice e)) (hT : TyOk P t e) (hz : 0 < t.sz) (ho : w.ownsRow 0 e t.sz v n cs) :
  (Builtin.append_ #[T, T] ty #[v, .slice A 0 c]).run P w = .ok v w := by
 obtain ⟨A', c', rfl, hc, _⟩ := own_row ho
 have hf : ∀ z, (Builtin.firstCells z 0 (.slice A 0 c)).run P w = .ok #[] w := fun z => by
  cases A with
  | none => simp [Builtin.firstCells]
  | some ad => simp [Builtin.firstCells, loadCells, loadCellsFrom]
 cases A' with
 | none => simp [Builtin.append_, run_underlying hu, run_sizeOf hT, Builtin.lenOf, hc, hf]
 | some ad => simp [Builtin.append_, run_underlying hu, run_sizeOf hT, Builtin.lenOf, hc, hf, storeCells]
theorem append_ok {T ty e : TypeId} {t : Ty} {A : Option Addr} {c : Nat} {v : Value} {cs ds : List Value} {xs ys : List t.den} (hu : P.underlying T = some (.slice e)) (hT : TyOk P t e) (hz : 0 < t.sz) 
  (ho : w.ownsRow 0 e t.sz v xs.length cs) (hl : ∀ x c, Cs w S t x c → c.length = t.sz) (hd : Fl (Cs w S t) ys ds) (hA : ys = [] ∨ ∃ ad, A = some ad ∧ ∀ j u, ds[j]? = some u → w.cell? (ad.add j) = some u)
  (hb : xs.length + ys.length ≤ 140737488355328 / t.by) :
  ∃ v' w', (Builtin.append_ #[T, T] ty #[v, .slice A ys.length c]).run P w = .ok v' w' ∧ w'.ownsRow 0 e t.sz v' (xs.length + ys.length) (cs ++ ds) ∧ w.grownBy w' v.ownBlock ∧ (v'.ownBlock = v.ownBlock ∨ v'.ownBlock = some w.heap.size) := by
 rcases hA with rfl | ⟨ad, rfl, hc⟩
 ·refine ⟨v, w, run_append_zero hu hT hz ho, ?_, ⟨rfl, rfl, rfl, Nat.le_refl _, fun _ _ _ => rfl⟩, .inl rfl⟩
  rw [show ds = [] from hd]
  simpa using ho
 ·obtain ⟨i, z, i1, i2, i3, i4, i5⟩ := hT.info.ex
  have hzs : z.cells.size = t.sz := by rw [← Array.length_toList, i3, zc_len]
  have hby : (xs.length + ys.length) * i.bytes ≤ 140737488355328 := Nat.le_trans (Nat.mul_le_mul hb i5) (Nat.div_mul_le_self _ _)
  have hm : xs.length + ys.length ≤ maxLen := by
   have := Nat.div_le_self 140737488355328 t.by
   simp only [maxLen]; omega
  obtain ⟨v', w', r1, r2, r3, _, r4⟩ := run_append_own_at (P := P) w 0 T ty e i z t.sz i.bytes hu i1 i2 i4 rfl hzs hz v xs.length cs ho ad ys.length c ds (Fl_len hl hd) hc (Fl_all (fun _ _ => Cs_one) hd) hm hby (Nat.zero_le _)
  exact ⟨v', w', r1, r2, r3, r4⟩
theorem own_val {d : Option Nat} {o : Ob} {v' : Value} {f' : FS} {Fk' : Nat → Prop} (h : RelC n0 w0 S0 N (fun j => Fk' j ∧ j ≠ key) (f'.new key o) a w' S (upd V key v')) (hke : key % 2 = 0) (hd : ∀ i, d = some i → i < N) (hK : K ((f'.new key o).put d (.own key))) :
  Step n0 w0 S0 N (lessK Fk' key) K (a.put d v') w' := by
 refine ⟨_, S, _, hK, (h.put (p := .own key) (v := v') ?_ ?_ d hd).keys (fun j hj => ⟨hj.1, fun e => hj.2 (by omega)⟩)⟩
 ·intro n' t' e'; rw [upd_self]
 ·intro k hk; simp [PV.keys] at hk; rw [hk]
  rintro (q | ⟨i, q1, q2⟩)
  ·exact q.2 rfl
  ·have := hke; rw [q2] at this; unfold od at this; omega
theorem fApp_ok (hTE : ∀ e t, TE e = some t → TyOk P t e) (h : RelC n0 w0 S0 N Fk f a w S V) (hk : Fk key) {T ty : TypeId} {x y : Arg} {vx vy : Value} {d : Option Nat} (hd : ∀ i, d = some i → i < N) (hx : ArgOk Fk f w S V x vx) (hy : ArgOk Fk f w S V y vy) (he : fApp TE key T y f d K x) :
  ∃ v' w', (Builtin.append_ #[T, T] ty #[vx, vy]).run P w = .ok v' w' ∧ Step n0 w0 S0 N (lessK Fk key) K (a.put d v') w' := by
 unfold fApp at he
 split at he
 ·split at he
  ·rename_i e t hte
   have hT := hTE _ _ hte
   unfold TyOk at hT
   obtain ⟨hu, _, hT, hz, hr⟩ := hT
   obtain ⟨ys, A, c, ds, ⟨k1, k2⟩, rfl, k3, k4⟩ := rd_ok h hy he
   rw [show vx = .slice none 0 0 from hx.pv]
   obtain ⟨v', w', r1, r2, r3, r4⟩ := append_ok (P := P) (ty := ty) (c := c) (xs := []) hu hT hz (World.ownsRow_nil w 0 e t.sz) (fun _ _ => Cs_len) k3 k4 (by simpa using k1)
   have hbv : blk v' = v'.ownBlock := by obtain ⟨A', c', q, _⟩ := own_row r2; rw [q]; rfl
   refine ⟨v', w', r1, own_val (o := ⟨e, t, ys, true⟩) ((h.grow (below_grown r3)).new hk (OR_new (cs := ds) hr rfl (by simpa using r2) (Fl_Cs_mono (fun _ h => h) (fun b hb => (below_grown r3).block b (h.lt b hb)) k3)) (nids hr) ?_) (h.fe _ hk) hd k2⟩
   intro _ b hb
   rw [hbv] at hb
   rcases r4 with r4 | r4
   ·rw [r4] at hb; cases hb
   ·rw [r4] at hb; injection hb with hb; subst hb
    exact ⟨h.size _ (Nat.le_refl _), fun hs => Nat.lt_irrefl _ (h.lt _ hs), fun k' o' e hm q => Nat.lt_irrefl _ (h.ow k' o' e hm _ q).2⟩
  ·exact he.elim
 ·rename_i k o
  obtain ⟨hm, hte, he⟩ := he
  have hT := hTE _ _ hte
  unfold TyOk at hT
  obtain ⟨hu, _, hT, hz, hr⟩ := hT
  obtain ⟨ho, hs⟩ := hx.sh rfl
  have h1 := h.ob _ _ ho
  rw [OR_own hr hm] at h1
  obtain ⟨cs, h2, h3⟩ := h1
  obtain ⟨ys, A, c, ds, ⟨k1, k2⟩, rfl, k3, k4⟩ := rd_ok h hy he
  obtain ⟨v', w', r1, r2, r3, r4⟩ := append_ok (P := P) (ty := ty) (c := c) hu hT hz h2 (fun _ _ => Cs_len) k3 k4 k1
  rw [hx.pv _ _ hs]
  have hb1 : blk (V k) = (V k).ownBlock := by obtain ⟨A', c', q, _⟩ := own_row h2; rw [q]; rfl
  have hb2 : blk v' = v'.ownBlock := by obtain ⟨A', c', q, _⟩ := own_row r2; rw [q]; rfl
  rw [← hb1] at r3 r4
  rw [← hb2] at r4
  have ha := h.ag_row ho hm r3
  exact ⟨v', w', r1, own_val (o := ⟨o.e, o.t, o.xs ++ ys, true⟩) (h.app ho hm rfl hk r3 (OR_new (cs := cs ++ ds) hr rfl (by rw [List.length_append]; exact r2) (Fl_append (Fl_Cs_mono (fun _ h => h) ha h3) (Fl_Cs_mono (fun _ h => h) ha k3))) (nids hr) r4) (h.fe _ hk) hd k2⟩
 ·exact he.elim
theorem fCut_ok (hTE : ∀ e t, TE e = some t → TyOk P t e) (h : RelC n0 w0 S0 N Fk f a w S V) (hk : Fk key) {T : TypeId} {k : Nat} {o : Ob} {y : Arg} {vx vy : Value} {d : Option Nat} (hd : ∀ i, d = some i → i < N) (hx : ArgOk Fk f w S V (.own k, some o) vx) (hm : o.mu = true) (hy : ArgOk Fk f w S V y vy)
  (he : fCut TE key T f d K k o y) : ∃ v' w', (Instr.sliceAt T vx none (some vy) none).run P w = .ok v' w' ∧ Step n0 w0 S0 N (lessK Fk key) K (a.put d v') w' := by
 unfold fCut at he
 split at he
 ·rename_i kk i o'
  obtain ⟨hte, h0, h1, hK⟩ := he
  have hT := hTE _ _ hte
  unfold TyOk at hT
  obtain ⟨hu, _, hT, hz, hr⟩ := hT
  obtain ⟨ho, hs⟩ := hx.sh rfl
  obtain ⟨m, rfl⟩ := Int.eq_ofNat_of_zero_le h0
  have h1 : m ≤ o.xs.length := Int.ofNat_le.1 h1
  have h2 := h.ob _ _ ho
  rw [OR_own hr hm] at h2
  obtain ⟨cs, h3, h4⟩ := h2
  rw [hy.int, hx.pv _ _ hs]
  obtain ⟨A, c, e1, e2, e3⟩ := own_row h3
  rw [e1, run_sliceAt hu hT 0 m .i64 kk none _ (.inl ⟨rfl, rfl⟩) (.inr rfl) (Nat.zero_le _) (Nat.le_trans h1 e2)]
  have e4 : (if c = 0 then A else A.map (·.add (0 * o.t.sz))) = A := by
   split
   ·rfl
   ·cases A <;> simp [Addr.add]
  rw [e4, Nat.sub_zero, Nat.sub_zero]
  have hbl : blk (Value.slice A m c) = blk (V k) := by rw [e1]; cases A <;> rfl
  have hrow : w.ownsRow 0 o.e o.t.sz (.slice A m c) m (cs.take (m * o.t.sz)) := by
   have hcm : m * o.t.sz ≤ o.xs.length * o.t.sz := Nat.mul_le_mul_right _ h1
   refine ⟨by rw [List.length_take, h3.1]; omega, ?_⟩
   rcases h3.2 with ⟨q1, q2⟩ | ⟨g, cap, cur, q1, q2, q3, q4, q5, q6, q7⟩
   ·rw [e1] at q1; injection q1 with q1 q3 q4
    have : m = 0 := by omega
    exact .inl ⟨by rw [q1, q4, this], this⟩
   ·rw [e1] at q1; injection q1 with q1 q8 q9
    refine .inr ⟨g, c, cur, by rw [q1], q2, q3, by omega, by omega, by rw [q9]; exact q6, ?_⟩
    rw [← q7, List.take_take, Nat.min_eq_left hcm]
  refine ⟨_, w, rfl, own_val (o := ⟨o.e, o.t, o.xs.take m, true⟩) (h.app ho hm rfl hk ⟨rfl, rfl, rfl, Nat.le_refl _, fun _ _ _ => rfl⟩ (OR_new (cs := cs.take (m * o.t.sz)) hr rfl ?_ (Fl_take (fun _ _ => Cs_len) h4 m h1)) (nids hr) (.inl hbl)) (h.fe _ hk) hd hK⟩
  rw [List.length_take, Nat.min_eq_left h1]; exact hrow
 ·exact he.elim
theorem fCopy_ok (hTE : ∀ e t, TE e = some t → TyOk P t e) (h : RelC n0 w0 S0 N Fk f a w S V) {T ty : TypeId} {ts : Array TypeId} (hts : ts[0]? = some T) {x y : Arg} {vx vy : Value} {d : Option Nat} (hd : ∀ i, d = some i → i < N) (hx : ArgOk Fk f w S V x vx) (hy : ArgOk Fk f w S V y vy) (he : fCopy TE T y f d K x) :
  ∃ v' w', (Builtin.copy_ ts ty #[vx, vy]).run P w = .ok v' w' ∧ Step n0 w0 S0 N Fk K (a.put d v') w' := by
 unfold fCopy at he
 split at he
 ·rename_i k o
  obtain ⟨hm, hte, he⟩ := he
  have hT := hTE _ _ hte
  unfold TyOk at hT
  obtain ⟨hu, _, hT, hz, hrw⟩ := hT
  obtain ⟨ho, hs⟩ := hx.sh rfl
  have h1 := h.ob _ _ ho
  rw [OR_own hrw hm] at h1
  obtain ⟨cs, h2, h3⟩ := h1
  obtain ⟨ys, A, c, ds, hK, rfl, k3, k4⟩ := rd_ok h hy he
  rw [hx.pv _ _ hs]
  have hdl := Fl_len (fun _ _ => Cs_len) k3
  have hmn : Nat.min ys.length o.xs.length ≤ ys.length := Nat.min_le_left _ _
  have hmo : Nat.min ys.length o.xs.length ≤ o.xs.length := Nat.min_le_right _ _
  generalize hq : Nat.min ys.length o.xs.length = q at *
  have hk3 := Fl_take (fun _ _ => Cs_len) k3 q hmn
  have hkl : (ds.take (q * o.t.sz)).length = q * o.t.sz := by rw [List.length_take, hdl]; exact Nat.min_eq_left (Nat.mul_le_mul_right _ hmn)
  have hf : (Builtin.firstCells o.t.sz q (.slice A ys.length c)).run P w = .ok (ds.take (q * o.t.sz)).toArray w := by
   rcases k4 with rfl | ⟨ad, rfl, hc⟩
   ·have : q = 0 := by simpa using hmn
    subst this
    cases A <;> simp [Builtin.firstCells, loadCells, loadCellsFrom]
   ·exact run_firstCells_some (P := P) w o.t.sz q ad ys.length c _ hkl (fun j u hj => hc j u (by
     rw [List.getElem?_take] at hj
     split at hj
     ·exact hj
     ·cases hj))
  have hys : List.take o.xs.length ys = ys.take q := by
   rw [← hq]
   rcases Nat.le_total ys.length o.xs.length with h | h
   ·rw [List.take_of_length_le h, show Nat.min ys.length o.xs.length = ys.length from Nat.min_eq_left h, List.take_of_length_le (Nat.le_refl _)]
   ·rw [show Nat.min ys.length o.xs.length = o.xs.length from Nat.min_eq_right h]
  have hxs : o.xs.drop ys.length = o.xs.drop q := by
   rw [← hq]
   rcases Nat.le_total ys.length o.xs.length with h | h
   ·rw [show Nat.min ys.length o.xs.length = ys.length from Nat.min_eq_left h]
   ·rw [show Nat.min ys.length o.xs.length = o.xs.length from Nat.min_eq_right h, List.drop_of_length_le h, List.drop_of_length_le (Nat.le_refl _)]
  rw [hys, hxs] at hK
  have hfin : Fl (Cs w S o.t) (ys.take q ++ o.xs.drop q) (ds.take (q * o.t.sz) ++ cs.drop (q * o.t.sz)) := Fl_append hk3 (Fl_drop (fun _ _ => Cs_len) h3 q hmo)
  have hone : ∀ u ∈ ds.take (q * o.t.sz), u.oneCell' = true := Fl_all (fun _ _ => Cs_one) hk3
  rcases h2.2 with ⟨q1, q2⟩ | ⟨g, cap, cur, q1, q2, q3, q4, q5, q6, q7⟩
  ·have hq0 : q = 0 := by omega
   subst hq0
   have hr : (Builtin.copy_ ts ty #[V k, .slice A ys.length c]).run P w = .ok (goInt 0) w := by
    rw [q1]
    have : Nat.min ys.length 0 = 0 := Nat.min_zero _
    simp only [Nat.zero_mul, List.take_zero] at hf
    simp [Builtin.copy_, hts, run_underlying hu, run_sizeOf hT, Builtin.lenOf, this, hf]
   refine ⟨_, w, hr, _, S, V, hK, (h.wr (o' := ⟨o.e, o.t, ys.take 0 ++ o.xs.drop 0, true⟩) ho hm rfl (by rw [row_ln hrw, row_ln (o := ⟨o.e, o.t, _, true⟩) hrw]; simp) rfl ⟨rfl, rfl, rfl, Nat.le_refl _, fun _ _ _ => rfl⟩ ?_ (nids hrw)).put (p := .ro (.int .i64) ((0 : Nat) : Int)) (Vs_int.2 rfl) (fun k hk => by cases hk) d hd⟩
   have := h.ob _ _ ho
   rw [OR_own hrw hm] at this
   rw [OR_own (o := ⟨o.e, o.t, _, true⟩) hrw rfl]
   simpa using this
  ·have hn' : (V k) = .slice (some ⟨g, 0, none⟩) o.xs.length cap := q1
   have hcl : cs.length = o.xs.length * o.t.sz := h2.1
   have hqz : q * o.t.sz ≤ o.xs.length * o.t.sz := Nat.mul_le_mul_right _ hmo
   have hcap : o.xs.length * o.t.sz ≤ cap * o.t.sz := Nat.mul_le_mul_right _ q4
   have hst := run_storeCells_at P g 0 o.e (ds.take (q * o.t.sz)) 0 cur w q3 (by rw [hkl, q6]; omega) hone
   simp only [Nat.add_zero, Nat.zero_add, List.take_zero, List.nil_append, hkl] at hst
   have hr : (Builtin.copy_ ts ty #[V k, .slice A ys.length c]).run P w = .ok (goInt (q : Int)) (w.setRow g (ds.take (q * o.t.sz) ++ cur.toList.drop (q * o.t.sz)).toArray) := by
    rw [hn']
    simp [Builtin.copy_, hts, run_underlying hu, run_sizeOf hT, Builtin.lenOf, hq, hf, hst]
   have hgr : w.grownBy (w.setRow g (ds.take (q * o.t.sz) ++ cur.toList.drop (q * o.t.sz)).toArray) (blk (V k)) := ⟨rfl, rfl, rfl, by simp, fun j _ hj => setRow_other w g j _ (fun e => hj (by rw [hn', e]; rfl))⟩
   have ha := h.ag_row ho hm hgr
   refine ⟨_, _, hr, _, S, V, hK, (h.wr (o' := ⟨o.e, o.t, ys.take q ++ o.xs.drop q, true⟩) ho hm rfl (by rw [row_ln hrw, row_ln (o := ⟨o.e, o.t, _, true⟩) hrw]; simp; omega) rfl hgr (OR_new (cs := ds.take (q * o.t.sz) ++ cs.drop (q * o.t.sz)) hrw rfl ?_ (Fl_Cs_mono (fun _ h => h) ha hfin)) (nids hrw)).put (p := .ro (.int .i64) (q : Int)) (Vs_int.2 rfl) (fun k hk => by cases hk) d hd⟩
   have hlen : (ys.take q ++ o.xs.drop q).length = o.xs.length := by simp; omega
   simp only [hlen]
   refine ⟨by rw [List.length_append, hkl, List.length_drop]; omega, .inr ⟨g, cap, _, hn', q2, setRow_heap w g cur _ o.e _ q3, q4, q5, ?_, ?_⟩⟩
   ·simp only [List.size_toArray, List.length_append, hkl, List.length_drop, Array.length_toList]; omega
   ·have hcur2 : cur.toList = cs ++ cur.toList.drop (o.xs.length * o.t.sz) := by rw [← q7, List.take_append_drop]
    rw [hcur2]
    generalize cur.toList.drop (o.xs.length * o.t.sz) = rest
    show List.take (o.xs.length * o.t.sz) (ds.take (q * o.t.sz) ++ (cs ++ rest).drop (q * o.t.sz)) = _
    rw [List.drop_append, show q * o.t.sz - cs.length = 0 by omega, List.drop_zero, ← List.append_assoc]
    have : (ds.take (q * o.t.sz) ++ cs.drop (q * o.t.sz)).length = o.xs.length * o.t.sz := by rw [List.length_append, hkl, List.length_drop]; omega
    rw [← this, List.take_left]
 ·exact he.elim
theorem row_store1 {T e : TypeId} {t : Ty} {v u : Value} {n i m c : Nat} {ad : Addr} {cs : List Value} (hT : TyOk P t T) (ht : t.sz = 1) (h2 : w.ownsRow 0 e 1 v n cs) (hi : i < n) (hu : u.cells = #[u]) (hone : u.oneCell' = true) (hv : v = .slice (some ad) m c) :
  ∃ w', (Instr.storeAt T (.pointer (some (ad.add i))) u).run P w = .ok () w' ∧ w.grownBy w' (blk v) ∧ w'.ownsRow 0 e 1 v n (cs.set i u) := by
 obtain ⟨r3, r4⟩ := h2
 rcases r4 with ⟨r4, r5⟩ | ⟨g, cap, cur, r4, r5, r6, r7, r8, r9, r10⟩
 ·omega
 rw [hv] at r4
 injection r4 with q1 q2 q3
 injection q1 with q1
 have haddr : ad.add i = ⟨g, i, none⟩ := by
  rw [q1]; unfold Addr.add; split
  ·rename_i h0; rw [h0]
  ·simp
 have hst := run_storeCells_at P g i e [u] 0 cur w r6 (by simp; omega) (fun x hx => by rw [List.mem_singleton.1 hx]; exact hone)
 refine ⟨w.setRow g (cur.toList.take i ++ [u] ++ cur.toList.drop (i + 1)).toArray, ?_, ⟨rfl, rfl, rfl, by simp, fun j _ hj => setRow_other w g j _ (fun e => hj (by rw [hv, q1, e]; rfl))⟩, ?_⟩
 ·rw [haddr]
  simp only [Nat.add_zero, List.length_singleton] at hst
  simp [Instr.storeAt, Instr.sureAddr, storeVar, run_sizeOf hT, hu, ht, hst]
 ·refine ⟨by simpa using r3, .inr ⟨g, cap, _, by rw [hv, q1, q2, q3], Nat.zero_le _, setRow_heap w g cur _ e _ r6, r7, r8, ?_, ?_⟩⟩
  ·simp; omega
  ·have hcl : cs.length = n * 1 := r3
   have hcur2 : cur.toList = cs ++ cur.toList.drop (n * 1) := by rw [← r10, List.take_append_drop]
   have hset : cur.toList.take i ++ [u] ++ cur.toList.drop (i + 1) = cur.toList.set i u := by
    rw [List.set_eq_take_append_cons_drop, if_pos (by simp; omega)]; simp
   simp only [hset]
   rw [hcur2, List.set_append_left _ _ (by omega)]
   show List.take (n * 1) (cs.set i u ++ _) = _
   rw [List.take_append_of_le_length (by simp; omega), List.take_of_length_le (by simp; omega)]
theorem op_g {f f' : FS} (h : f'.g = f.g) (x : Operand) : f'.op x = f.op x := by cases x <;> simp [FS.op, h]
theorem frz_g (f : FS) (j : Nat) : (f.frz j).g = f.g := by unfold FS.frz; split <;> rfl
theorem fz1_g (f : FS) (p : PV) : (fz1 f p).g = f.g := by unfold TT.fz1; split <;> first | exact frz_g _ _ | rfl
theorem fzo_g : ∀ (l : List Operand) (f : FS), (f.fzo l).g = f.g
 | [], f => rfl
 | x :: l, f => by unfold FS.fzo; rw [fzo_g l, fz1_g]
theorem stI_core (h : RelC n0 w0 S0 N Fk f a w S V) {k : Nat} {e e' : TypeId} {t' : Ty} {ids : List Nat} {m : Bool} (ho : f.o k = some ⟨e, .id e' t', ids, m⟩) {i : Int} (i0 : 0 ≤ i) (i1 : i < (List.length ids : Int)) {j0 : Nat} (hj : j0 < f.h) {A : Option Addr} {n2 c2 : Nat} (hv : V (od j0) = .slice A n2 c2)
  {ad : Addr} {m' c' : Nat} (e1 : V k = .slice (some ad) m' c') {T : TypeId} (hT : TyOk P (.sl e' t') T) :
  ∃ w', (Instr.storeAt T (.pointer (some (ad.add i.toNat))) (V (od j0))).run P w = .ok () w' ∧ RelC n0 w0 S0 N Fk (f.set k ⟨e, .id e' t', List.set ids i.toNat (od j0), true⟩) a w' S V := by
 have h5 := (OR_x rfl (h.ob _ _ ho)).2
 have h5 : w.ownsRow 0 e 1 (V k) (List.length ids) (List.map V ids) := h5
 have hm : m = true := (OR_x rfl (h.ob _ _ ho)).1
 obtain ⟨w', r1, r2, r3⟩ := row_store1 (P := P) (i := i.toNat) (u := V (od j0)) hT rfl h5 (toNat_lt' i0 i1) (by rw [hv]; rfl) (by rw [hv]; rfl) e1
 refine ⟨w', r1, h.wr (o' := ⟨e, .id e' t', List.set ids i.toNat (od j0), true⟩) ho hm rfl (by show List.length _ = List.length _; simp) rfl r2 ?_ fun x hx => ?_⟩
 ·rw [OR_id, List.length_set, List.map_set]; exact r3
 ·rcases List.mem_or_eq_of_mem_set (show x ∈ List.set ids i.toNat (od j0) from hx) with hx | hx
  ·exact h.fi _ _ ho x hx
  ·exact ⟨j0, hj, hx⟩
theorem own_isSl (h : RelC n0 w0 S0 N Fk f a w S V) {j : Nat} {ob : Ob} (e : f.o j = some ob) (hr : ob.t.row = true) : ∃ A n c, V j = .slice A n c := by
 obtain ⟨A, c, cs, e1, _⟩ := h.own_sl e hr; exact ⟨A, _, c, e1⟩
theorem odd_od {j : Nat} (h : j % 2 = 1) : j = od (j / 2) := by unfold od; omega
theorem adopt_eq {j : Nat} {ob : Ob} (e : f.o j = some ob) : f.adopt j = ⟨f.g, upd (upd f.o j none) (od f.h) (some ob), f.h + 1⟩ := by unfold FS.adopt; rw [e]
theorem adopt_o (h : RelC n0 w0 S0 N Fk f a w S V) {j k : Nat} {ob ob' : Ob} (e : f.o j = some ob) (e' : f.o k = some ob') (hne : j ≠ k) : (f.adopt j).o k = some ob' := by
 rw [adopt_eq e]
 show upd (upd f.o j none) (od f.h) (some ob) k = some ob'
 unfold upd
 rw [if_neg (fun q => by rw [q, h.fr _ (.inr ⟨f.h, Nat.le_refl _, rfl⟩)] at e'; cases e'), if_neg (Ne.symm hne)]
 exact e'
theorem adopt_V (h : RelC n0 w0 S0 N Fk f a w S V) {j k : Nat} {ob' : Ob} (e' : f.o k = some ob') : upd V (od f.h) (V j) k = V k := by
 unfold upd
 rw [if_neg (fun q => by rw [q, h.fr _ (.inr ⟨f.h, Nat.le_refl _, rfl⟩)] at e'; cases e')]
theorem fStI_ok (h : RelC n0 w0 S0 N Fk f a w S V) (hk : Fk key) {T : TypeId} {k : Nat} {i : Int} {e e' : TypeId} {t' : Ty} {ids : List Nat} {m : Bool} {y : Arg} {vx vy : Value} {d : Option Nat} (hd : ∀ i, d = some i → i < N) (hx : ArgOk Fk f w S V (.ptr k i [], some ⟨e, .id e' t', ids, m⟩) vx) (hy : ArgOk Fk f w S V y vy)
  (hT : TyOk P (.sl e' t') T) (hrow : t'.row = true) (he : fStI e e' t' ids k i key f d K y) : ∃ w', (Instr.storeAt T vx vy).run P w = .ok () w' ∧ Step n0 w0 S0 N (lessK Fk key) K (a.put d undef) w' := by
 obtain ⟨ho, hs⟩ := hx.sh rfl
 obtain ⟨i0, i1, ad, m', c', q, e1, e2, e3⟩ := hx.pv _ _ hs
 have i1 : i < (List.length ids : Int) := i1
 have e2 : some (0, Ty.id e' t') = some q := by simpa [Ty.off] using e2
 injection e2 with e2; subst e2
 have hsz : Int.toNat i * Ty.sz (.id e' t') + 0 = Int.toNat i := by show Int.toNat i * 1 + 0 = _; omega
 have e3 : vx = .pointer (some (ad.add i.toNat)) := by rw [e3]; show Value.pointer (some (ad.add (Int.toNat i * Ty.sz (.id e' t') + 0))) = _; rw [hsz]
 have fin : ∀ {f' : FS} {S' : Nat → Prop} {V' : Nat → Value} {w' : World} {Fk' : Nat → Prop}, RelC n0 w0 S0 N Fk' f' a w' S' V' → (∀ j, lessK Fk key j → Fk' j) → K (f'.put d .bot) → Step n0 w0 S0 N (lessK Fk key) K (a.put d undef) w' := fun {f' S' V' w' Fk'} hr hsub hK =>
  ⟨_, S', V', hK, (hr.put (p := .bot) trivial (fun k hk => by cases hk) d hd).keys hsub⟩
 -- a new object, adopted at once
 have viaNew : ∀ (ob : Ob), ob.t.row = true → OR w S V ob vy → ob.mu = false ∨ blk vy = none → (∃ A n c, vy = .slice A n c) → K ((((f.new key ob).adopt key).set k ⟨e, .id e' t', List.set ids i.toNat (od f.h), true⟩).put d .bot) →
   ∃ w', (Instr.storeAt T vx vy).run P w = .ok () w' ∧ Step n0 w0 S0 N (lessK Fk key) K (a.put d undef) w' := by
  intro ob hr hob hbl ⟨A, n, c, hsl⟩ hK
  have h1 := h.new (v := vy) hk hob (nids hr) (fun hm b hb => by
   rcases hbl with q | q
   ·rw [q] at hm; cases hm
   ·rw [q] at hb; cases hb)
  have hok : (f.new key ob).o key = some ob := by simp [FS.new, upd]
  have hkk : k ≠ key := fun q => by rw [q, h.fr key (.inl hk)] at ho; cases ho
  have hok2 : (f.new key ob).o k = some ⟨e, .id e' t', ids, m⟩ := by simp [FS.new, upd, hkk]; exact ho
  have h2 := h1.adopt hok
  have hV2 : upd (upd V key vy) (od (f.new key ob).h) (upd V key vy key) (od (f.new key ob).h) = vy := by simp [upd]
  have hVk : upd (upd V key vy) (od (f.new key ob).h) (upd V key vy key) k = V k := by
   rw [adopt_V h1 hok2]; simp [upd, hkk]
  have hk2 := adopt_o h1 hok hok2 (Ne.symm hkk)
  rw [adopt_eq hok] at hk2 hK
  obtain ⟨w', r1, r2⟩ := stI_core (P := P) (T := T) h2 hk2 i0 i1 (j0 := (f.new key ob).h) (Nat.lt_succ_self _) (by rw [hV2]; exact hsl) (by rw [hVk]; exact e1) hT
  rw [hV2] at r1
  refine ⟨w', by rw [e3]; exact r1, fin r2 (fun j hj => ⟨hj.1, fun q => hj.2 (by omega)⟩) hK⟩
 unfold fStI at he
 split at he
 ·rename_i j ob
  obtain ⟨⟨he1, he2, hne⟩, he⟩ := he
  obtain ⟨hoj, hsj⟩ := hy.sh rfl
  have hvy : vy = V j := hy.pv _ _ hsj
  obtain ⟨A, n, c, hsl⟩ := own_isSl h hoj (by rw [he2]; exact hrow)
  split at he
  ·rename_i hodd
   have hj0 : j / 2 < f.h := by
    rcases Nat.lt_or_ge (j / 2) f.h with q | q
    ·exact q
    ·exact absurd (.inr ⟨j / 2, q, odd_od hodd⟩) (hy.ks j (List.mem_cons_self ..))
   have hsl' : V (od (j / 2)) = .slice A n c := by rw [← odd_od hodd]; exact hsl
   obtain ⟨w', r1, r2⟩ := stI_core (P := P) (T := T) h ho i0 i1 hj0 hsl' e1 hT
   rw [← odd_od hodd] at r1 r2
   exact ⟨w', by rw [e3, hvy]; exact r1, fin r2 (fun j hj => hj.1) he⟩
  ·have h2 := h.adopt hoj
   have hk2 := adopt_o h hoj ho hne
   rw [adopt_eq hoj] at hk2 he
   have hV2 : upd V (od f.h) (V j) (od f.h) = V j := by simp [upd]
   obtain ⟨w', r1, r2⟩ := stI_core (P := P) (T := T) h2 hk2 i0 i1 (j0 := f.h) (Nat.lt_succ_self _) (by rw [hV2]; exact hsl) (by rw [adopt_V h ho]; exact e1) hT
   rw [hV2] at r1
   exact ⟨w', by rw [e3, hvy]; exact r1, fin r2 (fun j hj => hj.1) he⟩
 ·have hvy : vy = .slice none 0 0 := hy.pv
  exact viaNew ⟨e', t', [], true⟩ hrow (by rw [hvy]; exact OR_nil hrow) (.inr (by rw [hvy]; rfl)) ⟨_, _, _, hvy⟩ he
 ·rename_i e5 t5 ys o5
  obtain ⟨⟨q5, q6⟩, he⟩ := he
  have hc := Vs_sl.1 hy.pv
  have hc2 := hc
  obtain ⟨A, c, cs, q1, _⟩ := hc2
  injection q1 with q1
  have hr5 : t5.row = true := by rw [q6]; exact hrow
  exact viaNew ⟨e5, t5, ys, false⟩ hr5 (by rw [OR_fz hr5 rfl]; exact hc) (.inl rfl) ⟨_, _, _, q1⟩ he
 ·exact he.elim
theorem fSt_ok (hTE : ∀ e t, TE e = some t → TyOk P t e) (h : RelC n0 w0 S0 N Fk f a w S V) (hk : Fk key) {T : TypeId} {x y : Operand} {d : Option Nat} (hd : ∀ i, d = some i → i < N) (he : fSt TE key T y f d K (f.res x)) :
  ∃ w', (Instr.storeAt T (a.eval x) (a.eval y)).run P w = .ok () w' ∧ Step n0 w0 S0 N (lessK Fk key) K (a.put d undef) w' := by
 have hx := h.arg x
 unfold fSt at he
 split at he
 ·rename_i k i e e' t' ids m heq
  rw [heq] at hx
  exact fStI_ok h hk hd hx (h.arg y) (hTE _ _ he.1.1) he.1.2 he.2
 ·rename_i p o _ heq
  obtain ⟨S', h'⟩ := h.fzo [y]
  have hxe : (p, p.key.bind (f.fzo [y]).o) = (f.fzo [y]).res x := by
   have : p = f.op x := by have := congrArg Prod.fst heq; exact this.symm
   unfold FS.res
   rw [op_g (fzo_g _ _), this]
  rw [hxe] at he
  obtain ⟨w', r1, f', S2, V2, r2, r3⟩ := fSto_ok (P := P) hTE h' hd (h'.arg x) (h'.arg y) he
  exact ⟨w', r1, f', S2, V2, r2, r3.keys fun k h => h.1⟩
theorem fApI_ok (h : RelC n0 w0 S0 N Fk f a w S V) (hk : Fk key) {T ty : TypeId} {k : Nat} {e e' : TypeId} {t' : Ty} {ids : List Nat} {m : Bool} {y : Arg} {vx vy : Value} {d : Option Nat} (hd : ∀ i, d = some i → i < N) (hx : ArgOk Fk f w S V (.own k, some ⟨e, .id e' t', ids, m⟩) vx) (hy : ArgOk Fk f w S V y vy)
  (hu : P.underlying T = some (.slice e)) (hT : TyOk P (.sl e' t') e) (hrow : t'.row = true) (he : fApI e e' t' ids k key f d K y) : ∃ v' w', (Builtin.append_ #[T, T] ty #[vx, vy]).run P w = .ok v' w' ∧ Step n0 w0 S0 N (lessK Fk key) K (a.put d v') w' := by
 unfold fApI at he
 split at he
 ·rename_i e2 j ob
  obtain ⟨⟨rfl, he1, he2, hje, hne, hb⟩, hK⟩ := he
  obtain ⟨ho, hs⟩ := hx.sh rfl
  obtain ⟨hoj, hsj⟩ := hy.sh rfl
  obtain ⟨ad, c, q1, q2, q3, q4⟩ := hy.pv _ _ hsj
  have h5 := (OR_x rfl (h.ob _ _ ho)).2
  have hm : m = true := (OR_x rfl (h.ob _ _ ho)).1
  have h5 : w.ownsRow 0 e2 1 (V k) (List.length ids) (List.map V ids) := h5
  obtain ⟨i, z, i1, i2, i3, i4, i5⟩ := hT.info.ex
  obtain ⟨A, n2, c2, hsl⟩ := own_isSl h hoj (by rw [he2]; exact hrow)
  have hzs : z.cells.size = 1 := by rw [← Array.length_toList, i3, zc_len]; rfl
  have hby : (List.length ids + 1) * i.bytes ≤ 140737488355328 := by
   have : i.bytes ≤ 24 := i5
   have := Nat.mul_le_mul hb this
   omega
  obtain ⟨v', w', r1, r2, r3, _, r4⟩ := run_append_own_at (P := P) w 0 T ty e2 i z 1 i.bytes hu i1 i2 i4 rfl hzs (by omega) (V k) (List.length ids) (List.map V ids) h5 ad 1 c [V j] rfl (fun l u hl => by
   cases l with
   | zero =>
    have hl : some (V j) = some u := hl
    injection hl with hl; subst hl
    rw [show ad.add 0 = ad from rfl]; exact q4
   | succ l => cases hl) (fun u hu => by rw [List.mem_singleton.1 hu, hsl]; rfl) (by simp only [maxLen]; omega) hby (Nat.zero_le _)
  have hb1 : blk (V k) = (V k).ownBlock := by obtain ⟨A', c', q, _⟩ := own_row h5; rw [q]; rfl
  have hb2 : blk v' = v'.ownBlock := by obtain ⟨A', c', q, _⟩ := own_row r2; rw [q]; rfl
  rw [← hb1] at r3 r4
  rw [← hb2] at r4
  have h2 := h.adopt hoj
  have hk2 := adopt_o h hoj ho hne
  rw [adopt_eq hoj] at hk2 hK
  have hVk := adopt_V h (j := j) ho
  rw [hx.pv _ _ hs, q1]
  refine ⟨v', w', r1, own_val (h2.app (o' := ⟨e2, .id e' t', ids ++ [od f.h], true⟩) (v' := v') hk2 hm rfl hk (by rw [hVk]; exact r3) ?_ (fun x hx => ?_) (by rw [hVk]; exact r4)) (h.fe _ hk) hd hK⟩
  ·rw [OR_id, List.length_append, List.map_append]
   have hids : List.map (upd V (od f.h) (V j)) ids = List.map V ids := List.map_congr_left fun x hx => by
    obtain ⟨j1, j2, rfl⟩ := h.fi _ _ ho x hx
    unfold upd; rw [if_neg (fun q => by unfold od at q; omega)]
   rw [hids]
   have : List.map (upd V (od f.h) (V j)) [od f.h] = [V j] := by simp [upd]
   rw [this]; exact r2
  ·rcases List.mem_append.1 (show x ∈ ids ++ [od f.h] from hx) with hx | hx
   ·obtain ⟨j1, j2, j3⟩ := h.fi _ _ ho x hx; exact ⟨j1, Nat.lt_succ_of_lt j2, j3⟩
   ·exact ⟨f.h, Nat.lt_succ_self _, List.mem_singleton.1 hx⟩
 ·exact he.elim
theorem fAp_ok (hTE : ∀ e t, TE e = some t → TyOk P t e) (h : RelC n0 w0 S0 N Fk f a w S V) (hk : Fk key) {T ty : TypeId} {x y : Operand} {d : Option Nat} (hd : ∀ i, d = some i → i < N) (he : fAp TE key T y f d K (f.res x)) :
  ∃ v' w', (Builtin.append_ #[T, T] ty #[a.eval x, a.eval y]).run P w = .ok v' w' ∧ Step n0 w0 S0 N (lessK Fk key) K (a.put d v') w' := by
 have hx := h.arg x
 unfold fAp at he
 split at he
 ·rename_i k e e' t' ids m heq
  rw [heq] at hx
  have hT := hTE _ _ he.1.1
  unfold TyOk at hT
  exact fApI_ok h hk hd hx (h.arg y) hT.1 hT.2.2.1 he.1.2 he.2
 ·rename_i heq
  split at he
  ·rename_i e2 j ob hy
   obtain ⟨S', h', _⟩ := h.frz' j
   have hxe : ((f.res x).1, (f.res x).1.key.bind (f.frz j).o) = (f.frz j).res x := by
    unfold FS.res
    rw [op_g (frz_g _ _)]
   rw [hxe] at he
   exact fApp_ok (P := P) hTE h' hk hd (h'.arg x) (h'.arg y) he
  ·exact fApp_ok (P := P) hTE h hk hd hx (h.arg y) he
theorem fMUp_ok (hTE : ∀ e t, TE e = some t → TyOk P t e) (h : RelC n0 w0 S0 N Fk f a w S V) {T : TypeId} {x y z : Arg} {vx vy vz : Value} {d : Option Nat} (hd : ∀ i, d = some i → i < N) (hx : ArgOk Fk f w S V x vx) (hy : ArgOk Fk f w S V y vy) (hz : ArgOk Fk f w S V z vz) (he : fMUp TE T y z f d K x) :
  ∃ w', (Instr.mapUpdate T vx vy vz).run P w = .ok () w' ∧ Step n0 w0 S0 N Fk K (a.put d undef) w' := by
 unfold fMUp at he
 split at he
 ·rename_i k e kt vt xs m
  obtain ⟨h1, h2⟩ := he
  have hT := hTE _ _ h1
  unfold TyOk at hT
  obtain ⟨e1, e2, hu, _, hk1, ht1, hkk, hsz, hr⟩ := hT
  obtain ⟨ho, hs⟩ := hx.sh rfl
  obtain ⟨hm, r, es, c, q1, q2, q3, q4, q5⟩ := OR_x rfl (h.ob _ _ ho)
  rw [hx.pv _ _ hs, q1]
  obtain ⟨y', y1, y2⟩ := shd_ok h hy h2
  obtain ⟨z', z1, z2⟩ := shd_ok h hz y1
  have hg : (getObj r).run P w = .ok (.map es c) w := by simp [getObj, Sem.run, q2]
  have hset : ∀ o : Obj, (setObj r o).run P w = .ok () { w with heap := w.heap.setIfInBounds r o } := fun o => by simp [setObj, Sem.run, q2]
  have hd' := dsc_ok hkk hk1
  have hrb : r < w.heap.size := (Array.getElem?_eq_some_iff.1 q2).1
  have fin : ∀ es' c', (Instr.mapUpdate T (.map (some r)) vy vz).run P w = .ok () { w with heap := w.heap.setIfInBounds r (.map es' c') } → Mp w S kt vt (mset kt y' z' xs) es'.toList → (es'.toList.map MapEntry.born).Pairwise (· < ·) → (∀ b ∈ es'.toList.map MapEntry.born, b < c') →
    ∃ w', (Instr.mapUpdate T (.map (some r)) vy vz).run P w = .ok () w' ∧ Step n0 w0 S0 N Fk K (a.put d undef) w' := by
   intro es' c' hrun hmp hpw hlt
   have hgr : w.grownBy { w with heap := w.heap.setIfInBounds r (.map es' c') } (blk (V k)) := ⟨rfl, rfl, rfl, by simp, fun j _ hj => by
    show (w.heap.setIfInBounds r _)[j]? = _
    rw [Array.getElem?_setIfInBounds_ne (fun q => hj (by rw [q1, ← q]; rfl))]⟩
   have ha := h.ag_row ho hm hgr
   refine ⟨_, hrun, _, S, V, z1, (h.wr (o' := ⟨e, .mp kt vt, mset kt y' z' xs, true⟩) ho hm rfl rfl rfl hgr ?_ (fun i hi => by cases hi)).put (p := .bot) trivial (fun k hk => by cases hk) d hd⟩
   rw [OR_mp]
   refine ⟨r, es', c', q1, ?_, Mp_mono (fun _ h => h) ha hmp, hpw, hlt⟩
   show (w.heap.setIfInBounds r _)[r]? = _
   simp [hrb]
  rcases set_ok hkk y2 z2 0 q3 with ⟨g1, g2⟩ | ⟨j, v, e', g1, g2, g3, g4⟩
  ·refine fin (es.push { key := vy, val := vz, born := c }) (c + 1) ?_ (by rw [Array.toList_push]; exact g2 c) ?_ ?_
   ·simp [Instr.mapUpdate, run_underlying hu, hg, run_checkKey hkk hk1 y2, Instr.findKey, run_underlying hd', g1, hset]
   ·rw [Array.toList_push, List.map_append]
    exact List.pairwise_append.2 ⟨q4, by simp, fun x hx y hy => by simp at hy; rw [hy]; exact q5 x hx⟩
   ·intro b hb
    rw [Array.toList_push, List.map_append, List.mem_append] at hb
    rcases hb with hb | hb
    ·exact Nat.lt_succ_of_lt (q5 b hb)
    ·simp at hb; omega
  ·have hb : (es.modify j fun e => { e with key := vy, val := vz }).toList.map MapEntry.born = es.toList.map MapEntry.born := by
    rw [Array.toList_modify]
    apply List.ext_getElem?
    intro n
    simp only [List.getElem?_map, List.getElem?_modify]
    rcases es.toList[n]? with _ | x <;> simp
    split <;> rfl
   refine fin (es.modify j fun e => { e with key := vy, val := vz }) c ?_ (by rw [Array.toList_modify]; exact g4) (by rw [hb]; exact q4) (by rw [hb]; exact q5)
   have g2' : es[j]? = some e' := by rw [← Array.getElem?_toList]; exact g2
   rw [Nat.zero_add] at g1
   have hks : (Instr.keyThatStays e'.key vy).run P w = .ok vy w := by simp [Instr.keyThatStays, g3]
   simp [Instr.mapUpdate, run_underlying hu, hg, run_checkKey hkk hk1 y2, Instr.findKey, run_underlying hd', g1, g2', hks, hset]
 ·exact he.elim
end
end Go.TT
end
section
namespace Go.TT
open Go.RowKit
set_option linter.unusedVariables false
set_option linter.unusedSimpArgs false
section
variable {P : Program} {TE : TypeId → Option Ty} {n0 : Nat → Prop} {w0 : World} {S0 : Nat → Prop} {N : Nat} {Fk : Nat → Prop} {f : FS} {a : Act} {w w' : World} {S S' : Nat → Prop} {V V' : Nat → Value} {key : Nat} {K : KF}
theorem Step.keys {Fk' : Nat → Prop} (h : Step n0 w0 S0 N Fk K a w) (hk : ∀ k, Fk' k → Fk k) : Step n0 w0 S0 N Fk' K a w := by
 obtain ⟨f', S', V', h1, h2⟩ := h; exact ⟨f', S', V', h1, h2.keys hk⟩
def Does (P : Program) (n0 : Nat → Prop) (w0 : World) (S0 : Nat → Prop) (N : Nat) (Fk : Nat → Prop) (K : KF) (a : Act) (w : World) (o : Oper) : Prop :=
 (∃ v w', (execOp a.eval o).run P w = .ok (.value v) w' ∧ Step n0 w0 S0 N Fk K (a.put o.dst v) w') ∨
 (∃ w', (execOp a.eval o).run P w = .ok .skip w' ∧ Step n0 w0 S0 N Fk K (a.put o.dst undef) w')
theorem full_ok (hTE : ∀ e t, TE e = some t → TyOk P t e) (h : RelC n0 w0 S0 N Fk f a w S V) (hk : Fk key) (o : Oper) (hd : ∀ i, o.dst = some i → i < N) (he : full TE key o f K) : Does P n0 w0 S0 N (lessK Fk key) K a w o := by
 have hsub : ∀ k, lessK Fk key k → Fk k := fun k h => h.1
 have hA := fun x => h.arg (x := x)
 have viaEv : ∀ {f' : FS}, (∃ S', RelC n0 w0 S0 N Fk f' a w S' V) → fEv TE key o f' K → Does P n0 w0 S0 N (lessK Fk key) K a w o := by
  intro f' ⟨S', h'⟩ he
  exact .inl (fEv_ok hTE h' hk o hd he)
 have fin : ∀ (s : Sem Value) (e : execOp a.eval o = (do pure (.value (← s)))), (∃ v w', s.run P w = .ok v w' ∧ Step n0 w0 S0 N (lessK Fk key) K (a.put o.dst v) w') → Does P n0 w0 S0 N (lessK Fk key) K a w o := by
  intro s e ⟨v, w', e2, e3⟩
  exact .inl ⟨v, w', by rw [e]; simp only [Sem.run_bind, e2, Result.andThen_ok, Sem.run_pure], e3⟩
 obtain ⟨dst, op, type, pos, after, guard⟩ := o
 cases op
 case store T x y =>
  obtain ⟨w', r1, r2⟩ := fSt_ok (P := P) hTE h hk hd he
  exact .inr ⟨w', by simp [execOp, r1], r2⟩
 case mapUpdate T m x y =>
  obtain ⟨S', h'⟩ := h.fzo [y]
  obtain ⟨w', r1, r2⟩ := fMUp_ok (P := P) hTE h' hd (h'.arg m) (h'.arg x) (h'.arg y) he
  exact .inr ⟨w', by simp [execOp, r1], r2.keys hsub⟩
 case slice T x lo hi mx =>
  cases mx with
  | some m =>
   have he : fSli3 TE key _ f K (f.res x) := he
   unfold fSli3 at he
   split at he
   ·obtain ⟨S', h', _⟩ := h.frz' _
    exact viaEv ⟨S', h'⟩ he
   ·exact viaEv ⟨S, h⟩ he
  | none =>
   have he : fSli TE key _ T lo hi f K (f.res x) := he
   generalize hres : f.res x = r at he
   have hx := hA x
   rw [hres] at hx
   unfold fSli at he
   split at he
   ·rename_i k ob
    obtain ⟨ho, hs⟩ := hx.sh rfl
    split at he
    ·rename_i e1 e2 e3
     have hT := hTE _ _ he.1
     unfold TyOk at hT
     obtain ⟨A, c, cs, q1, q2, q3, q4⟩ := h.own_sl ho hT.2.2.2.2
     refine fin (Instr.sliceAt T (a.eval x) none none none) rfl ⟨V k, w, ?_, ?_⟩
     ·rw [hx.pv _ _ hs, q1, run_sliceAt hT.1 hT.2.2.1 0 ob.xs.length .i64 .i64 none none (.inl ⟨rfl, rfl⟩) (.inl ⟨rfl, rfl⟩) (Nat.zero_le _) q2]
      congr 1
      cases A <;> simp [Addr.add]
     ·exact ⟨_, S, V, he.2, (h.put (p := .own k) (fun n' t' e' => rfl) (fun j hj => hx.ks j hj) dst hd).keys hsub⟩
    ·rename_i e1 e2 e3
     exact fin (Instr.sliceAt T (a.eval x) none (some (a.eval _)) none) rfl (fCut_ok (P := P) hTE h hk hd hx (by assumption) (hA _) he)
    ·exact viaEv ⟨S, h⟩ he
   ·exact viaEv ⟨S, h⟩ he
 case build T ps => exact viaEv (h.fzo _) he
 case makeFunc fn x y => exact viaEv (h.fzo _) he
 case makeInterface T x => exact viaEv (h.fzo _) he
 case buildSlice T n ps =>
  have he : fBlS TE key _ f K (Op.operands (.buildSlice T n ps)).toList := he
  unfold fBlS at he
  split at he
  ·split at he
   ·exact viaEv ⟨S, h⟩ he
   ·exact viaEv (h.fzo _) he
  ·exact viaEv (h.fzo _) he
 case box e x => exact viaEv (h.fzo _) he
 case call c =>
  obtain ⟨cl, args, ts⟩ := c
  cases cl with
  | value x => exact viaEv ⟨S, h⟩ he
  | invoke x m => exact viaEv ⟨S, h⟩ he
  | builtin b =>
   by_cases hb1 : b = .append
   ·subst hb1
    have hq : (match args.toList, ts.toList with
     | [s, x], [T, T'] => T = T' ∧ fAp TE key T x f dst K (f.res s)
     | _, _ => False) := he
    clear he
    split at hq
    ·rename_i s x T T' e1 e2
     obtain ⟨rfl, he⟩ := hq
     have e1' : args = #[s, x] := by rw [← Array.toArray_toList (xs := args), e1]
     have e2' : ts = #[T, T] := by rw [← Array.toArray_toList (xs := ts), e2]
     subst e1' e2'
     exact fin (Builtin.append_ #[T, T] type #[a.eval s, a.eval x]) (by simp [execOp, resolve, invoke, builtin]) (fAp_ok (P := P) hTE h hk hd he)
    ·exact hq.elim
   ·by_cases hb2 : b = .copy
    ·subst hb2
     have hq : (match args.toList, ts.toList with
      | [s, x], T :: _ => fCopy TE T (f.res x) f dst K (f.res s)
      | _, _ => False) := he
     clear he
     split at hq
     ·rename_i s x T ts' e1 e2
      have e1' : args = #[s, x] := by rw [← Array.toArray_toList (xs := args), e1]
      subst e1'
      have hts : ts[0]? = some T := by rw [← Array.getElem?_toList, e2]; rfl
      obtain ⟨v, w', r1, r2⟩ := fCopy_ok (P := P) (ty := type) hTE h hts hd (hA s) (hA x) hq
      exact fin (Builtin.copy_ ts type #[a.eval s, a.eval x]) (by simp [execOp, resolve, invoke, builtin]) ⟨v, w', r1, r2.keys hsub⟩
     ·exact hq.elim
    ·exact viaEv ⟨S, h⟩ (by cases b <;> first | exact absurd rfl hb1 | exact absurd rfl hb2 | exact he)
 all_goals exact viaEv ⟨S, h⟩ he
end
end Go.TT
end
section
namespace Go.TT
open Go.RowKit
set_option linter.unusedVariables false
set_option linter.unusedSimpArgs false
abbrev RV := Bool × TV
def retv : List Value → Value
 | [v] => v
 | vs => .tuple vs.toArray
def Ty.nid : Ty → Bool
 | .id _ _ => false
 | _ => true
def Rets (n : Nat) (w : World) (S : Nat → Prop) : (Nat → Prop) → List RV → List Value → Prop
 | _, [], [] => True
 | B, (false, tv) :: rs, v :: vs => Vs w S tv.t tv.x v ∧ Rets n w S B rs vs
 | B, (true, ⟨.sl e t, xs⟩) :: rs, v :: vs => (t.nid = true ∧ OR w S (fun _ => undef) ⟨e, t, xs, true⟩ v) ∧ (∀ b, blk v = some b → n ≤ b ∧ ¬ S b ∧ ¬ B b) ∧ Rets n w S (fun b => B b ∨ blk v = some b) rs vs
 | _, _, _ => False
def Args (w : World) (S : Nat → Prop) : List TV → List Value → Prop
 | [], [] => True
 | tv :: l, v :: vs => Vs w S tv.t tv.x v ∧ Args w S l vs
 | _, _ => False
def fnOk (P : Program) (fn : FuncId) : Prop := ∃ F, P.funcs[fn]? = some F ∧ (F.name == "runtime.NumGoroutine") = false ∧ F.body.isSome = true
abbrev rnd (r : Option Nat) : Fence := { Fence.wide with round := r }
theorem callsIn_rnd {P : Program} {fn : FuncId} {args : Array Value} {w : World} {R : Ending → World → Prop} {r : Option Nat} {n : Nat} (h : Calls P fn args w R) : CallsIn (rnd r) n P fn args w R := (callsIn_wide (n := n)).2 h
def Con (P : Program) (fn : FuncId) (al : List TV) (rs : List RV) : Prop :=
 fnOk P fn ∧ ∀ (w : World) (S : Nat → Prop) (vals : List Value), (∀ b, S b → b < w.heap.size) → Args w S al vals →
  Calls P fn vals.toArray w fun e w' => ∃ vs, e = .returned (retv vs) ∧ Below w.heap.size w w' ∧ ∃ S', (∀ b, b < w.heap.size → S' b → S b) ∧ (∀ b, S' b → b < w'.heap.size) ∧ Rets w.heap.size w' S' (fun _ => False) rs vs
def RV.flat : RV → Bool
 | (true, ⟨.sl _ t, _⟩) => t.flat && t.row
 | (true, _) => false
 | (false, tv) => tv.t.flat
def flatR : List RV → Bool
 | [] => true
 | r :: rs => RV.flat r && flatR rs
def obsOf : List RV → List Ob
 | [] => []
 | (true, ⟨.sl e t, xs⟩) :: r => ⟨e, t, xs, true⟩ :: obsOf r
 | _ :: r => obsOf r
def pvsOf : Nat → List RV → List PV
 | _, [] => []
 | key, (true, ⟨.sl _ _, _⟩) :: r => .own key :: pvsOf (key + 2) r
 | key, (true, _) :: r => .bot :: pvsOf key r
 | key, (false, tv) :: r => .ro tv.t tv.x :: pvsOf key r
def tupOf : List PV → PV
 | [] => .tnil
 | p :: l => .pair p (tupOf l)
def pvOf : List PV → PV
 | [p] => p
 | l => tupOf l
def rd1 (TE : TypeId → Option Ty) (T : TypeId) : Arg → (TV → Prop) → Prop
 | (.nil, _), K => match TE T with
  | some (.sl e t) => K ⟨.sl e t, []⟩
  | _ => False
 | (.ro t x, _), K => K ⟨t, x⟩
 | (.cel t x, _), K => K ⟨.rf t, x⟩
 | (.own _, some o), K => o.t.row = true ∧ K ⟨.sl o.e o.t, o.xs⟩
 | (.vw _ l h, some o), K => o.t.row = true ∧ K ⟨.sl o.e o.t, (o.xs.take h).drop l⟩
 | (.one e _, some o), K => o.t.row = true ∧ K ⟨.sl e (.sl o.e o.t), [o.xs]⟩
 | (.ptr _ i fs, some o), K => o.t.row = true ∧ K ⟨.rf (o.t.pj fs (o.xs.getD i.toNat o.t.zv)).t, (o.t.pj fs (o.xs.getD i.toNat o.t.zv)).x⟩
 | _, _ => False
def rds (TE : TypeId → Option Ty) (f : FS) : List Operand → List TypeId → (List TV → Prop) → Prop
 | [], [], K => K []
 | x :: xs, T :: Ts, K => rd1 TE T (f.res x) fun y => rds TE f xs Ts fun l => K (y :: l)
 | _, _, _ => False
def noOwn (f : FS) : List Operand → Prop
 | [] => True
 | x :: l => (match (f.res x).2 with | some o => o.mu = false | _ => True) ∧ noOwn f l
def mth (P : Program) (d : TypeId) (m : String) (g : FuncId) : Prop :=
 0 < P.types.size + Made.depth ∧ ∃ i mt, P.info? d = some i ∧ i.methods.find? (·.name == m) = some mt ∧ mt.path = #[] ∧ mt.func = some (g, false) ∧ ∃ D, P.underlying d = some D ∧ ∀ e, D ≠ .pointer e
def cle (P : Program) (f : FS) : Callee → (FuncId → List TV → List TV → Prop) → Prop
 | .value x, K => match (f.res x).1 with
  | .ro (.fn (.func g) a c) z => K g (a.tvs z.1) (c.tvs z.2)
  | _ => False
 | .invoke x m, K => match (f.res x).1 with
  | .ro (.ifc d t) y => ∃ g, mth P d m g ∧ K g [⟨t, y⟩] []
  | _ => False
 | _, _ => False
def clX : Callee → List Operand
 | .value x => [x]
 | .invoke x _ => [x]
 | _ => []
def fCal (P : Program) (TE : TypeId → Option Ty) (dr : Bool) (key : Nat) (d : Option Nat) (cl : Callee) (xs : List Operand) (Ts : List TypeId) (f : FS) (K : KF) : Prop :=
 cle P f cl fun fn pre post => rds TE f xs Ts fun al => ∃ rs, Con P fn (pre ++ (al ++ post)) rs ∧ (obsOf rs).length ≤ 4 ∧
  if flatR rs = true then K ((f.news key (obsOf rs)).put d (pvOf (pvsOf key rs)))
  else (dr = false ∨ noOwn f xs) ∧ K (((f.fzo xs).news key (obsOf rs)).put d (pvOf (pvsOf key rs)))
theorem frz_o (f : FS) (j k : Nat) : (f.frz j).o k = if k = j then (f.o k).map Ob.froze else f.o k := by
 unfold FS.frz
 split
 ·rename_i o e
  simp only [FS.set, upd]
  split
  ·rename_i h; subst h; rw [e]; rfl
  ·rfl
 ·rename_i e
  split
  ·rename_i h; subst h; rw [e]; rfl
  ·rfl
theorem frz_same {o : Ob} (h : o.mu = false) : o.froze = o := by
 unfold Ob.froze; split
 ·obtain ⟨e, t, xs, m⟩ := o; simp only at h; rw [h]
 ·rfl
theorem frz_stay : ∀ (l : List Operand) (f : FS) (k : Nat) (o : Ob), f.o k = some o → o.mu = false → (f.fzo l).o k = some o
 | [], f, k, o, h, _ => h
 | x :: l, f, k, o, h, hm => by
  unfold FS.fzo
  refine frz_stay l _ k o ?_ hm
  unfold TT.fz1
  split <;> first | exact h | (rw [frz_o]; split <;> first | exact h | (rw [h]; show some o.froze = _; rw [frz_same hm]))
theorem fz1_eq (f : FS) (p : PV) : fz1 f p = match p.key with | some j => f.frz j | none => f := by cases p <;> rfl
theorem fzo_o : ∀ (l : List Operand) (f : FS) (k : Nat) (o : Ob), f.o k = some o → o.t.row = true → ∃ m, (f.fzo l).o k = some { o with mu := m } ∧ ∀ x ∈ l, (f.op x).key = some k → m = false
 | [], f, k, o, h, _ => ⟨o.mu, h, fun x hx => by cases hx⟩
 | x :: l, f, k, o, h, hr => by
  unfold FS.fzo
  rw [fz1_eq]
  split
  ·rename_i j hj
   have h1 := frz_o f j k
   by_cases e : k = j
   ·subst e
    rw [if_pos rfl, h] at h1
    have h1 : (f.frz k).o k = some { o with mu := false } := by rw [h1]; show some o.froze = _; rw [froze_row hr]
    obtain ⟨m, r1, r2⟩ := fzo_o l (f.frz k) k _ h1 hr
    rcases m with _ | _
    ·exact ⟨false, r1, fun _ _ _ => rfl⟩
    ·exfalso
     exact absurd (frz_stay l (f.frz k) k _ h1 rfl) (by rw [r1]; simp)
   ·rw [if_neg e] at h1
    obtain ⟨m, r1, r2⟩ := fzo_o l (f.frz j) k o (by rw [h1]; exact h) hr
    refine ⟨m, r1, fun y hy hk => ?_⟩
    rcases List.mem_cons.1 hy with rfl | hy
    ·rw [hj] at hk; injection hk with hk; exact absurd hk.symm e
    ·exact r2 y hy (by rw [op_g (frz_g f j)]; exact hk)
  ·rename_i hx
   obtain ⟨m, r1, r2⟩ := fzo_o l f k o h hr
   refine ⟨m, r1, fun y hy hk => ?_⟩
   rcases List.mem_cons.1 hy with rfl | hy
   ·rw [hx] at hk; cases hk
   ·exact r2 y hy hk
section
variable {P : Program} {TE : TypeId → Option Ty} {n0 : Nat → Prop} {w0 : World} {S0 : Nat → Prop} {N : Nat} {Fk : Nat → Prop} {f : FS} {a : Act} {w w' : World} {S S' : Nat → Prop} {V V' : Nat → Value} {key : Nat} {K : KF}
theorem rd1_ok {xs0 : List Operand} (h : RelC n0 w0 S0 N Fk (f.fzo xs0) a w S V) {x : Operand} (hx : x ∈ xs0) {T : TypeId} {K : TV → Prop} (he : rd1 TE T (f.res x) K) : ∃ y, K y ∧ Vs w S y.t y.x (a.eval x) := by
 have harg := h.arg x
 have hop : (f.fzo xs0).op x = f.op x := op_g (fzo_g xs0 f) x
 have fin : ∀ {K : TV → Prop}, tvA ((f.fzo xs0).res x) K → ∃ y, K y ∧ Vs w S y.t y.x (a.eval x) := fun he => tvA_ok h harg he
 have obj : ∀ {k : Nat} {o : Ob}, (f.op x).key = some k → (f.op x).key.bind f.o = some o → o.t.row = true → (f.op x).key.bind (f.fzo xs0).o = some { o with mu := false } := fun {k o} h1 h2 h3 => by
  rw [h1] at h2 ⊢
  obtain ⟨m, r1, r2⟩ := fzo_o xs0 f k o h2 h3
  rw [r2 x hx h1] at r1; exact r1
 unfold FS.res at he fin
 rw [hop] at fin
 generalize hp : f.op x = p at *
 rcases p with _ | ⟨t', x'⟩ | _ | k | ⟨k, i, fs⟩ | ⟨t', x'⟩ | ⟨k, l, j⟩ | ⟨e1, k⟩ | ⟨_, _⟩ | _ <;> simp only [PV.key, Option.bind_some, Option.bind_none] at he fin obj <;> simp only [rd1] at he <;> try exact he.elim
 ·exact fin he
 ·split at he
  ·have hv := harg.pv
   have hq : ((f.fzo xs0).res x).1 = PV.nil := hop
   rw [hq] at hv
   have hv : a.eval x = .slice none 0 0 := hv
   exact ⟨_, he, Vs_sl.2 ⟨none, 0, [], by rw [show a.eval x = .slice none 0 0 from hv]; rfl, Nat.le_refl _, rfl, .inl rfl⟩⟩
  ·exact he.elim
 ·rcases ho : f.o k with _ | o
  ·rw [ho] at he; exact he.elim
  ·rw [ho] at he
   exact fin (by rw [obj rfl ho he.1]; exact ⟨rfl, he.2⟩)
 ·rcases ho : f.o k with _ | o
  ·rw [ho] at he; exact he.elim
  ·rw [ho] at he
   exact fin (by rw [obj rfl ho he.1]; exact ⟨rfl, he.2⟩)
 ·exact fin he
 ·rcases ho : f.o k with _ | o
  ·rw [ho] at he; exact he.elim
  ·rw [ho] at he
   exact fin (by rw [obj rfl ho he.1]; exact ⟨rfl, he.2⟩)
 ·rcases ho : f.o k with _ | o
  ·rw [ho] at he; exact he.elim
  ·rw [ho] at he
   exact fin (by rw [obj rfl ho he.1]; exact ⟨rfl, he.2⟩)
theorem rds_ok {xs0 : List Operand} (h : RelC n0 w0 S0 N Fk (f.fzo xs0) a w S V) : ∀ {xs : List Operand} {Ts : List TypeId} {K : List TV → Prop}, (∀ x ∈ xs, x ∈ xs0) → rds TE f xs Ts K → ∃ al, K al ∧ Args w S al (xs.map a.eval)
 | [], [], K, _, he => ⟨[], he, trivial⟩
 | x :: xs, T :: Ts, K, hx, he => by
  unfold rds at he
  obtain ⟨y, h1, h2⟩ := rd1_ok h (hx x List.mem_cons_self) he
  obtain ⟨al, h3, h4⟩ := rds_ok h (xs := xs) (fun z hz => hx z (List.mem_cons_of_mem _ hz)) h1
  exact ⟨_, h3, h2, h4⟩
 | [], _ :: _, _, _, he => he.elim
 | _ :: _, [], _, _, he => he.elim
theorem arr_hd (u : Value) (xs : Array Value) : (#[u] ++ xs)[0]? = some u := by rw [Array.getElem?_append_left (by simp)]; rfl
theorem arr_tl (u v : Value) (xs : Array Value) : #[u] ++ (#[v] ++ xs).extract 1 (#[v] ++ xs).size = ([u] ++ (xs.toList ++ [])).toArray := by
 apply Array.ext'
 simp
theorem Args_app : ∀ {al bl : List TV} {vs us : List Value}, Args w S al vs → Args w S bl us → Args w S (al ++ bl) (vs ++ us)
 | [], _, [], _, _, h => h
 | _ :: _, _, _ :: _, _, ⟨h1, h2⟩, h => ⟨h1, Args_app h2 h⟩
 | [], _, _ :: _, _, h, _ => h.elim
 | _ :: _, _, [], _, h, _ => h.elim
theorem Vl_args : ∀ {t : Ty} {x : t.den} {vs : List Value}, Vl w S t x vs → Args w S (t.tvs x) vs
 | .pr a b, x, vs, ⟨cs, ⟨c1, c2, e, h1, h2⟩, hv⟩ => by
  have hv : vs = a.mk (cs.take a.sz) :: b.vals (cs.drop a.sz) := hv
  rw [e, ← Cs_len h1, List.take_left, List.drop_left] at hv
  rw [hv]
  exact ⟨⟨c1, h1, rfl⟩, Vl_args ⟨c2, h2, rfl⟩⟩
 | .int _, _, _, ⟨_, _, hv⟩ => by rw [hv]; exact trivial
 | .bool, _, _, ⟨_, _, hv⟩ => by rw [hv]; exact trivial
 | .str, _, _, ⟨_, _, hv⟩ => by rw [hv]; exact trivial
 | .un, _, _, ⟨_, _, hv⟩ => by rw [hv]; exact trivial
 | .sl _ _, _, _, ⟨_, _, hv⟩ => by rw [hv]; exact trivial
 | .rf _, _, _, ⟨_, _, hv⟩ => by rw [hv]; exact trivial
 | .fn _ _ _, _, _, ⟨_, _, hv⟩ => by rw [hv]; exact trivial
 | .ifc _ _, _, _, ⟨_, _, hv⟩ => by rw [hv]; exact trivial
 | .id _ _, _, _, ⟨_, _, hv⟩ => by rw [hv]; exact trivial
 | .mp _ _, _, _, ⟨_, _, hv⟩ => by rw [hv]; exact trivial
theorem cle_ok (h : RelC n0 w0 S0 N Fk f a w S V) {cl : Callee} {K : FuncId → List TV → List TV → Prop} (he : cle P f cl K) : ∃ g pre post, K g pre post ∧ (fnOk P g → ∀ (xs : Array Operand) (Ts : Array TypeId) (ty : TypeId), ∃ l m, Args w S pre l ∧ Args w S post m ∧
  (do let d ← resolve a.eval { callee := cl, args := xs, argTypes := Ts } ty; invoke d.target d.args : Sem Next).run P w = .ok (.enter g (l ++ (xs.toList.map a.eval ++ m)).toArray) w) := by
 have call : ∀ {g : FuncId}, fnOk P g → ∀ args, (callFunc g args).run P w = .ok (.enter g args) w := fun {g} ⟨F, f1, f2, f3⟩ args => by
  have hb3 : F.body.isNone = false := by rw [Option.isSome_iff_ne_none] at f3; cases hF : F.body with
   | none => exact absurd hF f3
   | some _ => rfl
  simp only [callFunc, Sem.run_bind, run_program, Result.andThen_ok, f1, f2, hb3, Bool.false_eq_true, if_false, Sem.run_pure]
 unfold cle at he
 split at he
 ·rename_i x
  split at he
  ·rename_i g ta tc z hz
   have hx := (h.arg x).pv
   rw [hz] at hx
   obtain ⟨l, m, e, h1, h2⟩ := Vs_fn.1 hx
   refine ⟨g, _, _, he, fun hf xs Ts ty => ⟨l, m, Vl_args h1, Vl_args h2, ?_⟩⟩
   simp only [resolve, e, Deferred.ofValue, Sem.run_bind, Sem.run_pure, Result.andThen_ok, invoke, call hf]
   have hq : (l.toArray ++ xs.map a.eval) ++ m.toArray = (l ++ (xs.toList.map a.eval ++ m)).toArray := Array.ext' (by simp)
   rw [hq]
  ·exact he.elim
 ·rename_i x mn
  split at he
  ·rename_i d t y hz
   have hx := (h.arg x).pv
   rw [hz] at hx
   obtain ⟨u, e, h1⟩ := Vs_ifc.1 hx
   obtain ⟨g, ⟨q0, i, mt, q1, q2, q3, q4, D, q5, q6⟩, hK⟩ := he
   refine ⟨g, _, _, hK, fun hf xs Ts ty => ⟨[u], [], ⟨h1, trivial⟩, trivial, ?_⟩⟩
   obtain ⟨fu, hfu⟩ : ∃ fu, P.types.size + Made.depth = fu + 1 := ⟨P.types.size + Made.depth - 1, by omega⟩
   have hm : (method (P.types.size + Made.depth) d u mn).run P w = .ok (g, u) w := by
    rw [hfu]
    simp only [method, typeInfo, Sem.run_bind, run_program, Result.andThen_ok, q1, Sem.run_pure, q2, q3, follow, q4, receiverAt, run_underlying q5]
    cases D <;> first | exact absurd rfl (q6 _) | rfl
   simp only [resolve, e, Sem.run_bind, Sem.run_pure, Result.andThen_ok, invoke]
   have hex : (#[Value.iface d u] ++ xs.map a.eval)[0]? = some (Value.iface d u) := arr_hd _ _
   simp only [hex, callMethod, Sem.run_bind, run_program, Result.andThen_ok, hm, call hf]
   have hq : #[u] ++ (#[Value.iface d u] ++ xs.map a.eval).extract 1 (#[Value.iface d u] ++ xs.map a.eval).size = ([u] ++ (xs.toList.map a.eval ++ [])).toArray := by rw [arr_tl, Array.toList_map]
   rw [hq]
  ·exact he.elim
 ·exact he.elim
theorem news_g : ∀ (obs : List Ob) (f : FS) (key : Nat), (f.news key obs).g = f.g
 | [], f, key => rfl
 | o :: obs, f, key => by unfold FS.news; rw [news_g]; rfl
def PVs (w : World) (S : Nat → Prop) (V : Nat → Value) (sh : Sh) : List PV → List Value → Prop
 | [], [] => True
 | p :: l, v :: vs => PV1 w S V sh p v ∧ PVs w S V sh l vs
 | _, _ => False
theorem nid_ids {o : Ob} (h : o.t.nid = true) : idsOf o = [] := by
 obtain ⟨e, t, xs, m⟩ := o
 cases t <;> first | rfl | cases h
theorem newsR {n : Nat} (hn : ∀ b, n ≤ b → n0 b) : ∀ {rs : List RV} {vs : List Value} {key : Nat} {f : FS} {V : Nat → Value} {B : Nat → Prop} {Fk : Nat → Prop}, RelC n0 w0 S0 N Fk f a w S V → (∀ i, i < (obsOf rs).length → Fk (key + 2 * i)) →
  (∀ k o b, f.o k = some o → o.mu = true → blk (V k) = some b → b < n ∨ B b) → Rets n w S B rs vs →
  ∃ V', RelC n0 w0 S0 N (fun j => Fk j ∧ ¬ (key ≤ j ∧ j < key + 2 * (obsOf rs).length)) (f.news key (obsOf rs)) a w S V' ∧ PVs w S V' (f.news key (obsOf rs)).sh (pvsOf key rs) vs ∧ (∀ k, k < key → V' k = V k) ∧
   ∀ p ∈ pvsOf key rs, ∀ k ∈ p.keys, key ≤ k ∧ k < key + 2 * (obsOf rs).length ∧ Fk k
 | [], [], key, f, V, B, Fk, h, hk, hB, hr => ⟨V, h.keys (fun j hj => hj.1), trivial, fun _ _ => rfl, fun p hp => by cases hp⟩
 | (false, tv) :: rs, v :: vs, key, f, V, B, Fk, h, hk, hB, hr => by
  obtain ⟨V', r1, r2, r3, r4⟩ := newsR hn (rs := rs) (vs := vs) h hk hB hr.2
  refine ⟨V', r1, ⟨hr.1, r2⟩, r3, fun p hp => ?_⟩
  rcases List.mem_cons.1 hp with rfl | hp
  ·intro k hk; cases hk
  ·exact r4 p hp
 | (true, ⟨.sl e t, xs⟩) :: rs, v :: vs, key, f, V, B, Fk, h, hk, hB, hr => by
  obtain ⟨⟨hni, h1⟩, h3, h4⟩ := hr
  have hlen : (obsOf ((true, ⟨.sl e t, xs⟩) :: rs)).length = (obsOf rs).length + 1 := rfl
  have hkk : Fk key := hk 0 (by rw [hlen]; omega)
  have hev := h.fe _ hkk
  have hids : idsOf ⟨e, t, xs, true⟩ = [] := nid_ids hni
  have hob : OR w S V ⟨e, t, xs, true⟩ v := OR_mono (fun _ h => h) (fun _ _ => rfl) (fun _ _ _ => rfl) (fun i hi => by rw [hids] at hi; cases hi) h1
  have hnew := h.new (k := key) (o := ⟨e, t, xs, true⟩) (v := v) hkk hob (fun i hi => by rw [hids] at hi; cases hi) (fun _ b hb => ⟨hn b (h3 b hb).1, (h3 b hb).2.1, fun k' o' e' hm q => by
   rcases hB k' o' b e' hm q with q1 | q1
   ·have := (h3 b hb).1; omega
   ·exact (h3 b hb).2.2 q1⟩)
  obtain ⟨V', r1, r2, r3, r4⟩ := newsR hn (rs := rs) (vs := vs) (key := key + 2) (B := fun b => B b ∨ blk v = some b) hnew (fun i hi => ⟨by have := hk (i + 1) (by rw [hlen]; omega); rw [show key + 2 * (i + 1) = key + 2 + 2 * i by omega] at this; exact this, by omega⟩) (fun k o b e' hm hb => by
   by_cases q : k = key
   ·subst q; rw [upd_self] at hb; exact .inr (.inr hb)
   ·have e2 : f.o k = some o := by simpa [FS.new, upd, q] using e'
    rw [show upd V key v k = V k by simp [upd, q]] at hb
    exact (hB k o b e2 hm hb).imp id .inl) h4
  refine ⟨V', r1.keys (fun j hj => ⟨⟨hj.1, fun e => hj.2 (by rw [hlen]; omega)⟩, fun e => hj.2 (by rw [hlen]; omega)⟩), ⟨?_, r2⟩, fun k hk => by rw [r3 k (by omega)]; simp [upd, show k ≠ key by omega], fun p hp => ?_⟩
  ·intro n' t' e'
   rw [r3 key (by omega), upd_self]
  ·rcases List.mem_cons.1 hp with rfl | hp
   ·intro k hk; simp [PV.keys] at hk; subst hk; rw [hlen]; exact ⟨Nat.le_refl _, by omega, hkk⟩
   ·intro k hk; have := r4 p hp k hk; rw [hlen]; exact ⟨by omega, by omega, this.2.2.1⟩
 | (true, ⟨.int _, _⟩) :: _, _ :: _, _, _, _, _, _, _, _, _, hr => hr.elim
 | (true, ⟨.bool, _⟩) :: _, _ :: _, _, _, _, _, _, _, _, _, hr => hr.elim
 | (true, ⟨.str, _⟩) :: _, _ :: _, _, _, _, _, _, _, _, _, hr => hr.elim
 | (true, ⟨.pr _ _, _⟩) :: _, _ :: _, _, _, _, _, _, _, _, _, hr => hr.elim
 | (true, ⟨.un, _⟩) :: _, _ :: _, _, _, _, _, _, _, _, _, hr => hr.elim
 | (true, ⟨.rf _, _⟩) :: _, _ :: _, _, _, _, _, _, _, _, _, hr => hr.elim
 | (true, ⟨.fn _ _ _, _⟩) :: _, _ :: _, _, _, _, _, _, _, _, _, hr => hr.elim
 | (true, ⟨.ifc _ _, _⟩) :: _, _ :: _, _, _, _, _, _, _, _, _, hr => hr.elim
 | (true, ⟨.id _ _, _⟩) :: _, _ :: _, _, _, _, _, _, _, _, _, hr => hr.elim
 | (true, ⟨.mp _ _, _⟩) :: _, _ :: _, _, _, _, _, _, _, _, _, hr => hr.elim
 | [], _ :: _, _, _, _, _, _, _, _, _, hr => hr.elim
 | _ :: _, [], _, _, _, _, _, _, _, _, hr => by
  rename_i r _ _ _ _ _ _ _ _ _
  obtain ⟨b, t, x⟩ := r
  cases b <;> cases t <;> exact hr.elim
theorem PVs_tup {sh : Sh} : ∀ {l : List PV} {vs : List Value}, PVs w S V sh l vs → PVl w S V sh (tupOf l) vs
 | [], [], _ => rfl
 | p :: l, v :: vs, ⟨h1, h2⟩ => ⟨v, vs, rfl, h1, PVs_tup h2⟩
 | [], _ :: _, h => h.elim
 | _ :: _, [], h => h.elim
theorem PVs_ret {sh : Sh} {l : List PV} {vs : List Value} (h : PVs w S V sh l vs) : PVr w S V sh (pvOf l) (retv vs) := by
 match l, vs, h with
 | [], [], _ => rfl
 | [p], [v], h => exact PV1_r h.1
 | p :: q :: l, v :: u :: vs, h => exact ⟨_, rfl, PVs_tup h⟩
 | [], _ :: _, h => exact h.elim
 | _ :: _, [], h => exact h.elim
 | [_], _ :: _ :: _, h => exact h.2.elim
 | _ :: _ :: _, [_], h => exact h.2.elim
theorem tup_keys : ∀ {l : List PV} {k : Nat}, k ∈ (tupOf l).keys → ∃ p ∈ l, k ∈ p.keys
 | [], k, h => by cases h
 | p :: l, k, h => by
  simp only [tupOf, PV.keys, List.mem_append] at h
  rcases h with h | h
  ·exact ⟨p, List.mem_cons_self, h⟩
  ·obtain ⟨q, q1, q2⟩ := tup_keys h; exact ⟨q, List.mem_cons_of_mem _ q1, q2⟩
theorem pvOf_keys {l : List PV} {k : Nat} (h : k ∈ (pvOf l).keys) : ∃ p ∈ l, k ∈ p.keys := by
 match l, h with
 | [], h => cases h
 | [p], h => exact ⟨p, List.mem_cons_self, h⟩
 | p :: q :: l, h => exact tup_keys h
theorem Rets_flat {n : Nat} (hS : ∀ b, S b → b < n) : ∀ {rs : List RV} {vs : List Value} {B : Nat → Prop}, flatR rs = true → Rets n w S' B rs vs → Rets n w S B rs vs
 | [], [], _, _, _ => trivial
 | (false, tv) :: rs, v :: vs, B, hf, h => by
  simp only [flatR, Bool.and_eq_true] at hf
  obtain ⟨⟨cs, h1, h2⟩, h3⟩ := h
  exact ⟨⟨cs, Cs_flat hf.1 h1, h2⟩, Rets_flat hS hf.2 h3⟩
 | (true, ⟨.sl e t, xs⟩) :: rs, v :: vs, B, hf, h => by
  simp only [flatR, RV.flat, Bool.and_eq_true] at hf
  obtain ⟨⟨hn, h1⟩, h3, h4⟩ := h
  rw [OR_own (o := ⟨e, t, xs, true⟩) hf.1.2 rfl] at h1
  obtain ⟨cs, h1, h2⟩ := h1
  refine ⟨⟨hn, ?_⟩, fun b hb => ⟨(h3 b hb).1, fun hs => by have := (h3 b hb).1; have := hS b hs; omega, (h3 b hb).2.2⟩, Rets_flat hS hf.2 h4⟩
  rw [OR_own (o := ⟨e, t, xs, true⟩) hf.1.2 rfl]
  exact ⟨cs, h1, Fl_imp (fun _ _ => Cs_flat hf.1.1) h2⟩
 | (true, ⟨.int _, _⟩) :: _, _ :: _, _, _, hr => hr.elim
 | (true, ⟨.bool, _⟩) :: _, _ :: _, _, _, hr => hr.elim
 | (true, ⟨.str, _⟩) :: _, _ :: _, _, _, hr => hr.elim
 | (true, ⟨.pr _ _, _⟩) :: _, _ :: _, _, _, hr => hr.elim
 | (true, ⟨.un, _⟩) :: _, _ :: _, _, _, hr => hr.elim
 | (true, ⟨.rf _, _⟩) :: _, _ :: _, _, _, hr => hr.elim
 | (true, ⟨.fn _ _ _, _⟩) :: _, _ :: _, _, _, hr => hr.elim
 | (true, ⟨.ifc _ _, _⟩) :: _, _ :: _, _, _, hr => hr.elim
 | (true, ⟨.id _ _, _⟩) :: _, _ :: _, _, _, hr => hr.elim
 | (true, ⟨.mp _ _, _⟩) :: _, _ :: _, _, _, hr => hr.elim
 | [], _ :: _, _, _, hr => hr.elim
 | r :: _, [], _, _, hr => by obtain ⟨b, t, x⟩ := r; cases b <;> cases t <;> exact hr.elim
theorem Rets_ext {n : Nat} (hS : ∀ b, S b → b < n) : ∀ {rs : List RV} {vs : List Value} {B : Nat → Prop}, Rets n w S' B rs vs → Rets n w (fun b => S b ∨ S' b) B rs vs
 | [], [], _, _ => trivial
 | (false, tv) :: rs, v :: vs, B, h => ⟨Vs_mono (fun _ h => .inr h) (fun _ _ => rfl) h.1, Rets_ext hS h.2⟩
 | (true, ⟨.sl e t, xs⟩) :: rs, v :: vs, B, h => by
  obtain ⟨⟨hn, h1⟩, h3, h4⟩ := h
  refine ⟨⟨hn, OR_mono (fun _ h => .inr h) (fun _ _ => rfl) (fun _ _ _ => rfl) (fun _ _ => rfl) h1⟩, fun b hb => ⟨(h3 b hb).1, fun hs => by
   rcases hs with hs | hs
   ·have := (h3 b hb).1; have := hS b hs; omega
   ·exact (h3 b hb).2.1 hs, (h3 b hb).2.2⟩, Rets_ext hS h4⟩
 | (true, ⟨.int _, _⟩) :: _, _ :: _, _, hr => hr.elim
 | (true, ⟨.bool, _⟩) :: _, _ :: _, _, hr => hr.elim
 | (true, ⟨.str, _⟩) :: _, _ :: _, _, hr => hr.elim
 | (true, ⟨.pr _ _, _⟩) :: _, _ :: _, _, hr => hr.elim
 | (true, ⟨.un, _⟩) :: _, _ :: _, _, hr => hr.elim
 | (true, ⟨.rf _, _⟩) :: _, _ :: _, _, hr => hr.elim
 | (true, ⟨.fn _ _ _, _⟩) :: _, _ :: _, _, hr => hr.elim
 | (true, ⟨.ifc _ _, _⟩) :: _, _ :: _, _, hr => hr.elim
 | (true, ⟨.id _ _, _⟩) :: _, _ :: _, _, hr => hr.elim
 | (true, ⟨.mp _ _, _⟩) :: _, _ :: _, _, hr => hr.elim
 | [], _ :: _, _, hr => hr.elim
 | r :: _, [], _, hr => by obtain ⟨b, t, x⟩ := r; cases b <;> cases t <;> exact hr.elim
theorem fCal_ok (hTE : ∀ e t, TE e = some t → TyOk P t e) (h : RelC n0 w0 S0 N Fk f a w S V) (hk : ∀ i, i < 4 → Fk (key + 2 * i)) {o : Oper} {cl : Callee} {xs : Array Operand} {Ts : Array TypeId} {dr : Bool} (ho : o.op = .call { callee := cl, args := xs, argTypes := Ts })
  (hd : ∀ i, o.dst = some i → i < N) (he : fCal P TE dr key o.dst cl xs.toList Ts.toList f K) {next : Act → World → Prop} {Q : Exit → Act → World → Prop} (hnext : ∀ v w', Step n0 w0 S0 N (lessK Fk key) K (a.put o.dst v) w' → next (a.put o.dst v) w') (r : Option Nat) (n : Nat) : o.wpIn (rnd r) n P a w next Q := by
 obtain ⟨S1, hz, hSS⟩ := h.fzo' xs.toList
 unfold fCal at he
 obtain ⟨g, pre, post, he, hcall⟩ := cle_ok h he
 obtain ⟨al, ⟨rs, ⟨hfn, hcon⟩, hlen, hK⟩, hargs⟩ := rds_ok hz (fun x hx => hx) he
 obtain ⟨l, m, hl, hm, hrun⟩ := hcall hfn xs Ts o.type
 have mono : ∀ {al : List TV} {vs : List Value}, Args w S al vs → Args w S1 al vs := fun {al} => by
  induction al with
  | nil => intro vs h; cases vs <;> exact h
  | cons tv al ih => intro vs h; cases vs with
   | nil => exact h
   | cons v vs => exact ⟨Vs_mono hSS (fun _ _ => rfl) h.1, ih h.2⟩
 have hc := hcon w S1 (l ++ (xs.toList.map a.eval ++ m)) hz.lt (Args_app (mono hl) (Args_app hargs (mono hm)))
 have hex : (execOp a.eval o).run P w = .ok (.enter g (l ++ (xs.toList.map a.eval ++ m)).toArray) w := by
  unfold execOp
  simp only [ho]
  exact hrun
 have hpk : ∀ {f' : FS} {k : Nat}, k % 2 = 0 → (key ≤ k ∧ k < key + 2 * (obsOf rs).length) → ¬ Fr (fun j => Fk j ∧ ¬ (key ≤ j ∧ j < key + 2 * (obsOf rs).length)) f' k := fun {f' k} h0 h1 => by
  rintro (q | ⟨i, _, q⟩)
  ·exact q.2 h1
  ·rw [q] at h0; unfold od at h0; omega
 refine ⟨fun _ _ => trivial, ?_⟩
 rw [Oper.semAt_eq _ _ _ (by rw [ho]; intro c hc'; cases hc'), hex, Oper.uponIn_enter]
 refine ⟨fun q => (by cases q), CallsIn.mono (callsIn_rnd hc) ?_⟩
 rintro e w' ⟨vs, rfl, hb, S', s1, s2, hr⟩
 show next _ _
 apply hnext
 split at hK
 ·rename_i hfl
  have hg := h.grow hb
  obtain ⟨V', r1, r2, r3, r4⟩ := newsR (n := w.heap.size) (key := key) h.size hg (fun i hi => hk i (by omega)) (fun k o b e hm hb' => .inl (h.ow k o e hm b hb').2) (Rets_flat h.lt hfl hr)
  refine ⟨_, S, V', hK, (r1.put (PVs_ret r2) (fun k hk' => ?_) o.dst hd).keys (fun j hj => ⟨hj.1, fun e => hj.2 (by omega)⟩)⟩
  obtain ⟨p, p1, p2⟩ := pvOf_keys hk'
  have := r4 p p1 k p2
  exact hpk (h.fe _ this.2.2) ⟨this.1, this.2.1⟩
 ·obtain ⟨hdr, hK⟩ := hK
  have hg := hz.grow hb
  have hx := hg.ext (S' := S') s2 (fun b hb' hn' => by
   have hbs : b < w.heap.size := by
    rcases Nat.lt_or_ge b w.heap.size with q | q
    ·exact q
    ·exact absurd (h.size b q) hn'
   exact hz.old b (s1 b hbs hb') hn') (fun k o b e hm hb' hs => by
   have := hz.ow k o e hm b hb'
   exact hz.sp k o e hm b hb' (s1 b this.2 hs))
  obtain ⟨V', r1, r2, r3, r4⟩ := newsR (n := w.heap.size) (key := key) h.size hx (fun i hi => hk i (by omega)) (fun k o b e hm hb' => .inl (hz.ow k o e hm b hb').2) (Rets_ext hz.lt hr)
  refine ⟨_, _, V', hK, (r1.put (PVs_ret r2) (fun k hk' => ?_) o.dst hd).keys (fun j hj => ⟨hj.1, fun e => hj.2 (by omega)⟩)⟩
  obtain ⟨p, p1, p2⟩ := pvOf_keys hk'
  have := r4 p p1 k p2
  exact hpk (h.fe _ this.2.2) ⟨this.1, this.2.1⟩
end
end Go.TT
end
section
namespace Go.TT
open Go.RowKit
set_option linter.unusedVariables false
set_option linter.unusedSimpArgs false
theorem as_ex {y : TV} {t : Ty} {K : t.den → Prop} (h : y.ofT t K) : ∃ z, (∀ K' : t.den → Prop, K' z → y.ofT t K') ∧ K z := by
 obtain ⟨h, k⟩ := h; exact ⟨_, fun K' k' => ⟨h, k'⟩, k⟩
theorem rd_ex {t : Ty} {a : Arg} {K : t.den → Prop} (h : rdc t a K) : ∃ z, (∀ K' : t.den → Prop, K' z → rdc t a K') ∧ K z := by
 obtain ⟨p, o⟩ := a
 cases p <;> simp only [rdc] at h <;> try exact h.elim
 ·obtain ⟨z, z1, z2⟩ := as_ex h; exact ⟨z, z1, z2⟩
 ·cases t <;> simp only at h <;> try exact h.elim
  exact ⟨[], fun K' k => k, h⟩
 ·cases o with
  | none => exact h.elim
  | some o => obtain ⟨z, z1, z2⟩ := as_ex h.2; exact ⟨z, fun K' k => ⟨h.1, z1 K' k⟩, z2⟩
 ·cases o with
  | none => exact h.elim
  | some o => obtain ⟨z, z1, z2⟩ := as_ex h.2; exact ⟨z, fun K' k => ⟨h.1, z1 K' k⟩, z2⟩
 ·cases o with
  | none => exact h.elim
  | some o => obtain ⟨z, z1, z2⟩ := as_ex h.2; exact ⟨z, fun K' k => ⟨h.1, z1 K' k⟩, z2⟩
theorem shd_ex {t : Ty} {a : Arg} {K : t.den → Prop} (h : shd t a K) : ∃ z, (∀ K' : t.den → Prop, K' z → shd t a K') ∧ K z := by
 obtain ⟨p, o⟩ := a
 cases p <;> simp only [shd] at h <;> try exact h.elim
 ·obtain ⟨z, z1, z2⟩ := as_ex h; exact ⟨z, z1, z2⟩
 ·cases t <;> simp only at h <;> try exact h.elim
  exact ⟨[], fun K' k => k, h⟩
 ·cases o with
  | none => exact h.elim
  | some o => obtain ⟨z, z1, z2⟩ := as_ex h.2; exact ⟨z, fun K' k => ⟨h.1, z1 K' k⟩, z2⟩
 ·cases o with
  | none => exact h.elim
  | some o => obtain ⟨z, z1, z2⟩ := as_ex h.2; exact ⟨z, fun K' k => ⟨h.1, z1 K' k⟩, z2⟩
 ·obtain ⟨z, z1, z2⟩ := as_ex h; exact ⟨z, z1, z2⟩
 ·cases o with
  | none => exact h.elim
  | some o => obtain ⟨z, z1, z2⟩ := as_ex h.2; exact ⟨z, fun K' k => ⟨h.1, z1 K' k⟩, z2⟩
 ·cases o with
  | none => exact h.elim
  | some o => obtain ⟨z, z1, z2⟩ := as_ex h.2; exact ⟨z, fun K' k => ⟨h.1, z1 K' k⟩, z2⟩
theorem tvA_ex {a : Arg} {K : TV → Prop} (h : tvA a K) : ∃ z, (∀ K' : TV → Prop, K' z → tvA a K') ∧ K z := by
 obtain ⟨p, o⟩ := a
 cases p <;> simp only [tvA] at h <;> first
  | exact h.elim
  | exact ⟨_, fun K' k => k, h⟩
  | (cases o with
   | none => exact h.elim
   | some o => exact ⟨_, fun K' k => ⟨h.1, k⟩, h.2⟩)
theorem tvs_ex : ∀ {al : List Arg} {K : List TV → Prop}, tvs al K → ∃ z, (∀ K' : List TV → Prop, K' z → tvs al K') ∧ K z
 | [], K, h => ⟨[], fun K' k => k, h⟩
 | a :: al, K, h => by
  obtain ⟨y, y1, y2⟩ := tvA_ex h
  obtain ⟨z, z1, z2⟩ := tvs_ex (al := al) y2
  exact ⟨y :: z, fun K' k => y1 _ (z1 _ k), z2⟩
theorem rd1_ex {TE : TypeId → Option Ty} {T : TypeId} {a : Arg} {K : TV → Prop} (h : rd1 TE T a K) : ∃ z, (∀ K' : TV → Prop, K' z → rd1 TE T a K') ∧ K z := by
 obtain ⟨p, o⟩ := a
 cases p <;> simp only [rd1] at h ⊢ <;> first
  | exact h.elim
  | exact ⟨_, fun K' k => k, h⟩
  | (cases o with
   | none => exact h.elim
   | some o => exact ⟨_, fun K' k => ⟨h.1, k⟩, h.2⟩)
  | (split at h <;> first | exact h.elim | (rename_i e; exact ⟨_, fun K' k => by first | exact k | (rw [e]; exact k), h⟩))
theorem st_ex : ∀ {t : Ty} {fs : List Nat} {x : t.den} {y : TV} {K : t.den → Prop}, t.st fs x y K → ∃ z, (∀ K' : t.den → Prop, K' z → t.st fs x y K') ∧ K z
 | t, [], x, y, K, h => by
  unfold Ty.st at h
  obtain ⟨z, z1, z2⟩ := as_ex h
  exact ⟨z, fun K' k => by unfold Ty.st; exact z1 K' k, z2⟩
 | .pr a b, 0 :: fs, x, y, K, h => by
  obtain ⟨z, z1, z2⟩ := st_ex (t := a) (fs := fs) h
  exact ⟨_, fun K' k => z1 _ k, z2⟩
 | .pr a b, (n + 1) :: fs, x, y, K, h => by
  obtain ⟨z, z1, z2⟩ := st_ex (t := b) (fs := n :: fs) h
  exact ⟨_, fun K' k => z1 _ k, z2⟩
 | .int _, _ :: _, _, _, _, h => by simp [Ty.st] at h
 | .bool, _ :: _, _, _, _, h => by simp [Ty.st] at h
 | .str, _ :: _, _, _, _, h => by simp [Ty.st] at h
 | .sl _ _, _ :: _, _, _, _, h => by simp [Ty.st] at h
 | .un, _ :: _, _, _, _, h => by simp [Ty.st] at h
 | .rf _, _ :: _, _, _, _, h => by simp [Ty.st] at h
 | .fn _ _ _, _ :: _, _, _, _, h => by simp [Ty.st] at h
 | .ifc _ _, _ :: _, _, _, _, h => by simp [Ty.st] at h
 | .id _ _, _ :: _, _, _, _, h => by simp [Ty.st] at h
 | .mp _ _, _ :: _, _, _, _, h => by simp [Ty.st] at h
theorem lst_ex {t : Ty} : ∀ {al : List Arg} {K : List t.den → Prop}, lst t al K → ∃ z, (∀ K' : List t.den → Prop, K' z → lst t al K') ∧ K z
 | [], K, h => ⟨[], fun K' k => k, h⟩
 | a :: al, K, h => by
  obtain ⟨y, y1, y2⟩ := shd_ex h
  obtain ⟨z, z1, z2⟩ := lst_ex (al := al) y2
  exact ⟨y :: z, fun K' k => y1 _ (z1 _ k), z2⟩
theorem bld_ex {t : Ty} : ∀ {ix : List Nat} {al : List Arg} {x : t.den} {K : t.den → Prop}, bld t ix al x K → ∃ z, (∀ K' : t.den → Prop, K' z → bld t ix al x K') ∧ K z
 | [], [], x, K, h => by unfold bld at h; exact ⟨x, fun K' k => by unfold bld; exact k, h⟩
 | i :: ix, a :: al, x, K, h => by
  unfold bld at h
  split at h
  ·rename_i q hq
   obtain ⟨y, y1, y2⟩ := shd_ex h
   obtain ⟨z, z1, z2⟩ := st_ex y2
   obtain ⟨r, r1, r2⟩ := bld_ex (ix := ix) (al := al) z2
   exact ⟨r, fun K' k => by unfold bld; rw [hq]; exact y1 _ (z1 _ (r1 _ k)), r2⟩
  ·exact h.elim
 | [], _ :: _, _, _, h => by unfold bld at h; exact h.elim
 | _ :: _, [], _, _, h => by unfold bld at h; exact h.elim
theorem bin_ex {op : BinOp} {k k' : IntKind} {a b : Int} {K : TV → Prop} (h : bin op k k' a b K) : ∃ r, (∀ K' : TV → Prop, K' r → bin op k k' a b K') ∧ K r := by
 cases op <;> simp only [bin] at h ⊢ <;> first
  | exact ⟨_, fun K' k => ⟨h.1, h.2.1, k⟩, h.2.2⟩
  | exact ⟨_, fun K' k => ⟨h.1, k⟩, h.2⟩
def Ex (key : Nat) (al : List Arg) (F : KK → Prop) (K : KK) : Prop := ∃ p obs, (∀ K' : KK, K' p obs → F K') ∧ K p obs ∧ (∀ k ∈ p.keys, k = key ∨ (∃ x ∈ al, k ∈ x.1.keys) ∨ k % 2 = 1) ∧ obs.length ≤ 1
theorem nth_keys : ∀ {p : PV} {i : Nat} {q : PV} {k : Nat}, p.nth i = some q → k ∈ q.keys → k ∈ p.keys
 | .pair a b, 0, q, k, e, h => by
  have e : some a = some q := e
  injection e with e; subst e; simp [PV.keys, h]
 | .pair a b, n + 1, q, k, e, h => by
  have := nth_keys (p := b) (i := n) e h
  simp [PV.keys, this]
 | .bot, _, _, _, e, _ => by simp [PV.nth] at e
 | .ro _ _, _, _, _, e, _ => by simp [PV.nth] at e
 | .nil, _, _, _, e, _ => by simp [PV.nth] at e
 | .own _, _, _, _, e, _ => by simp [PV.nth] at e
 | .ptr _ _ _, _, _, _, e, _ => by simp [PV.nth] at e
 | .cel _ _, _, _, _, e, _ => by simp [PV.nth] at e
 | .vw _ _ _, _, _, _, e, _ => by simp [PV.nth] at e
 | .one _ _, _, _, _, e, _ => by simp [PV.nth] at e
 | .tnil, _, _, _, e, _ => by simp [PV.nth] at e
theorem noKeys {p : PV} {key : Nat} {al : List Arg} (h : p.keys = []) : ∀ k ∈ p.keys, k = key ∨ (∃ x ∈ al, k ∈ x.1.keys) ∨ k % 2 = 1 := fun k hk => by rw [h] at hk; cases hk
theorem ownKey {key : Nat} {al : List Arg} : ∀ k ∈ (PV.own key).keys, k = key ∨ (∃ x ∈ al, k ∈ x.1.keys) ∨ k % 2 = 1 := fun k hk => .inl (by simpa [PV.keys] using hk)
theorem ptrKey {key : Nat} {al : List Arg} {i : Int} {fs : List Nat} : ∀ k ∈ (PV.ptr key i fs).keys, k = key ∨ (∃ x ∈ al, k ∈ x.1.keys) ∨ k % 2 = 1 := fun k hk => .inl (by simpa [PV.keys] using hk)
theorem argKeys {p : PV} {key : Nat} {al : List Arg} (h : ∀ k ∈ p.keys, ∃ x ∈ al, k ∈ x.1.keys) : ∀ k ∈ p.keys, k = key ∨ (∃ x ∈ al, k ∈ x.1.keys) ∨ k % 2 = 1 := fun k hk => .inr (.inl (h k hk))
theorem roSl_ex {e : TypeId} {t : Ty} {xs : List t.den} {lo hi : Bool} {al : List Arg} {K : KK} {key : Nat} {as0 : List Arg} (h : roSl e t xs lo hi al K) : Ex key as0 (roSl e t xs lo hi al) K := by
 unfold roSl at h
 split at h
 ·split at h
  ·exact ⟨_, _, fun K' k => by unfold roSl; exact k, h, (by first | exact noKeys rfl | exact ownKey | exact ptrKey | exact argKeys fun k hk => ⟨_, List.mem_cons_self, hk⟩), (by simp)⟩
  ·exact h.elim
 ·split at h
  ·exact ⟨_, _, fun K' k => by unfold roSl; exact ⟨h.1, h.2.1, k⟩, h.2.2, (by first | exact noKeys rfl | exact ownKey | exact ptrKey | exact argKeys fun k hk => ⟨_, List.mem_cons_self, hk⟩), (by simp)⟩
  ·exact ⟨_, _, fun K' k => by unfold roSl; exact ⟨h.1, h.2.1, k⟩, h.2.2, (by first | exact noKeys rfl | exact ownKey | exact ptrKey | exact argKeys fun k hk => ⟨_, List.mem_cons_self, hk⟩), (by simp)⟩
  ·exact h.elim
 ·split at h
  ·exact ⟨_, _, fun K' k => by unfold roSl; exact ⟨h.1, h.2.1, h.2.2.1, k⟩, h.2.2.2, (by first | exact noKeys rfl | exact ownKey | exact ptrKey | exact argKeys fun k hk => ⟨_, List.mem_cons_self, hk⟩), (by simp)⟩
  ·exact h.elim
 ·exact h.elim
theorem vwSl_exG {k n l0 : Nat} {lo hi : Bool} {al : List Arg} {K : KK} {key : Nat} {as0 : List Arg} (h : vwSl k n l0 lo hi al K) (hk : ∃ x ∈ as0, k ∈ x.1.keys) : Ex key as0 (vwSl k n l0 lo hi al) K := by
 have hks : ∀ a b, ∀ j ∈ (PV.vw k a b).keys, j = key ∨ (∃ x ∈ as0, j ∈ x.1.keys) ∨ j % 2 = 1 := fun a b j hj => .inr (.inl (by rw [List.mem_singleton.1 hj]; exact hk))
 unfold vwSl at h
 split at h
 ·split at h
  ·exact ⟨_, _, fun K' k => by unfold vwSl; exact k, h, hks _ _, (by simp)⟩
  ·exact h.elim
 ·split at h
  ·exact ⟨_, _, fun K' k => by unfold vwSl; exact ⟨h.1, h.2.1, k⟩, h.2.2, hks _ _, (by simp)⟩
  ·exact ⟨_, _, fun K' k => by unfold vwSl; exact ⟨h.1, h.2.1, k⟩, h.2.2, hks _ _, (by simp)⟩
  ·exact h.elim
 ·split at h
  ·exact ⟨_, _, fun K' k => by unfold vwSl; exact ⟨h.1, h.2.1, h.2.2.1, k⟩, h.2.2.2, hks _ _, (by simp)⟩
  ·exact h.elim
 ·exact h.elim
theorem vwSl_ex {k n l0 : Nat} {lo hi : Bool} {al : List Arg} {K : KK} {key : Nat} {as0 : List Arg} {o : Option Ob} (h : vwSl k n l0 lo hi al K) (hk : (PV.own k, o) ∈ as0) : Ex key as0 (vwSl k n l0 lo hi al) K := vwSl_exG h ⟨_, hk, List.mem_cons_self⟩
theorem vwSl_ex' {k n l0 i j : Nat} {lo hi : Bool} {al : List Arg} {K : KK} {key : Nat} {as0 : List Arg} {o : Option Ob} (h : vwSl k n l0 lo hi al K) (hk : (PV.vw k i j, o) ∈ as0) : Ex key as0 (vwSl k n l0 lo hi al) K := vwSl_exG h ⟨_, hk, List.mem_cons_self⟩
theorem roSl3_ex {e : TypeId} {t : Ty} {xs : List t.den} {lo : Bool} {al : List Arg} {K : KK} {key : Nat} {as0 : List Arg} (h : roSl3 e t xs lo al K) : Ex key as0 (roSl3 e t xs lo al) K := by
 unfold roSl3 at h
 split at h
 ·exact ⟨_, _, fun K' k => by unfold roSl3; exact ⟨h.1, h.2.1, h.2.2.1, h.2.2.2.1, k⟩, h.2.2.2.2, noKeys rfl, (by simp)⟩
 ·exact ⟨_, _, fun K' k => by unfold roSl3; exact ⟨h.1, h.2.1, h.2.2.1, h.2.2.2.1, h.2.2.2.2.1, k⟩, h.2.2.2.2.2, noKeys rfl, (by simp)⟩
 ·exact h.elim
theorem ev_ex {TE : TypeId → Option Ty} {key : Nat} {op : Op} {al : List Arg} {K : KK} (h : ev TE key op al K) : Ex key al (ev TE key op al) K := by
 have pass : ∀ {F : KK → Prop}, (∀ K', F K' → ev TE key op al K') → Ex key al F K → Ex key al (ev TE key op al) K := fun hF ⟨p, obs, h1, h2⟩ => ⟨p, obs, fun K' k => hF K' (h1 K' k), h2⟩
 unfold ev at h
 split at h
 ·refine pass (F := aMove al) (fun K' k => by unfold ev; exact k) ?_
  unfold aMove at h ⊢; split at h
  ·exact ⟨_, _, fun K' k => k, h, (by first | exact noKeys rfl | exact ownKey | exact ptrKey | exact argKeys fun k hk => ⟨_, List.mem_cons_self, hk⟩), (by simp)⟩
  ·exact h.elim
 ·refine pass (F := aMove al) (fun K' k => by unfold ev; exact k) ?_
  unfold aMove at h ⊢; split at h
  ·exact ⟨_, _, fun K' k => k, h, (by first | exact noKeys rfl | exact ownKey | exact ptrKey | exact argKeys fun k hk => ⟨_, List.mem_cons_self, hk⟩), (by simp)⟩
  ·exact h.elim
 ·refine pass (F := aPick al) (fun K' k => by unfold ev; exact k) ?_
  unfold aPick at h ⊢; split at h
  ·exact ⟨_, _, fun K' k => k, h, (argKeys fun k hk => by
   split at hk
   ·exact ⟨_, List.mem_cons_of_mem _ List.mem_cons_self, hk⟩
   ·exact ⟨_, List.mem_cons_of_mem _ (List.mem_cons_of_mem _ List.mem_cons_self), hk⟩), (by simp)⟩
  ·exact h.elim
 ·rename_i op _ _ _ _ 
  refine pass (F := aBin op al) (fun K' k => by unfold ev; exact k) ?_
  unfold aBin at h ⊢; split at h
  ·obtain ⟨r, r1, r2⟩ := bin_ex h; exact ⟨_, _, fun K' k => r1 _ k, r2, (by first | exact noKeys rfl | exact ownKey | exact ptrKey | exact argKeys fun k hk => ⟨_, List.mem_cons_self, hk⟩), (by simp)⟩
  ·split at h
   ·exact ⟨_, _, fun K' k => k, h, (by first | exact noKeys rfl | exact ownKey | exact ptrKey | exact argKeys fun k hk => ⟨_, List.mem_cons_self, hk⟩), (by simp)⟩
   ·exact ⟨_, _, fun K' k => k, h, (by first | exact noKeys rfl | exact ownKey | exact ptrKey | exact argKeys fun k hk => ⟨_, List.mem_cons_self, hk⟩), (by simp)⟩
   ·exact h.elim
  ·exact h.elim
 ·rename_i op _ _
  refine pass (F := aUn op al) (fun K' k => by unfold ev; exact k) ?_
  unfold aUn at h ⊢; split at h
  ·split at h
   ·exact ⟨_, _, fun K' k => k, h, (by first | exact noKeys rfl | exact ownKey | exact ptrKey | exact argKeys fun k hk => ⟨_, List.mem_cons_self, hk⟩), (by simp)⟩
   ·exact h.elim
  ·split at h
   ·exact ⟨_, _, fun K' k => k, h, (by first | exact noKeys rfl | exact ownKey | exact ptrKey | exact argKeys fun k hk => ⟨_, List.mem_cons_self, hk⟩), (by simp)⟩
   ·exact h.elim
  ·exact h.elim
 ·rename_i s d _
  refine pass (F := aConv TE s d al) (fun K' k => by unfold ev; exact k) ?_
  unfold aConv at h ⊢; split at h
  ·obtain ⟨h1, h⟩ := h
   split at h
   ·rename_i e; exact ⟨_, _, fun K' k => ⟨h1, by first | exact k | (rw [e]; exact k)⟩, h, (by first | exact noKeys rfl | exact ownKey | exact ptrKey | exact argKeys fun k hk => ⟨_, List.mem_cons_self, hk⟩), (by simp)⟩
   ·exact h.elim
  ·exact ⟨_, _, fun K' k => ⟨h.1, h.2.1, k⟩, h.2.2, (by first | exact noKeys rfl | exact ownKey | exact ptrKey | exact argKeys fun k hk => ⟨_, List.mem_cons_self, hk⟩), (by simp)⟩
  ·exact ⟨_, _, fun K' k => ⟨h.1, h.2.1, k⟩, h.2.2, (by first | exact noKeys rfl | exact ownKey | exact ptrKey | exact argKeys fun k hk => ⟨_, List.mem_cons_self, hk⟩), (by simp)⟩
  ·exact ⟨_, _, fun K' k => ⟨h.1, h.2.1, k⟩, h.2.2, (by first | exact noKeys rfl | exact ownKey | exact ptrKey | exact argKeys fun k hk => ⟨_, List.mem_cons_self, hk⟩), (by simp)⟩
  ·exact h.elim
 ·rename_i t _
  refine pass (F := aLoad TE t al) (fun K' k => by unfold ev; exact k) ?_
  unfold aLoad at h ⊢; split at h
  ·exact ⟨_, _, fun K' k => ⟨h.1, k⟩, h.2, (by first | exact noKeys rfl | exact ownKey | exact ptrKey | exact argKeys fun k hk => ⟨_, List.mem_cons_self, hk⟩), (by simp)⟩
  ·exact ⟨_, _, fun K' k => ⟨h.1, k⟩, h.2, (by first | exact noKeys rfl | exact ownKey | exact ptrKey | exact argKeys fun k hk => ⟨_, List.mem_cons_self, hk⟩), (by simp)⟩
  ·exact ⟨_, _, fun K' k => ⟨h.1, h.2.1, k⟩, h.2.2, (fun k hk => .inr (.inr (by rw [List.mem_singleton.1 hk]; exact h.2.1))), (by simp)⟩
  ·exact ⟨_, _, fun K' k => ⟨h.1, h.2.1, k⟩, h.2.2, (by first | exact noKeys rfl | exact ownKey | exact ptrKey | exact argKeys fun k hk => ⟨_, List.mem_cons_self, hk⟩), (by simp)⟩
  ·exact h.elim
 ·rename_i T _ _
  refine pass (F := aIdxA TE T al) (fun K' k => by unfold ev; exact k) ?_
  unfold aIdxA at h ⊢; split at h
  ·exact ⟨_, _, fun K' k => ⟨h.1, h.2.1, h.2.2.1, k⟩, h.2.2.2, (by first | exact noKeys rfl | exact ownKey | exact ptrKey | exact argKeys fun k hk => ⟨_, List.mem_cons_self, hk⟩), (by simp)⟩
  ·exact ⟨_, _, fun K' k => ⟨h.1, h.2.1, h.2.2.1, k⟩, h.2.2.2, (by first | exact noKeys rfl | exact ownKey | exact ptrKey | exact argKeys fun k hk => ⟨_, List.mem_cons_self, hk⟩), (by simp)⟩
  ·exact ⟨_, _, fun K' k => ⟨h.1, h.2.1, h.2.2.1, k⟩, h.2.2.2, (by first | exact noKeys rfl | exact ownKey | exact ptrKey | exact argKeys fun k hk => ⟨_, List.mem_cons_self, hk⟩), (by simp)⟩
  ·exact ⟨_, _, fun K' k => ⟨h.1, h.2.1, h.2.2.1, k⟩, h.2.2.2, (by first | exact noKeys rfl | exact ownKey | exact ptrKey | exact argKeys fun k hk => ⟨_, List.mem_cons_self, hk⟩), (by simp)⟩
  ·exact h.elim
 ·rename_i T _ n
  refine pass (F := aFldA TE T n al) (fun K' k => by unfold ev; exact k) ?_
  unfold aFldA at h ⊢; split at h
  ·exact ⟨_, _, fun K' k => ⟨h.1, h.2.1, k⟩, h.2.2, (by first | exact noKeys rfl | exact ownKey | exact ptrKey | exact argKeys fun k hk => ⟨_, List.mem_cons_self, hk⟩), (by simp)⟩
  ·exact ⟨_, _, fun K' k => ⟨h.1, h.2.1, k⟩, h.2.2, (by first | exact noKeys rfl | exact ownKey | exact ptrKey | exact argKeys fun k hk => ⟨_, List.mem_cons_self, hk⟩), (by simp)⟩
  ·split at h
   ·rename_i e; exact ⟨_, _, fun K' k => by first | exact ⟨h.1, h.2.1, k⟩ | (rw [e]; exact ⟨h.1, h.2.1, k⟩), h.2.2, (by first | exact noKeys rfl | exact ownKey | exact ptrKey | exact argKeys fun k hk => ⟨_, List.mem_cons_self, hk⟩), (by simp)⟩
   ·exact h.elim
  ·exact h.elim
 ·rename_i T _ n
  refine pass (F := aFld TE T n al) (fun K' k => by unfold ev; exact k) ?_
  unfold aFld at h ⊢; split at h
  ·exact ⟨_, _, fun K' k => ⟨h.1, h.2.1, k⟩, h.2.2, (by first | exact noKeys rfl | exact ownKey | exact ptrKey | exact argKeys fun k hk => ⟨_, List.mem_cons_self, hk⟩), (by simp)⟩
  ·exact h.elim
 ·rename_i T _ _
  refine pass (F := aIdx TE T al) (fun K' k => by unfold ev; exact k) ?_
  unfold aIdx at h ⊢; split at h
  ·exact ⟨_, _, fun K' k => ⟨h.1, h.2.1, h.2.2.1, k⟩, h.2.2.2, (by first | exact noKeys rfl | exact ownKey | exact ptrKey | exact argKeys fun k hk => ⟨_, List.mem_cons_self, hk⟩), (by simp)⟩
  ·exact h.elim
 ·rename_i T _ lo hi
  refine pass (F := aSli TE T lo.isSome hi.isSome al) (fun K' k => by unfold ev; exact k) ?_
  unfold aSli at h ⊢; split at h
  ·obtain ⟨p, obs, r1, r2⟩ := roSl_ex h.2; exact ⟨p, obs, fun K' k => ⟨h.1, r1 K' k⟩, r2⟩
  ·obtain ⟨h1, h⟩ := h
   split at h
   ·rename_i e; obtain ⟨p, obs, r1, r2⟩ := roSl_ex h; exact ⟨p, obs, fun K' k => by first | exact ⟨h1, r1 K' k⟩ | (rw [e]; exact ⟨h1, r1 K' k⟩), r2⟩
   ·rename_i e; obtain ⟨p, obs, r1, r2⟩ := vwSl_ex h (as0 := _) List.mem_cons_self; exact ⟨p, obs, fun K' k => by first | exact ⟨h1, r1 K' k⟩ | (rw [e]; exact ⟨h1, r1 K' k⟩), r2⟩
  ·obtain ⟨p, obs, r1, r2⟩ := vwSl_ex' h.2 (as0 := _) List.mem_cons_self; exact ⟨p, obs, fun K' k => ⟨h.1, r1 K' k⟩, r2⟩
  ·exact h.elim
 ·rename_i T _ lo _ _
  refine pass (F := aSli3 TE T lo.isSome al) (fun K' k => by unfold ev; exact k) ?_
  unfold aSli3 at h ⊢; split at h
  ·obtain ⟨p, obs, r1, r2⟩ := roSl3_ex h.2; exact ⟨p, obs, fun K' k => ⟨h.1, r1 K' k⟩, r2⟩
  ·obtain ⟨p, obs, r1, r2⟩ := roSl3_ex h.2.2; exact ⟨p, obs, fun K' k => ⟨h.1, h.2.1, r1 K' k⟩, r2⟩
  ·exact h.elim
 ·rename_i T _ _
  refine pass (F := aMake TE key T al) (fun K' k => by unfold ev; exact k) ?_
  unfold aMake at h ⊢; split at h
  ·split at h
   ·rename_i e; exact ⟨_, _, fun K' k => by first | exact ⟨h.1, h.2.1, h.2.2.1, k⟩ | (rw [e]; exact ⟨h.1, h.2.1, h.2.2.1, k⟩), h.2.2.2, (by first | exact noKeys rfl | exact ownKey | exact ptrKey | exact argKeys fun k hk => ⟨_, List.mem_cons_self, hk⟩), (by simp)⟩
   ·exact h.elim
  ·exact h.elim
 ·rename_i e
  refine pass (F := aAlloc TE key e al) (fun K' k => by unfold ev; exact k) ?_
  unfold aAlloc at h ⊢; split at h
  ·split at h
   ·rename_i e; exact ⟨_, _, fun K' k => by first | exact ⟨h.1, k⟩ | (rw [e]; exact ⟨h.1, k⟩), h.2, (by first | exact noKeys rfl | exact ownKey | exact ptrKey | exact argKeys fun k hk => ⟨_, List.mem_cons_self, hk⟩), (by simp)⟩
   ·exact h.elim
  ·exact h.elim
 ·rename_i e _
  refine pass (F := aBox TE key e al) (fun K' k => by unfold ev; exact k) ?_
  unfold aBox at h ⊢; split at h
  ·split at h
   ·rename_i e; obtain ⟨y, y1, y2⟩ := shd_ex h.2; exact ⟨_, _, fun K' k => by first | exact ⟨h.1, y1 _ k⟩ | (rw [e]; exact ⟨h.1, y1 _ k⟩), y2, (by first | exact noKeys rfl | exact ownKey | exact ptrKey | exact argKeys fun k hk => ⟨_, List.mem_cons_self, hk⟩), (by simp)⟩
   ·exact h.elim
  ·exact h.elim
 ·rename_i T ps
  refine pass (F := aBld TE T (ps.toList.map (·.1)) al) (fun K' k => by unfold ev; exact k) ?_
  unfold aBld at h ⊢; split at h
  ·rename_i e; obtain ⟨y, y1, y2⟩ := bld_ex h; exact ⟨_, _, fun K' k => by first | exact y1 _ k | (rw [e]; exact y1 _ k), y2, (by first | exact noKeys rfl | exact ownKey | exact ptrKey | exact argKeys fun k hk => ⟨_, List.mem_cons_self, hk⟩), (by simp)⟩
  ·exact h.elim
 ·rename_i T n ps
  refine pass (F := aBldS TE key T n (ps.toList.map (·.1)) al) (fun K' k => by unfold ev; exact k) ?_
  unfold aBldS at h ⊢; split at h
  ·rename_i j e' t' hone
   split at h
   ·rename_i e
    have hal : ∃ x ∈ al, j ∈ x.1.keys := by
     unfold one1 at hone
     split at hone
     ·injection hone with hone; injection hone with q1 _; subst q1
      exact ⟨_, List.mem_cons_self, List.mem_cons_self⟩
     ·cases hone
    exact ⟨_, _, fun K' k => by first | exact ⟨h.1, k⟩ | (rw [hone, e]; exact ⟨h.1, k⟩) | (rw [e]; exact ⟨h.1, k⟩), h.2, (fun k hk => .inr (.inl (by rw [List.mem_singleton.1 hk]; exact hal))), (by simp)⟩
   ·exact h.elim
  rename_i hone
  split at h
  ·rename_i e; obtain ⟨y, y1, y2⟩ := lst_ex h.2.2.2; exact ⟨_, _, fun K' k => by first | exact ⟨h.1, h.2.1, h.2.2.1, y1 _ k⟩ | (rw [e]; exact ⟨h.1, h.2.1, h.2.2.1, y1 _ k⟩) | (rw [hone, e]; exact ⟨h.1, h.2.1, h.2.2.1, y1 _ k⟩), y2, (by first | exact noKeys rfl | exact ownKey | exact ptrKey | exact argKeys fun k hk => ⟨_, List.mem_cons_self, hk⟩), (by simp)⟩
  ·exact h.elim
 ·rename_i _ i
  refine pass (F := aExt i al) (fun K' k => by unfold ev; exact k) ?_
  unfold aExt at h ⊢; split at h
  ·split at h
   ·rename_i e; exact ⟨_, _, fun K' k => by first | exact k | (rw [e]; exact k), h, (argKeys fun k hk => ⟨_, List.mem_cons_self, nth_keys (by assumption) hk⟩), (by simp)⟩
   ·exact h.elim
  ·exact h.elim
 ·refine pass (F := aNilC al) (fun K' k => by unfold ev; exact k) ?_
  unfold aNilC at h ⊢; split at h
  ·exact ⟨_, _, fun K' k => k, h, (by first | exact noKeys rfl | exact ownKey | exact ptrKey | exact argKeys fun k hk => ⟨_, List.mem_cons_self, hk⟩), (by simp)⟩
  ·exact ⟨_, _, fun K' k => k, h, (by first | exact noKeys rfl | exact ownKey | exact ptrKey | exact argKeys fun k hk => ⟨_, List.mem_cons_self, hk⟩), (by simp)⟩
  ·exact ⟨_, _, fun K' k => k, h, (by first | exact noKeys rfl | exact ownKey | exact ptrKey | exact argKeys fun k hk => ⟨_, List.mem_cons_self, hk⟩), (by simp)⟩
  ·exact ⟨_, _, fun K' k => k, h, (by first | exact noKeys rfl | exact ownKey | exact ptrKey | exact argKeys fun k hk => ⟨_, List.mem_cons_self, hk⟩), (by simp)⟩
  ·exact h.elim
 ·rename_i T r
  refine pass (F := aMap TE key T al) (fun K' k => by unfold ev; exact k) ?_
  unfold aMap at h ⊢; split at h
  ·split at h
   ·rename_i e; exact ⟨_, _, fun K' k => by first | exact k | (rw [e]; exact k), h, ownKey, (by simp)⟩
   ·exact h.elim
  ·split at h
   ·rename_i e; exact ⟨_, _, fun K' k => by first | exact k | (rw [e]; exact k), h, ownKey, (by simp)⟩
   ·exact h.elim
  ·exact h.elim
 ·rename_i T _ _ ok
  refine pass (F := aLook TE T ok al) (fun K' k => by unfold ev; exact k) ?_
  unfold aLook at h ⊢; split at h
  ·obtain ⟨h1, h⟩ := h
   obtain ⟨z, z1, z2⟩ := shd_ex h
   split at z2
   ·rename_i e; exact ⟨_, _, fun K' k => ⟨h1, z1 _ (by first | exact k | (rw [if_pos e]; exact k))⟩, z2, (fun k hk => by simp [PV.keys] at hk), (by simp)⟩
   ·rename_i e; exact ⟨_, _, fun K' k => ⟨h1, z1 _ (by first | exact k | (rw [if_neg e]; exact k))⟩, z2, noKeys rfl, (by simp)⟩
  ·exact h.elim
 ·rename_i fn first _
  refine pass (F := aFn fn first.size al) (fun K' k => by unfold ev; exact k) ?_
  unfold aFn at h ⊢
  obtain ⟨z, z1, z2⟩ := tvs_ex h
  exact ⟨_, _, fun K' k => z1 _ k, z2, noKeys rfl, (by simp)⟩
 ·rename_i T _
  refine pass (F := aIfc TE T al) (fun K' k => by unfold ev; exact k) ?_
  unfold aIfc at h ⊢; split at h
  ·split at h
   ·rename_i e; obtain ⟨z, z1, z2⟩ := shd_ex h; exact ⟨_, _, fun K' k => by first | exact z1 _ k | (rw [e]; exact z1 _ k), z2, noKeys rfl, (by simp)⟩
   ·exact h.elim
  ·exact h.elim
 ·rename_i ts
  obtain ⟨h0, h⟩ := h
  refine pass (F := aLen TE (ts.getD 0 0) al) (fun K' k => by unfold ev; exact ⟨h0, k⟩) ?_
  unfold aLen at h ⊢; split at h
  ·exact ⟨_, _, fun K' k => ⟨h.1, k⟩, h.2, (by first | exact noKeys rfl | exact ownKey | exact ptrKey | exact argKeys fun k hk => ⟨_, List.mem_cons_self, hk⟩), (by simp)⟩
  ·exact ⟨_, _, fun K' k => ⟨h.1, k⟩, h.2, (by first | exact noKeys rfl | exact ownKey | exact ptrKey | exact argKeys fun k hk => ⟨_, List.mem_cons_self, hk⟩), (by simp)⟩
  ·exact ⟨_, _, fun K' k => ⟨h.1, k⟩, h.2, (by first | exact noKeys rfl | exact ownKey | exact ptrKey | exact argKeys fun k hk => ⟨_, List.mem_cons_self, hk⟩), (by simp)⟩
  ·exact ⟨_, _, fun K' k => ⟨h.1, k⟩, h.2, (by first | exact noKeys rfl | exact ownKey | exact ptrKey | exact argKeys fun k hk => ⟨_, List.mem_cons_self, hk⟩), (by simp)⟩
  ·exact ⟨_, _, fun K' k => ⟨h.1, k⟩, h.2, (by first | exact noKeys rfl | exact ownKey | exact ptrKey | exact argKeys fun k hk => ⟨_, List.mem_cons_self, hk⟩), (by simp)⟩
  ·split at h
   ·rename_i e; exact ⟨_, _, fun K' k => by first | exact k | (rw [e]; exact k), h, (by first | exact noKeys rfl | exact ownKey | exact ptrKey | exact argKeys fun k hk => ⟨_, List.mem_cons_self, hk⟩), (by simp)⟩
   ·exact h.elim
  ·exact ⟨_, _, fun K' k => ⟨h.1, k⟩, h.2, (by first | exact noKeys rfl | exact ownKey | exact ptrKey | exact argKeys fun k hk => ⟨_, List.mem_cons_self, hk⟩), (by simp)⟩
  ·exact h.elim
 ·refine pass (F := aMax al) (fun K' k => by unfold ev; exact k) ?_
  unfold aMax at h ⊢; split at h
  ·exact ⟨_, _, fun K' k => ⟨h.1, k⟩, h.2, (by first | exact noKeys rfl | exact ownKey | exact ptrKey | exact argKeys fun k hk => ⟨_, List.mem_cons_self, hk⟩), (by simp)⟩
  ·exact h.elim
 ·refine pass (F := aMin al) (fun K' k => by unfold ev; exact k) ?_
  unfold aMin at h ⊢; split at h
  ·exact ⟨_, _, fun K' k => ⟨h.1, k⟩, h.2, (by first | exact noKeys rfl | exact ownKey | exact ptrKey | exact argKeys fun k hk => ⟨_, List.mem_cons_self, hk⟩), (by simp)⟩
  ·exact h.elim
 ·exact h.elim
theorem rds_ex {TE : TypeId → Option Ty} {f : FS} : ∀ {xs : List Operand} {Ts : List TypeId} {K : List TV → Prop}, rds TE f xs Ts K → ∃ al, (∀ K' : List TV → Prop, K' al → rds TE f xs Ts K') ∧ K al
 | [], [], K, h => ⟨[], fun K' k => k, h⟩
 | x :: xs, T :: Ts, K, h => by
  unfold rds at h
  obtain ⟨y, y1, y2⟩ := rd1_ex h
  obtain ⟨al, a1, a2⟩ := rds_ex (xs := xs) (Ts := Ts) y2
  exact ⟨_, fun K' k => by unfold rds; exact y1 _ (a1 _ k), a2⟩
 | [], _ :: _, _, h => h.elim
 | _ :: _, [], _, h => h.elim
theorem cle_ex {P : Program} {f : FS} {cl : Callee} {K : FuncId → List TV → List TV → Prop} (h : cle P f cl K) : ∃ g pre post, (∀ K' : FuncId → List TV → List TV → Prop, K' g pre post → cle P f cl K') ∧ K g pre post := by
 unfold cle at h
 split at h
 ·split at h
  ·rename_i e; exact ⟨_, _, _, fun K' k => by unfold cle; simp only [e]; exact k, h⟩
  ·exact h.elim
 ·split at h
  ·rename_i e
   obtain ⟨g, h1, h2⟩ := h
   exact ⟨_, _, _, fun K' k => by unfold cle; simp only [e]; exact ⟨g, h1, k⟩, h2⟩
  ·exact h.elim
 ·exact h.elim
end Go.TT
end
section
namespace Go.TT
open Go.RowKit
set_option linter.unusedVariables false
set_option linter.unusedSimpArgs false
def dOk (N : Nat) : Option Nat → Prop
 | none => True
 | some d => d < N
def isBar : Op → Bool
 | .store _ _ _ => true
 | .mapUpdate _ _ _ _ => true
 | .call { callee := .builtin .append, args := _, argTypes := _ } => true
 | .call { callee := .builtin .copy, args := _, argTypes := _ } => true
 | _ => false
def fnOf : Op → Option (Callee × List Operand × List TypeId)
 | .call { callee := .value x, args := xs, argTypes := Ts } => some (.value x, xs.toList, Ts.toList)
 | .call { callee := .invoke x m, args := xs, argTypes := Ts } => some (.invoke x m, xs.toList, Ts.toList)
 | _ => none
def fAlI (TE : TypeId → Option Ty) (key : Nat) (e : TypeId) (f : FS) (d : Option Nat) (K : KF) : Prop := match TE e with
 | some (.sl e' t') => K ((((f.new (key + 2) ⟨e', t', [], true⟩).adopt (key + 2)).new key ⟨e, .id e' t', [od f.h], true⟩).put d (.ptr key 0 []))
 | _ => False
def mkI (N : Nat) (o : Oper) (f : FS) : Option TypeId := match o.op, o.dst with
 | .alloc e, some d => match f.g (N + d) with
  | .tnil => some e
  | _ => none
 | _, _ => none
def stp (P : Program) (TE : TypeId → Option Ty) (N : Nat) (dr : Bool) (key : Nat) (o : Oper) (f : FS) (K : KF) : Prop :=
 dOk N o.dst ∧ match fnOf o.op with
  | some (fn, xs, Ts) => fCal P TE dr key o.dst fn xs Ts f K
  | none => if dr = true then (if isBar o.op = false then fEv TE key o f K else full TE key o f K) else match mkI N o f with
   | some e => fAlI TE key e f o.dst K
   | none => full TE key o f K
def grd (ops : Array Oper) (o : Oper) (f : FS) (yes no : KF) : Prop :=
 match o.guard with
 | none => yes f
 | some (j, want) => match (ops[j]?).bind (·.dst) with
  | none => False
  | some t => match f.g t with
   | .ro .bool b => if (b : Bool) = true then (if want = true then yes (f.put (some t) (.ro .bool true)) else no (f.put (some t) (.ro .bool true)))
     else (if want = true then no (f.put (some t) (.ro .bool false)) else yes (f.put (some t) (.ro .bool false)))
   | .tnil => no f
   | _ => False
def rgn (P : Program) (TE : TypeId → Option Ty) (N : Nat) (dr : Bool) (ops : Array Oper) : Nat → List Oper → FS → KF → Prop
 | _, [], f, K => K f
 | key, o :: l, f, K => grd ops o f (fun f => stp P TE N dr key o f fun f' => rgn P TE N dr ops (key + 8) l f' K) (fun f => dOk N o.dst ∧ rgn P TE N dr ops (key + 8) l (f.put o.dst .tnil) K)
theorem fnOf_some {op : Op} {cl : Callee} {xs : List Operand} {Ts : List TypeId} (h : fnOf op = some (cl, xs, Ts)) : ∃ xs' Ts', op = .call { callee := cl, args := xs', argTypes := Ts' } ∧ xs'.toList = xs ∧ Ts'.toList = Ts ∧ ∀ x ∈ clX cl, x ∈ op.operands.toList := by
 unfold fnOf at h
 split at h
 ·injection h with h; injection h with h1 h2; injection h2 with h2 h3
  subst h1
  exact ⟨_, _, rfl, h2, h3, fun x hx => by rw [List.mem_singleton.1 hx]; simp [Op.operands, Call.operands]⟩
 ·injection h with h; injection h with h1 h2; injection h2 with h2 h3
  subst h1
  exact ⟨_, _, rfl, h2, h3, fun x hx => by rw [List.mem_singleton.1 hx]; simp [Op.operands, Call.operands]⟩
 ·cases h
section
variable {P : Program} {TE : TypeId → Option Ty} {n0 : Nat → Prop} {w0 : World} {S0 : Nat → Prop} {N : Nat} {Fk : Nat → Prop} {f : FS} {a : Act} {w w' : World} {S S' : Nat → Prop} {V V' : Nat → Value} {key : Nat} {K : KF}
theorem dOk_lt {d : Option Nat} (h : dOk N d) : ∀ i, d = some i → i < N := fun i e => by rw [e] at h; exact h
theorem Does.wp {o : Oper} (h : Does P n0 w0 S0 N Fk K a w o) (hd : ∀ c, o.op ≠ .defer c) {next : Act → World → Prop} {Q : Exit → Act → World → Prop} (hn : ∀ v w', Step n0 w0 S0 N Fk K (a.put o.dst v) w' → next (a.put o.dst v) w') (r : Option Nat) (n : Nat) : o.wpIn (rnd r) n P a w next Q := by
 refine ⟨fun _ _ => trivial, ?_⟩
 rw [Oper.semAt_eq _ _ _ hd]
 rcases h with ⟨v, w', h1, h2⟩ | ⟨w', h1, h2⟩
 ·rw [h1]; exact hn _ _ h2
 ·rw [h1]; exact hn _ _ h2
theorem fAlI_ok (hTE : ∀ e t, TE e = some t → TyOk P t e) (h : RelC n0 w0 S0 N Fk f a w S V) (hk : Fk key) (hk2 : Fk (key + 2)) {o : Oper} {e : TypeId} (ho : o.op = .alloc e) (hd : ∀ i, o.dst = some i → i < N) (he : fAlI TE key e f o.dst K) : Does P n0 w0 S0 N (lessK Fk key) K a w o := by
 unfold fAlI at he
 split at he
 case h_2 => exact he.elim
 rename_i e' t' hte
 have hT := hTE _ _ hte
 obtain ⟨i, z, i1, i2, i3, i4, i5⟩ := hT.info.ex
 unfold TyOk at hT
 have hrow := hT.2.2.2.2
 have hrun : (execOp a.eval o).run P w = .ok (.value (.pointer (some ⟨w.heap.size, 0, none⟩))) (w.alloc (.cells z.cells e)) := by
  simp [execOp, ho, Instr.alloc, zeroValue, typeInfo, i1, i2, newVar, newRow]
 have hg := h.grow (below_new w (.cells z.cells e))
 have h1 := hg.new (k := key + 2) (o := ⟨e', t', [], true⟩) (v := .slice none 0 0) hk2 (OR_nil hrow) (nids hrow) (fun _ b hb => by cases hb)
 have e1 : (f.new (key + 2) ⟨e', t', [], true⟩).o (key + 2) = some ⟨e', t', [], true⟩ := by simp [FS.new, upd]
 have h2 := h1.adopt e1
 rw [adopt_eq e1] at he
 have hVn : (upd V (key + 2) (.slice none 0 0)) (key + 2) = .slice none 0 0 := by simp [upd]
 rw [hVn] at h2
 have hev := h.fe _ hk
 have hev2 := h.fe _ hk2
 have h3 := h2.new (k := key) (o := ⟨e, .id e' t', [od f.h], true⟩) (v := .slice (some ⟨w.heap.size, 0, none⟩) 1 1) ⟨hk, by omega⟩ (by
   have hc : z.cells.toList = [.slice none 0 0] := i3
   rw [OR_id]
   have := World.ownsRow_lit w (e := e) (size := 1) z.cells 1 (Nat.zero_le _) (by simp [maxLen]) (by rw [← Array.length_toList, hc]; rfl)
   rw [hc] at this
   have e5 : List.map (upd (upd V (key + 2) (.slice none 0 0)) (od f.h) (.slice none 0 0)) [od f.h] = [.slice none 0 0] := by simp [upd]
   show World.ownsRow _ 0 e 1 _ 1 (List.map _ [od f.h])
   rw [← e5] at this
   exact this)
  (fun i hi => ⟨f.h, Nat.lt_succ_self _, by simpa [idsOf] using hi⟩)
  (fun _ b hb => by
   have hb : b = w.heap.size := by
    have hb : some w.heap.size = some b := hb
    injection hb with hb; exact hb.symm
   subst hb
   refine ⟨h.size _ (Nat.le_refl _), fun hs => Nat.lt_irrefl _ (h.lt _ hs), fun k' o' q hm q2 => ?_⟩
   have q : upd (upd (upd f.o (key + 2) (some ⟨e', t', [], true⟩)) (key + 2) none) (od f.h) (some ⟨e', t', [], true⟩) k' = some o' := q
   have q2 : blk (upd (upd V (key + 2) (.slice none 0 0)) (od f.h) (.slice none 0 0) k') = some w.heap.size := q2
   by_cases q3 : k' = od f.h
   ·have q6 : upd (upd V (key + 2) (.slice none 0 0)) (od f.h) (.slice none 0 0) k' = .slice none 0 0 := by simp [upd, q3]
    rw [q6] at q2; cases q2
   ·by_cases q4 : k' = key + 2
    ·have q5 : upd (upd (upd f.o (key + 2) (some ⟨e', t', [], true⟩)) (key + 2) none) (od f.h) (some ⟨e', t', [], true⟩) k' = none := by
      unfold upd
      rw [if_neg q3, if_pos q4]
     rw [q5] at q; cases q
    ·have q5 : f.o k' = some o' := by simpa [upd, q3, q4] using q
     have q6 : upd (upd V (key + 2) (.slice none 0 0)) (od f.h) (.slice none 0 0) k' = V k' := by simp [upd, q3, q4]
     rw [q6] at q2
     exact Nat.lt_irrefl _ (h.ow k' o' q5 hm _ q2).2)
 have hkk : key ≠ od f.h := fun q => by unfold od at q; omega
 have h4 := h3.put (p := .ptr key 0 []) (v := .pointer (some ⟨w.heap.size, 0, none⟩)) (fun n t q => by
   have q : some (1, Ty.id e' t') = some (n, t) := by
    rw [← q]; simp [FS.sh, FS.new, upd, Ob.ln]
   injection q with q
   injection q with q1 q2
   subst q1 q2
   refine ⟨Int.le_refl _, by omega, ⟨w.heap.size, 0, none⟩, 1, 1, (0, .id e' t'), by simp [upd], by unfold Ty.off; rfl, ?_⟩
   simp [Addr.add])
  (fun j hj => by
   have hj : j = key := by simpa [PV.keys] using hj
   subst hj
   rintro (q | ⟨i, q1, q2⟩)
   ·exact q.2 rfl
   ·unfold od at q2; omega) o.dst hd
 exact .inl ⟨_, _, hrun, _, _, _, he, h4.keys fun k hk' => ⟨⟨hk'.1, fun q => hk'.2 (by omega)⟩, fun q => hk'.2 (by omega)⟩⟩
theorem stp_ok (hTE : ∀ e t, TE e = some t → TyOk P t e) (h : RelC n0 w0 S0 N Fk f a w S V) (hk : ∀ i, i < 4 → Fk (key + 2 * i)) {o : Oper} {dr : Bool} (he : stp P TE N dr key o f K) {next : Act → World → Prop} {Q : Exit → Act → World → Prop}
  (hn : ∀ v w', Step n0 w0 S0 N (lessK Fk key) K (a.put o.dst v) w' → next (a.put o.dst v) w') (r : Option Nat) (n : Nat) : o.wpIn (rnd r) n P a w next Q := by
 obtain ⟨hd, he⟩ := he
 have hd := dOk_lt hd
 split at he
 ·rename_i fn xs Ts hf
  obtain ⟨xs', Ts', h1, rfl, rfl, _⟩ := fnOf_some hf
  exact fCal_ok hTE h hk h1 hd he hn r n
 ·split at he
  ·split at he
   ·exact Does.wp (.inl (fEv_ok hTE h (hk 0 (by omega)) o hd he)) (fun c e => by unfold fEv at he; rw [e] at he; exact he.elim) hn r n
   ·exact (full_ok hTE h (hk 0 (by omega)) o hd he).wp (fun c e => by unfold full at he; rw [e] at he; simp only [fEv, e, ev] at he) hn r n
  ·split at he
   ·rename_i e hm
    have hop : o.op = .alloc e := by
     unfold mkI at hm
     split at hm
     ·rename_i e1 d e2 e3
      split at hm
      ·injection hm with hm; rw [← hm]; exact e2
      ·cases hm
     ·cases hm
    exact (fAlI_ok hTE h (hk 0 (by omega)) (hk 1 (by omega)) hop hd he).wp (fun c e => by rw [hop] at e; cases e) hn r n
   ·exact (full_ok hTE h (hk 0 (by omega)) o hd he).wp (fun c e => by unfold full at he; rw [e] at he; simp only [fEv, e, ev] at he) hn r n
def gOk (ops : Array Oper) (o : Oper) (f : FS) : Option Bool :=
 match o.guard with
 | none => some true
 | some (j, want) => match (ops[j]?).bind (·.dst) with
  | none => none
  | some t => match f.g t with
   | .ro .bool b => some ((b : Bool) == want)
   | .tnil => some false
   | _ => none
theorem put_self {t : Nat} {p : PV} (h : f.g t = p) : f.put (some t) p = f := by
 obtain ⟨g, o⟩ := f
 simp only [FS.put]
 congr 1
 funext i
 unfold upd
 split
 ·rename_i e; rw [e]; exact h.symm
 ·rfl
theorem grd_out {ops : Array Oper} {o : Oper} {yes no : KF} (h : grd ops o f yes no) : (gOk ops o f = some true ∧ yes f) ∨ (gOk ops o f = some false ∧ no f) := by
 revert h
 unfold grd gOk
 rcases o.guard with _ | ⟨j, want⟩
 ·exact fun h => .inl ⟨rfl, h⟩
 ·simp only
  rcases (ops[j]?).bind (·.dst) with _ | t
  ·exact fun h => h.elim
  ·simp only
   rcases hp : f.g t with _ | ⟨ty, b⟩ | _ | _ | _ | _ | _ | _ | _ | _ <;> first | exact fun h => h.elim | exact fun h => .inr ⟨rfl, h⟩ | skip
   cases ty <;> try exact fun h => h.elim
   simp only
   intro h
   revert h hp
   cases b with
   | true =>
    intro hp h
    rw [if_pos rfl, put_self hp] at h
    cases want with
    | true => exact .inl ⟨rfl, h⟩
    | false => exact .inr ⟨rfl, h⟩
   | false =>
    intro hp h
    rw [if_neg (by simp), put_self hp] at h
    cases want with
    | true => exact .inr ⟨rfl, h⟩
    | false => exact .inl ⟨rfl, h⟩
theorem gOk_wanted (h : RelC n0 w0 S0 N Fk f a w S V) {ops : Array Oper} {o : Oper} {c : Bool} (hg : gOk ops o f = some c) : Region.wanted o (yielded ops a.tmps) = c := by
 unfold gOk at hg
 unfold Region.wanted
 split at hg
 ·rename_i e; rw [e]; injection hg
 ·rename_i j want e
  rw [e]
  split at hg
  ·cases hg
  ·rename_i t ht
   split at hg
   ·rename_i b hb
    injection hg with hg
    have hs := h.sl t
    rw [hb] at hs
    have hs := Vs_bool.1 hs
    have hy : yielded ops a.tmps j = some b := by
     unfold yielded
     rw [ht]
     simp only [Option.bind_some]
     rcases h' : a.tmps[t]? with _ | v
     ·have : a.tmps.getD t undef = undef := by simp [h']
      rw [this] at hs
      cases hs
     ·have : a.tmps.getD t undef = v := by simp [h']
      rw [this] at hs
      rw [hs]
    show (yielded ops a.tmps j == some want) = c
    rw [hy, ← hg]
    cases (b : Bool) <;> cases want <;> rfl
   ·rename_i hb
    injection hg with hg
    have hs := h.sl t
    rw [hb] at hs
    have hs : a.tmps.getD t undef = .tuple #[] := hs
    have hy : yielded ops a.tmps j = none := by
     unfold yielded
     rw [ht]
     simp only [Option.bind_some]
     rcases h' : a.tmps[t]? with _ | v
     ·rfl
     ·have : a.tmps.getD t undef = v := by simp [h']
      rw [this] at hs
      rw [hs]
    show (yielded ops a.tmps j == some want) = c
    rw [hy, ← hg]
    rfl
   ·cases hg
theorem bot_put (h : RelC n0 w0 S0 N Fk f a w S V) {d : Option Nat} (hd : dOk N d) : RelC n0 w0 S0 N Fk (f.put d .tnil) (a.put d undef) w S V := h.put (p := .tnil) rfl (fun k hk => by cases hk) d (dOk_lt hd)
theorem rgn_ok (hTE : ∀ e t, TE e = some t → TyOk P t e) {ops : Array Oper} {Q : Exit → Act → World → Prop} {r : Option Nat} {n : Nat} {U : Act → Prop} : ∀ {l : List Oper} {key : Nat} {f : FS} {a : Act} {w : World} {S : Nat → Prop} {V : Nat → Value}, key % 2 = 0 → RelC n0 w0 S0 N (Fe key) f a w S V → rgn P TE N false ops key l f K →
  U a → (∀ o ∈ l, ∀ a v, U a → U (a.put o.dst v)) → (∀ a' w', Step n0 w0 S0 N (Fe (key + 8 * l.length)) K a' w' → U a' → Q .normal a' w') → wpListIn (rnd r) n P ops Q l a w
 | [], key, f, a, w, S, V, _, h, he, hu, _, hQ => hQ a w ⟨f, S, V, he, h⟩ hu
 | o :: l, key, f, a, w, S, V, hev, h, he, hu, hU, hQ => by
  have hU' : ∀ o ∈ l, ∀ a v, U a → U (a.put o.dst v) := fun o ho => hU o (List.mem_cons_of_mem _ ho)
  have hQ' : ∀ a' w', Step n0 w0 S0 N (Fe (key + 8 + 8 * l.length)) K a' w' → U a' → Q .normal a' w' := fun a' w' hs => hQ a' w' (hs.keys fun k hk => by rw [List.length_cons] at hk; exact ⟨by have := hk.1; omega, hk.2⟩)
  unfold wpListIn
  rcases grd_out he with ⟨hg, he⟩ | ⟨hg, hd, he⟩
  ·rw [if_pos (gOk_wanted h hg)]
   refine stp_ok hTE h (fun i hi => ⟨by omega, by omega⟩) he (fun v w' ⟨f', S', V', hK, hr⟩ => ?_) r n
   exact rgn_ok hTE (by omega) (hr.keys fun k hk => ⟨⟨by have := hk.1; omega, hk.2⟩, by have := hk.1; omega⟩) hK (hU o List.mem_cons_self _ _ hu) hU' hQ'
  ·rw [if_neg (by rw [gOk_wanted h hg]; simp)]
   exact ⟨fun _ _ => trivial, rgn_ok hTE (by omega) ((bot_put h hd).keys fun k hk => ⟨by have := hk.1; omega, hk.2⟩) he (hU o List.mem_cons_self _ _ hu) hU' hQ'⟩
end
end Go.TT
end
section
namespace Go.TT
open Go.RowKit
set_option linter.unusedVariables false
set_option linter.unusedSimpArgs false
def omask (o : Oper) (acc : List Nat) : Nat := o.after.toList.foldl (fun s e => if Region.binds .any e then s ||| 2 ^ e.on ||| acc.getD e.on 0 else s) 0
def masks : List Oper → List Nat → List Nat
 | [], acc => acc
 | o :: l, acc => masks l (acc ++ [omask o acc])
def confl (ops : Array Oper) (o p : Oper) : Bool := isBar o.op || isBar p.op || !(o.apart ops p)
def ordOK (ops : Array Oper) : Bool :=
 let ms := masks ops.toList []
 (List.range ops.size).all fun j => match ops[j]? with
  | none => true
  | some oj => (oj.after.toList.all fun e => !Region.binds .any e || decide (e.on < j)) &&
   (List.range j).all fun i => match ops[i]? with
    | none => true
    | some oi => !confl ops oi oj || (ms.getD j 0).testBit i
inductive Anc (ops : Array Oper) : Nat → Nat → Prop
 | edge {j : Nat} {o : Oper} {e : Edge} : ops[j]? = some o → e ∈ o.after → Region.binds .any e = true → Anc ops j e.on
 | trans {j i : Nat} {o : Oper} {e : Edge} : ops[j]? = some o → e ∈ o.after → Region.binds .any e = true → Anc ops e.on i → Anc ops j i
theorem foldl_bit {acc : List Nat} : ∀ (l : List Edge) (s i : Nat), (l.foldl (fun s e => if Region.binds .any e then s ||| 2 ^ e.on ||| acc.getD e.on 0 else s) s).testBit i = true →
  s.testBit i = true ∨ ∃ e ∈ l, Region.binds .any e = true ∧ (i = e.on ∨ (acc.getD e.on 0).testBit i = true)
 | [], s, i, h => .inl h
 | e :: l, s, i, h => by
  rw [List.foldl_cons] at h
  rcases foldl_bit l _ i h with h | ⟨e', h1, h2⟩
  ·split at h
   ·rename_i hb
    rw [Nat.testBit_or, Nat.testBit_or, Bool.or_eq_true, Bool.or_eq_true, Nat.testBit_two_pow] at h
    rcases h with (h | h) | h
    ·exact .inl h
    ·exact .inr ⟨e, List.mem_cons_self, hb, .inl (of_decide_eq_true h).symm⟩
    ·exact .inr ⟨e, List.mem_cons_self, hb, .inr h⟩
   ·exact .inl h
  ·exact .inr ⟨e', List.mem_cons_of_mem _ h1, h2⟩
theorem masks_ok {ops : Array Oper} : ∀ (l : List Oper) (acc : List Nat), (∀ k o, l[k]? = some o → ops[acc.length + k]? = some o) → (∀ j m i, acc[j]? = some m → m.testBit i = true → Anc ops j i) →
  ∀ j m i, (masks l acc)[j]? = some m → m.testBit i = true → Anc ops j i
 | [], acc, _, h => h
 | o :: l, acc, hl, h => by
  refine masks_ok l _ (fun k o' e => ?_) (fun j m i e hb => ?_)
  ·rw [List.length_append, List.length_singleton, Nat.add_assoc, Nat.add_comm 1 k]; exact hl (k + 1) o' e
  ·by_cases hj : j < acc.length
   ·rw [List.getElem?_append_left hj] at e; exact h j m i e hb
   ·rw [List.getElem?_append_right (by omega)] at e
    have hj' : j - acc.length = 0 := by
     rcases Nat.lt_or_ge (j - acc.length) 1 with q | q
     ·omega
     ·rw [List.getElem?_eq_none (by simpa using q)] at e; cases e
    rw [hj'] at e
    have e : some (omask o acc) = some m := e
    injection e with e; subst e
    have hjl : j = acc.length := by omega
    subst hjl
    have ho := hl 0 o rfl
    rw [Nat.add_zero] at ho
    rcases foldl_bit _ _ _ hb with hb | ⟨e, h1, h2, h3⟩
    ·simp at hb
    ·have he : e ∈ o.after := by simpa using h1
     rcases h3 with rfl | h3
     ·exact .edge ho he h2
     ·have : ∃ m, acc[e.on]? = some m ∧ m.testBit i = true := by
       rcases q : acc[e.on]? with _ | m
       ·rw [List.getD, q] at h3; simp at h3
       ·rw [List.getD, q] at h3; exact ⟨m, rfl, h3⟩
      obtain ⟨m, m1, m2⟩ := this
      exact .trans ho he h2 (h _ _ _ m1 m2)
theorem ordOK_out {ops : Array Oper} (h : ordOK ops = true) {j : Nat} {oj : Oper} (hj : ops[j]? = some oj) : (∀ e ∈ oj.after, Region.binds .any e = true → e.on < j) ∧ ∀ i oi, i < j → ops[i]? = some oi → confl ops oi oj = true → Anc ops j i := by
 have hlt : j < ops.size := (Array.getElem?_eq_some_iff.1 hj).1
 have := List.all_eq_true.1 h j (List.mem_range.2 hlt)
 simp only [hj, Bool.and_eq_true] at this
 obtain ⟨h1, h2⟩ := this
 refine ⟨fun e he hb => ?_, fun i oi hi ho hc => ?_⟩
 ·have := List.all_eq_true.1 h1 e (by simpa using he)
  simpa [hb] using this
 ·have := List.all_eq_true.1 h2 i (List.mem_range.2 hi)
  simp only [ho, hc, Bool.not_true, Bool.false_or] at this
  have hm : ∃ m, (masks ops.toList [])[j]? = some m ∧ m.testBit i = true := by
   rcases q : (masks ops.toList [])[j]? with _ | m
   ·rw [List.getD, q] at this; simp at this
   ·rw [List.getD, q] at this; exact ⟨m, rfl, this⟩
  obtain ⟨m, m1, m2⟩ := hm
  exact masks_ok ops.toList [] (fun k o e => by simpa using e) (fun j m i e _ => by cases e) j m i m1 m2
def Closed (ops : Array Oper) (listed : Array Bool) : Prop := ∀ j o, listed.getD j false = true → ops[j]? = some o → ∀ e ∈ o.after, Region.binds .any e = true → listed.getD e.on false = true
theorem Closed.anc {ops : Array Oper} {listed : Array Bool} (h : Closed ops listed) : ∀ {j i : Nat}, Anc ops j i → listed.getD j false = true → listed.getD i false = true := by
 intro j i ha
 induction ha with
 | edge ho he hb => exact fun hj => h _ _ hj ho _ he hb
 | trans ho he hb _ ih => exact fun hj => ih (h _ _ hj ho _ he hb)
theorem Closed.anc' {ops : Array Oper} {listed : Array Bool} (h : Closed ops listed) {j i : Nat} (ha : Anc ops j i) (hr : ∀ o, ops[j]? = some o → ∀ e ∈ o.after, Region.binds .any e = true → listed.getD e.on false = true) : listed.getD i false = true := by
 cases ha with
 | edge ho he hb => exact hr _ ho _ he hb
 | trans ho he hb h2 => exact h.anc h2 (hr _ ho _ he hb)
def Fre (P : Program) (TE : TypeId → Option Ty) (N : Nat) (ops : Array Oper) (key : Nat) (o : Oper) (f : FS) (p : PV) (obs : List Ob) : Prop :=
 dOk N o.dst ∧ obs.length ≤ 4 ∧ (∀ k ∈ p.keys, (key ≤ k ∧ k < key + 8) ∨ (∃ x ∈ o.op.operands.toList, k ∈ (f.op x).keys) ∨ k % 2 = 1) ∧
 ((gOk ops o f = some true ∧ match fnOf o.op with
  | some (cl, xs, Ts) => ∃ g pre post al rs, (∀ K' : FuncId → List TV → List TV → Prop, K' g pre post → cle P f cl K') ∧ (∀ K' : List TV → Prop, K' al → rds TE f xs Ts K') ∧ Con P g (pre ++ (al ++ post)) rs ∧ (flatR rs = true ∨ noOwn f xs) ∧ p = pvOf (pvsOf key rs) ∧ obs = obsOf rs
  | none => ∀ K' : KK, K' p obs → ev TE key o.op (o.op.operands.toList.map f.res) K') ∨ (gOk ops o f = some false ∧ p = .tnil ∧ obs = []))
theorem fn_operands {op : Op} {cl : Callee} {xs : List Operand} {Ts : List TypeId} (h : fnOf op = some (cl, xs, Ts)) : (∀ x ∈ xs, x ∈ op.operands.toList) ∧ ∀ x ∈ clX cl, x ∈ op.operands.toList := by
 obtain ⟨xs', Ts', rfl, rfl, rfl, hc⟩ := fnOf_some h
 refine ⟨fun x hx => ?_, hc⟩
 simp only [Op.operands, Call.operands, Array.toList_append, List.mem_append]
 exact .inr hx
theorem cle_congr {P : Program} {f f' : FS} {cl : Callee} {K : FuncId → List TV → List TV → Prop} (hx : ∀ x ∈ clX cl, f'.res x = f.res x) (h : cle P f cl K) : cle P f' cl K := by
 cases cl with
 | value x => unfold cle at h ⊢; simp only [hx x (List.mem_singleton.2 rfl)]; exact h
 | invoke x m => unfold cle at h ⊢; simp only [hx x (List.mem_singleton.2 rfl)]; exact h
 | builtin b => exact h.elim
theorem rds_congr {TE : TypeId → Option Ty} {f f' : FS} : ∀ {xs : List Operand} {Ts : List TypeId} {K : List TV → Prop}, (∀ x ∈ xs, f'.res x = f.res x) → rds TE f xs Ts K → rds TE f' xs Ts K
 | [], [], K, _, h => h
 | x :: xs, T :: Ts, K, hx, h => by
  unfold rds at h ⊢
  rw [hx x List.mem_cons_self]
  obtain ⟨y, y1, y2⟩ := rd1_ex h
  exact y1 _ (rds_congr (fun z hz => hx z (List.mem_cons_of_mem _ hz)) y2)
 | [], _ :: _, _, _, h => h.elim
 | _ :: _, [], _, _, h => h.elim
theorem noOwn_congr {f f' : FS} : ∀ {xs : List Operand}, (∀ x ∈ xs, f'.res x = f.res x) → noOwn f xs → noOwn f' xs
 | [], _, _ => trivial
 | x :: xs, hx, h => ⟨by rw [hx x List.mem_cons_self]; exact h.1, noOwn_congr (fun z hz => hx z (List.mem_cons_of_mem _ hz)) h.2⟩
theorem frz_self {f : FS} {j : Nat} (h : ∀ o, f.o j = some o → o.mu = false) : f.frz j = f := by
 unfold FS.frz
 split
 ·rename_i o e
  rw [frz_same (h o e), set_self e]
 ·rfl
theorem fzo_self {f : FS} : ∀ {xs : List Operand}, noOwn f xs → f.fzo xs = f
 | [], _ => rfl
 | x :: xs, h => by
  unfold FS.fzo
  rw [fz1_eq]
  split
  ·rename_i j e
   rw [frz_self fun o ho => ?_]
   ·exact fzo_self h.2
   ·have h1 := h.1
    simp only [FS.res, e, Option.bind_some, ho] at h1
    exact h1
  ·exact fzo_self h.2
theorem Fre.congr {P : Program} {TE : TypeId → Option Ty} {N : Nat} {ops : Array Oper} {key : Nat} {o : Oper} {f f' : FS} {p : PV} {obs : List Ob} (h : Fre P TE N ops key o f p obs) (hx : ∀ x ∈ o.op.operands.toList, f'.res x = f.res x) (hg : gOk ops o f' = gOk ops o f) : Fre P TE N ops key o f' p obs := by
 obtain ⟨h1, h2, h3, h4⟩ := h
 refine ⟨h1, h2, fun k hk => (h3 k hk).imp id fun q => q.imp (fun ⟨x, q1, q2⟩ => ⟨x, q1, by have := hx x q1; simp only [FS.res, Prod.mk.injEq] at this; rw [this.1]; exact q2⟩) id, ?_⟩
 rw [hg]
 refine h4.imp (fun ⟨g1, g2⟩ => ⟨g1, ?_⟩) id
 split at g2
 ·rename_i cl xs Ts hf
  obtain ⟨g, pre, post, al, rs, r0, r1, r2, r3, r4⟩ := g2
  obtain ⟨o1, o2⟩ := fn_operands hf
  exact ⟨g, pre, post, al, rs, fun K' k => cle_congr (fun x hx' => hx x (o2 x hx')) (r0 K' k), fun K' k => rds_congr (fun x hx' => hx x (o1 x hx')) (r1 K' k), r2, r3.imp id (noOwn_congr fun x hx' => hx x (o1 x hx')), r4⟩
 ·intro K' k
  rw [show o.op.operands.toList.map f'.res = o.op.operands.toList.map f.res from List.map_congr_left hx]
  exact g2 K' k
theorem fre_of_stp {P : Program} {TE : TypeId → Option Ty} {N : Nat} {ops : Array Oper} {key : Nat} {o : Oper} {f : FS} {K : KF} (hg : gOk ops o f = some true) (hb : isBar o.op = false) (h : stp P TE N true key o f K) : ∃ p obs, Fre P TE N ops key o f p obs ∧ K ((f.news key obs).put o.dst p) := by
 obtain ⟨hd, h⟩ := h
 rcases hf : fnOf o.op with _ | ⟨cl, xs, Ts⟩
 ·rw [hf] at h
  simp only at h
  rw [if_pos trivial, if_pos hb] at h
  obtain ⟨p, obs, h1, h2, h3, h4⟩ := ev_ex h
  refine ⟨p, obs, ⟨hd, by omega, fun k hk => ?_, .inl ⟨hg, by rw [hf]; exact h1⟩⟩, h2⟩
  rcases h3 k hk with rfl | ⟨x, x1, x2⟩ | hodd
  ·exact .inl ⟨Nat.le_refl _, by omega⟩
  ·obtain ⟨y, y1, rfl⟩ := List.mem_map.1 x1
   exact .inr (.inl ⟨y, y1, x2⟩)
  ·exact .inr (.inr hodd)
 ·rw [hf] at h
  simp only at h
  obtain ⟨g, pre, post, c1, h⟩ := cle_ex h
  obtain ⟨al, a1, rs, a2, a3, a4⟩ := rds_ex h
  have hfin : (flatR rs = true ∨ noOwn f xs) ∧ K ((f.news key (obsOf rs)).put o.dst (pvOf (pvsOf key rs))) := by
   split at a4
   ·rename_i hfl; exact ⟨.inl hfl, a4⟩
   ·have hno : noOwn f xs := a4.1.resolve_left (by simp)
    have := a4.2
    rw [fzo_self hno] at this
    exact ⟨.inr hno, this⟩
  refine ⟨_, _, ⟨hd, a3, fun k hk => ?_, .inl ⟨hg, by rw [hf]; exact ⟨g, pre, post, al, rs, c1, a1, a2, hfin.1, rfl, rfl⟩⟩⟩, hfin.2⟩
  obtain ⟨q, q1, q2⟩ := pvOf_keys hk
  left
  have hkey : ∀ {rs : List RV} {key : Nat}, ∀ q ∈ pvsOf key rs, ∀ k ∈ q.keys, key ≤ k ∧ k < key + 2 * (obsOf rs).length := by
   intro rs
   induction rs with
   | nil => intro key q hq; cases hq
   | cons r rs ih =>
    intro key q hq k hk
    obtain ⟨b, t, x⟩ := r
    cases b with
    | false =>
     rcases List.mem_cons.1 hq with rfl | hq
     ·cases hk
     ·exact ih q hq k hk
    | true =>
     cases t with
     | sl e t =>
      have hl : (obsOf ((true, ⟨.sl e t, x⟩) :: rs)).length = (obsOf rs).length + 1 := rfl
      rcases List.mem_cons.1 hq with rfl | hq
      ·simp [PV.keys] at hk; rw [hl]; omega
      ·have := ih q hq k hk; rw [hl]; omega
     | _ =>
      rcases List.mem_cons.1 hq with rfl | hq
      ·cases hk
      ·exact ih q hq k hk
  have := hkey q q1 k q2
  omega
theorem stp_of_fre {P : Program} {TE : TypeId → Option Ty} {N : Nat} {ops : Array Oper} {key : Nat} {o : Oper} {f : FS} {K : KF} {p : PV} {obs : List Ob} (hg : gOk ops o f = some true) (hb : isBar o.op = false) (h : Fre P TE N ops key o f p obs) (hK : K ((f.news key obs).put o.dst p)) : stp P TE N true key o f K := by
 obtain ⟨h1, h2, h3, h4⟩ := h
 refine ⟨h1, ?_⟩
 rcases h4 with ⟨_, h4⟩ | ⟨h4, _⟩
 ·rcases hf : fnOf o.op with _ | ⟨cl, xs, Ts⟩
  ·rw [hf] at h4
   simp only
   rw [if_pos trivial, if_pos hb]
   exact h4 _ hK
  ·rw [hf] at h4
   obtain ⟨g, pre, post, al, rs, c1, a1, a2, a3, a4, a5⟩ := h4
   simp only
   refine c1 _ (a1 _ ⟨rs, a2, by rw [← a5]; exact h2, ?_⟩)
   rcases a3 with a3 | a3
   ·rw [if_pos a3, ← a4, ← a5]; exact hK
   ·split
    ·rw [← a4, ← a5]; exact hK
    ·refine ⟨.inr a3, ?_⟩
     rw [fzo_self a3, ← a4, ← a5]; exact hK
 ·rw [hg] at h4; cases h4
end Go.TT
end
section
namespace Go.TT
open Go.RowKit
set_option linter.unusedVariables false
set_option linter.unusedSimpArgs false
def FS.add (f : FS) (d : Option Nat) (p : PV) (key : Nat) (obs : List Ob) : FS := (f.news key obs).put d p
theorem news_out : ∀ (obs : List Ob) (f : FS) (key k : Nat), (∀ i, i < obs.length → k ≠ key + 2 * i) → (f.news key obs).o k = f.o k
 | [], f, key, k, _ => rfl
 | o :: obs, f, key, k, h => by
  unfold FS.news
  rw [news_out obs _ (key + 2) k (fun i hi => by have := h (i + 1) (by rw [List.length_cons]; omega); omega)]
  have := h 0 (by rw [List.length_cons]; omega)
  simp [FS.new, upd, show k ≠ key by omega]
theorem news_congr : ∀ (obs : List Ob) (f f' : FS) (key k : Nat), f.o k = f'.o k → (f.news key obs).o k = (f'.news key obs).o k
 | [], f, f', key, k, h => h
 | o :: obs, f, f', key, k, h => by
  unfold FS.news
  refine news_congr obs _ _ (key + 2) k ?_
  simp only [FS.new, upd]
  split
  ·rfl
  ·exact h
theorem add_g (f : FS) (d : Option Nat) (p : PV) (key : Nat) (obs : List Ob) (i : Nat) : (f.add d p key obs).g i = if d = some i then p else f.g i := by
 unfold FS.add FS.put
 cases d with
 | none => simp [news_g]
 | some d =>
  simp only [upd, news_g, Option.some.injEq]
  by_cases h : i = d
  ·rw [if_pos h, if_pos h.symm]
  ·rw [if_neg h, if_neg (Ne.symm h)]
theorem add_out (f : FS) (d : Option Nat) (p : PV) (key : Nat) (obs : List Ob) (k : Nat) (h : ∀ i, i < obs.length → k ≠ key + 2 * i) : (f.add d p key obs).o k = f.o k := by
 unfold FS.add; rw [put_o, news_out _ _ _ _ h]
theorem add_congr (f f' : FS) (d : Option Nat) (p : PV) (key : Nat) (obs : List Ob) (k : Nat) (h : f.o k = f'.o k) : (f.add d p key obs).o k = (f'.add d p key obs).o k := by
 unfold FS.add; rw [put_o, put_o, news_congr _ _ _ _ _ h]
theorem add_h (f : FS) (d : Option Nat) (p : PV) (key : Nat) (obs : List Ob) : (f.add d p key obs).h = f.h := by unfold FS.add; rw [put_h, news_h]
theorem FS.ext {f f' : FS} (h1 : ∀ i, f.g i = f'.g i) (h2 : ∀ k, f.o k = f'.o k) (h3 : f.h = f'.h) : f = f' := by
 obtain ⟨g, o, h⟩ := f
 obtain ⟨g', o', h'⟩ := f'
 rw [show g = g' from funext h1, show o = o' from funext h2, show h = h' from h3]
section
variable {P : Program} {TE : TypeId → Option Ty} {N nx : Nat} {ops : Array Oper} {K : KF}
def Clean (nx : Nat) (R : List Nat) (f : FS) : Prop := ∀ j ∈ R, ∀ t, ∀ k ∈ (f.g t).keys, ¬ (nx + 8 * j ≤ k ∧ k < nx + 8 * j + 8 ∧ k % 2 = 0)
theorem op_keys {R : List Nat} {f : FS} (hc : Clean nx R f) {j : Nat} (hj : j ∈ R) (x : Operand) : ∀ k ∈ (f.op x).keys, ¬ (nx + 8 * j ≤ k ∧ k < nx + 8 * j + 8 ∧ k % 2 = 0) := by
 intro k hk
 cases x with
 | tmp t => exact hc j hj t k hk
 | const v => rw [show (f.op (.const v)).keys = (cst v).keys from rfl, (cst_ok (w := default) (S := fun _ => False) (V := fun _ => default) (sh := fun _ => none) v).2] at hk; cases hk
 | global g => cases hk
 | func g => cases hk
theorem key_keys {p : PV} {k : Nat} (h : p.key = some k) : k ∈ p.keys := by
 cases p <;> simp [PV.key] at h <;> simp [PV.keys, h]
theorem res_add (hev : nx % 2 = 0) {R : List Nat} {f : FS} (hc : Clean nx R f) {j : Nat} (hj : j ∈ R) {d : Option Nat} {p : PV} {obs : List Ob} (ho : obs.length ≤ 4) {x : Operand} (hx : ∀ t, x = .tmp t → d ≠ some t) : (f.add d p (nx + 8 * j) obs).res x = f.res x := by
 have hop : (f.add d p (nx + 8 * j) obs).op x = f.op x := by
  cases x with
  | tmp t => show (f.add d p (nx + 8 * j) obs).g t = f.g t; rw [add_g, if_neg (hx t rfl)]
  | const v => rfl
  | global g => rfl
  | func g => rfl
 unfold FS.res
 rw [hop]
 congr 1
 rcases hk : (f.op x).key with _ | k
 ·rfl
 ·have := op_keys hc hj x k (key_keys hk)
  show (f.add d p (nx + 8 * j) obs).o k = f.o k
  exact add_out _ _ _ _ _ _ fun i hi q => this ⟨by omega, by omega, by omega⟩
theorem gOk_add {f : FS} {d : Option Nat} {p : PV} {key : Nat} {obs : List Ob} {o : Oper} (h : ∀ t, d = some t → t ∉ o.looksAt ops) : gOk ops o (f.add d p key obs) = gOk ops o f := by
 unfold gOk
 rcases hg : o.guard with _ | ⟨j, want⟩
 ·rfl
 ·simp only
  rcases ht : (ops[j]?).bind (·.dst) with _ | t
  ·rfl
  ·simp only
   rw [add_g, if_neg]
   intro e
   refine h t e ?_
   unfold Oper.looksAt
   rw [hg]
   simp [ht]
theorem looks_op {o : Oper} {t : Nat} (h : Operand.tmp t ∈ o.op.operands.toList) : t ∈ o.looksAt ops := by
 unfold Oper.looksAt
 exact List.mem_append_left _ (List.mem_filterMap.2 ⟨.tmp t, h, rfl⟩)
theorem fre_swap (hev : nx % 2 = 0) {R : List Nat} {f : FS} {i j : Nat} (hij : i ≠ j) (hc : Clean nx R f) (hi : i ∈ R) (hj : j ∈ R) {oi oj : Oper} {pi pj : PV} {bi bj : List Ob} (hap : oi.apart ops oj = true)
  (h1 : Fre P TE N ops (nx + 8 * j) oj f pj bj) (h2 : Fre P TE N ops (nx + 8 * i) oi (f.add oj.dst pj (nx + 8 * j) bj) pi bi) :
  Fre P TE N ops (nx + 8 * i) oi f pi bi ∧ Fre P TE N ops (nx + 8 * j) oj (f.add oi.dst pi (nx + 8 * i) bi) pj bj ∧
   (f.add oj.dst pj (nx + 8 * j) bj).add oi.dst pi (nx + 8 * i) bi = (f.add oi.dst pi (nx + 8 * i) bi).add oj.dst pj (nx + 8 * j) bj := by
 obtain ⟨a1, a2, a3⟩ := Oper.apart_spec hap
 have hli := h2.2.1
 have hlj := h1.2.1
 refine ⟨h2.congr (fun x hx => (res_add hev hc hj hlj fun t e => fun q => a3 t q (looks_op (by rw [← e]; exact hx))).symm) (gOk_add fun t e => a3 t e).symm,
  h1.congr (fun x hx => res_add hev hc hi hli fun t e => fun q => a1 t q (looks_op (by rw [← e]; exact hx))) (gOk_add fun t e => a1 t e), FS.ext (fun t => ?_) (fun k => ?_) (by rw [add_h, add_h, add_h, add_h])⟩
 ·rw [add_g, add_g, add_g, add_g]
  by_cases e1 : oi.dst = some t
  ·rw [if_pos e1, if_neg (a2 t e1), if_pos e1]
  ·rw [if_neg e1, if_neg e1]
 ·by_cases hr : nx + 8 * j ≤ k ∧ k < nx + 8 * j + 8
  ·rw [add_out (f.add oj.dst pj (nx + 8 * j) bj) _ _ _ _ _ (fun n hn q => by
    have : i < j ∨ j < i := by omega
    rcases this with h | h <;> omega)]
   refine add_congr _ _ _ _ _ _ _ (add_out _ _ _ _ _ _ fun n hn q => by
    have : i < j ∨ j < i := by omega
    rcases this with h | h <;> omega).symm
  ·rw [add_out (f.add oi.dst pi (nx + 8 * i) bi) _ _ _ _ _ (fun n hn q => hr ⟨by omega, by omega⟩)]
   exact add_congr _ _ _ _ _ _ _ (add_out _ _ _ _ _ _ fun n hn q => hr ⟨by omega, by omega⟩)
theorem Clean.add {R : List Nat} {f : FS} {j : Nat} {o : Oper} {p : PV} {obs : List Ob} (hc : Clean nx (j :: R) f) (hn : j ∉ R) (h : Fre P TE N ops (nx + 8 * j) o f p obs) : Clean nx R (f.add o.dst p (nx + 8 * j) obs) := by
 intro i hi t k hk
 rw [add_g] at hk
 split at hk
 ·rcases h.2.2.1 k hk with h1 | ⟨x, x1, x2⟩ | hodd
  ·have hne : i ≠ j := fun e => hn (e ▸ hi)
   have : i < j ∨ j < i := by omega
   rcases this with h | h <;> omega
  ·exact op_keys hc (List.mem_cons_of_mem _ hi) x k x2
  ·omega
 ·exact hc i (List.mem_cons_of_mem _ hi) t k hk
def Runs (P : Program) (TE : TypeId → Option Ty) (N : Nat) (ops : Array Oper) (nx : Nat) : List Nat → FS → KF → Prop
 | [], f, K => K f
 | i :: l, f, K => ∃ o, ops[i]? = some o ∧ ((isBar o.op = false ∧ ∃ p obs, Fre P TE N ops (nx + 8 * i) o f p obs ∧ Runs P TE N ops nx l (f.add o.dst p (nx + 8 * i) obs) K) ∨
   (isBar o.op = true ∧ ((gOk ops o f = some true ∧ stp P TE N true (nx + 8 * i) o f fun f' => Runs P TE N ops nx l f' K) ∨ (gOk ops o f = some false ∧ dOk N o.dst ∧ Runs P TE N ops nx l (f.put o.dst .tnil) K))))
theorem runs_first (hev : nx % 2 = 0) {i : Nat} {oi : Oper} (hi : ops[i]? = some oi) (hb : isBar oi.op = false) : ∀ {pre post : List Nat} {f : FS}, (pre ++ i :: post).Nodup → Clean nx (pre ++ i :: post) f → (∀ j ∈ pre, ∀ oj, ops[j]? = some oj → isBar oj.op = false ∧ oi.apart ops oj = true) →
  Runs P TE N ops nx (pre ++ i :: post) f K → ∃ p obs, Fre P TE N ops (nx + 8 * i) oi f p obs ∧ Runs P TE N ops nx (pre ++ post) (f.add oi.dst p (nx + 8 * i) obs) K
 | [], post, f, _, _, _, h => by
  obtain ⟨o, h1, h2⟩ := h
  rw [hi] at h1; injection h1 with h1; subst h1
  rcases h2 with ⟨_, h2⟩ | ⟨h2, _⟩
  ·exact h2
  ·rw [hb] at h2; cases h2
 | j :: pre, post, f, hn, hc, hap, h => by
  obtain ⟨oj, h1, h2⟩ := h
  obtain ⟨hbj, hapj⟩ := hap j List.mem_cons_self oj h1
  have hn' := List.nodup_cons.1 hn
  rcases h2 with ⟨_, pj, bj, h3, h4⟩ | ⟨h2, _⟩
  ·obtain ⟨pi, bi, h5, h6⟩ := runs_first hev hi hb (pre := pre) (post := post) hn'.2 (hc.add hn'.1 h3) (fun k hk => hap k (List.mem_cons_of_mem _ hk)) h4
   have hij : i ≠ j := fun e => hn'.1 (by rw [← e]; simp)
   obtain ⟨q1, q2, q3⟩ := fre_swap hev hij hc (by simp) (by simp) hapj h3 h5
   exact ⟨pi, bi, q1, oj, h1, .inl ⟨hbj, pj, bj, q2, by rw [← q3]; exact h6⟩⟩
  ·rw [hbj] at h2; cases h2
theorem fSt_ex {key T : Nat} {v : Operand} {f : FS} {d : Option Nat} {K : KF} {a : Arg} (h : fSt TE key T v f d K a) : ∃ f', (∀ K' : KF, K' f' → fSt TE key T v f d K' a) ∧ K f' := by
 unfold fSt at h ⊢
 split at h
 ·obtain ⟨h1, h2⟩ := h
  generalize f.res v = r at h2 ⊢
  unfold fStI at h2 ⊢
  split at h2
  ·obtain ⟨q, h2⟩ := h2
   split at h2
   ·rename_i e; exact ⟨_, fun K' k => ⟨h1, q, by first | exact k | (rw [if_pos e]; exact k)⟩, h2⟩
   ·rename_i e; exact ⟨_, fun K' k => ⟨h1, q, by first | exact k | (rw [if_neg e]; exact k)⟩, h2⟩
  ·exact ⟨_, fun K' k => ⟨h1, k⟩, h2⟩
  ·exact ⟨_, fun K' k => ⟨h1, h2.1, k⟩, h2.2⟩
  ·exact h2.elim
 ·rename_i p o hn
  suffices hs : ∃ f', (∀ K' : KF, K' f' → fSto TE T ((f.fzo [v]).res v) (f.fzo [v]) d K' (p, p.key.bind (f.fzo [v]).o)) ∧ K f' by
   obtain ⟨f', r1, r2⟩ := hs
   exact ⟨f', fun K' k => r1 K' k, r2⟩
  generalize (p, p.key.bind (f.fzo [v]).o) = r at h ⊢
  unfold fSto at h ⊢
  split at h
  ·obtain ⟨h1, h2⟩ := h
   split at h2
   ·rename_i e
    obtain ⟨y, y1, y2⟩ := shd_ex h2
    obtain ⟨z, z1, z2⟩ := st_ex y2
    exact ⟨_, fun K' k => ⟨h1, by first | exact y1 _ (z1 _ k) | (rw [e]; exact y1 _ (z1 _ k))⟩, z2⟩
   ·exact h2.elim
  ·exact h.elim
theorem fApp_ex {key T : Nat} {x : Arg} {f : FS} {d : Option Nat} {K : KF} {a : Arg} (h : fApp TE key T x f d K a) : ∃ f', (∀ K' : KF, K' f' → fApp TE key T x f d K' a) ∧ K f' := by
 unfold fApp at h ⊢
 split at h
 ·split at h
  ·rename_i e
   obtain ⟨y, y1, y2⟩ := rd_ex h
   exact ⟨_, fun K' k => by first | exact y1 _ ⟨y2.1, k⟩ | (rw [e]; exact y1 _ ⟨y2.1, k⟩), y2.2⟩
  ·exact h.elim
 ·obtain ⟨h1, h2, h3⟩ := h
  obtain ⟨y, y1, y2⟩ := rd_ex h3
  exact ⟨_, fun K' k => ⟨h1, h2, y1 _ ⟨y2.1, k⟩⟩, y2.2⟩
 ·exact h.elim
theorem fAp_ex {key T : Nat} {x : Operand} {f : FS} {d : Option Nat} {K : KF} {a : Arg} (h : fAp TE key T x f d K a) : ∃ f', (∀ K' : KF, K' f' → fAp TE key T x f d K' a) ∧ K f' := by
 unfold fAp at h ⊢
 split at h
 ·obtain ⟨h1, h2⟩ := h
  generalize f.res x = r at h2 ⊢
  unfold fApI at h2 ⊢
  split at h2
  ·exact ⟨_, fun K' k => ⟨h1, h2.1, k⟩, h2.2⟩
  ·exact h2.elim
 ·rename_i hn
  split at h
  ·rename_i e
   obtain ⟨f', r1, r2⟩ := fApp_ex h
   exact ⟨f', fun K' k => by first | exact r1 K' k | (simp only [e]; exact r1 K' k), r2⟩
  ·rename_i e
   obtain ⟨f', r1, r2⟩ := fApp_ex h
   exact ⟨f', fun K' k => by first | exact r1 K' k | (split <;> first | exact r1 K' k | (rename_i q; exact absurd q (e _ _ _))), r2⟩
theorem bar_ex {key : Nat} {o : Oper} {f : FS} {K : KF} (hb : isBar o.op = true) (h : full TE key o f K) : ∃ f', (∀ K' : KF, K' f' → full TE key o f K') ∧ K f' := by
 obtain ⟨dst, op, type, pos, after, guard⟩ := o
 unfold isBar at hb
 split at hb
 ·rename_i T a v heq
  simp only at heq
  subst heq
  have h : fSt TE key T v f dst K (f.res a) := h
  suffices hs : ∃ f', (∀ K' : KF, K' f' → fSt TE key T v f dst K' (f.res a)) ∧ K f' from hs
  exact fSt_ex h
 ·rename_i T m x y heq
  simp only at heq
  subst heq
  have h : fMUp TE T ((f.fzo [y]).res x) ((f.fzo [y]).res y) (f.fzo [y]) dst K ((f.fzo [y]).res m) := h
  suffices hs : ∃ f', (∀ K' : KF, K' f' → fMUp TE T ((f.fzo [y]).res x) ((f.fzo [y]).res y) (f.fzo [y]) dst K' ((f.fzo [y]).res m)) ∧ K f' from hs
  generalize (f.fzo [y]).res m = r at h ⊢
  unfold fMUp at h ⊢
  split at h
  ·obtain ⟨h1, h2⟩ := h
   obtain ⟨u, u1, u2⟩ := shd_ex h2
   obtain ⟨z, z1, z2⟩ := shd_ex u2
   exact ⟨_, fun K' k => ⟨h1, u1 _ (z1 _ k)⟩, z2⟩
  ·exact h.elim
 ·rename_i al ts heq
  simp only at heq
  subst heq
  have h : (match al.toList, ts.toList with
   | [s, x], [T, T'] => T = T' ∧ fAp TE key T x f dst K (f.res s)
   | _, _ => False) := h
  suffices hs : ∃ f', (∀ K' : KF, K' f' → (match al.toList, ts.toList with
   | [s, x], [T, T'] => T = T' ∧ fAp TE key T x f dst K' (f.res s)
   | _, _ => False)) ∧ K f' from hs
  split at h
  ·obtain ⟨h0, h⟩ := h
   obtain ⟨f', r1, r2⟩ := fAp_ex h
   exact ⟨f', fun K' k => ⟨h0, r1 K' k⟩, r2⟩
  ·exact h.elim
 ·rename_i al ts heq
  simp only at heq
  subst heq
  have h : (match al.toList, ts.toList with
   | [s, x], T :: _ => fCopy TE T (f.res x) f dst K (f.res s)
   | _, _ => False) := h
  suffices hs : ∃ f', (∀ K' : KF, K' f' → (match al.toList, ts.toList with
   | [s, x], T :: _ => fCopy TE T (f.res x) f dst K' (f.res s)
   | _, _ => False)) ∧ K f' from hs
  split at h
  ·unfold fCopy at h ⊢
   split at h
   ·obtain ⟨h1, h2, h3⟩ := h
    obtain ⟨y, y1, y2⟩ := rd_ex h3
    exact ⟨_, fun K' k => ⟨h1, h2, y1 _ k⟩, y2⟩
   ·exact h.elim
  ·exact h.elim
 ·cases hb
theorem bar_fn {op : Op} (hb : isBar op = true) : fnOf op = none := by
 unfold isBar at hb
 split at hb <;> first | rfl | cases hb
theorem stp_bar {key : Nat} {o : Oper} {f : FS} {K K' : KF} (hb : isBar o.op = true) (h : stp P TE N true key o f K) (hK : ∀ f, K f → K' f) : stp P TE N true key o f K' := by
 obtain ⟨h1, h2⟩ := h
 refine ⟨h1, ?_⟩
 rw [bar_fn hb] at h2 ⊢
 simp only at h2 ⊢
 rw [if_pos trivial, if_neg (by rw [hb]; simp)] at h2 ⊢
 obtain ⟨f', r1, r2⟩ := bar_ex hb h2
 exact r1 _ (hK _ r2)
theorem runs_of_rgn : ∀ (l : List Oper) (i0 : Nat) (f : FS), (∀ k o, l[k]? = some o → ops[i0 + k]? = some o) → rgn P TE N true ops (nx + 8 * i0) l f K → Runs P TE N ops nx (List.range' i0 l.length) f K
 | [], i0, f, _, h => h
 | o :: l, i0, f, hl, h => by
  rw [List.length_cons, List.range'_succ]
  have ho : ops[i0]? = some o := hl 0 o rfl
  have hl' : ∀ k o', l[k]? = some o' → ops[i0 + 1 + k]? = some o' := fun k o' e => by
   rw [Nat.add_assoc, Nat.add_comm 1 k]; exact hl (k + 1) o' e
  refine ⟨o, ho, ?_⟩
  rcases hb : isBar o.op with _ | _
  ·left
   refine ⟨rfl, ?_⟩
   rcases grd_out h with ⟨hg, h1⟩ | ⟨hg, hd, h1⟩
   ·obtain ⟨p, obs, h2, h3⟩ := fre_of_stp hg hb h1
    exact ⟨p, obs, h2, runs_of_rgn l (i0 + 1) _ hl' (by rw [Nat.mul_add, Nat.mul_one, ← Nat.add_assoc]; exact h3)⟩
   ·exact ⟨.tnil, [], ⟨hd, by simp, (fun k hk => by cases hk), .inr ⟨hg, rfl, rfl⟩⟩, runs_of_rgn l (i0 + 1) _ hl' (by rw [Nat.mul_add, Nat.mul_one, ← Nat.add_assoc]; exact h1)⟩
  ·right
   refine ⟨rfl, ?_⟩
   rcases grd_out h with ⟨hg, h1⟩ | ⟨hg, hd, h1⟩
   ·left
    refine ⟨hg, ?_⟩
    exact stp_bar hb h1 fun f' h' => runs_of_rgn l (i0 + 1) _ hl' (by rw [Nat.mul_add, Nat.mul_one, ← Nat.add_assoc]; exact h')
   ·exact .inr ⟨hg, hd, runs_of_rgn l (i0 + 1) _ hl' (by rw [Nat.mul_add, Nat.mul_one, ← Nat.add_assoc]; exact h1)⟩
end
end Go.TT
end
section
namespace Go.TT
open Go.RowKit
set_option linter.unusedVariables false
set_option linter.unusedSimpArgs false
section
variable {P : Program} {TE : TypeId → Option Ty} {n0 : Nat → Prop} {w0 : World} {S0 : Nat → Prop} {N nx : Nat} {ops : Array Oper} {K : KF}
def FkR (nx n : Nat) (R : List Nat) : Nat → Prop := fun k => (nx ≤ k ∧ k % 2 = 0) ∧ ∀ i, i < n → i ∉ R → ¬ (nx + 8 * i ≤ k ∧ k < nx + 8 * i + 8)
theorem apart_symm {x y : Oper} (h : x.apart ops y = true) : y.apart ops x = true := by
 obtain ⟨h1, h2, h3⟩ := Oper.apart_spec h
 unfold Oper.apart
 rcases hx : x.dst with _ | d <;> rcases hy : y.dst with _ | e
 ·rfl
 ·simp [h3 e hy]
 ·simp [h1 d hx]
 ·have := h2 d hx
  rw [hy] at this
  simp only [Bool.and_eq_true, Bool.not_eq_true', List.contains_eq_mem, decide_eq_false_iff_not, bne_iff_ne, ne_eq, Option.some.injEq]
  exact ⟨⟨h3 e hy, fun q => this (by rw [q])⟩, h1 d hx⟩
theorem wpAny_draw (hev : nx % 2 = 0) (hTE : ∀ e t, TE e = some t → TyOk P t e) (hord : ordOK ops = true) {Q : Exit → Act → World → Prop} {r : Option Nat} {n : Nat} {U : Act → Prop} (hU : ∀ o ∈ ops.toList, ∀ a v, U a → U (a.put o.dst v)) (hQ : ∀ a' w', Step n0 w0 S0 N (Fe (nx + 8 * ops.size)) K a' w' → U a' → Q .normal a' w') :
  ∀ (m : Nat) (R : List Nat) (listed : Array Bool) (f : FS) (a : Act) (w : World) (S : Nat → Prop) (V : Nat → Value), R.length = m → R.Pairwise (· < ·) → listed.size = ops.size → (∀ i, i ∈ R ↔ (i < ops.size ∧ listed.getD i true = false)) → Closed ops listed →
   RelC n0 w0 S0 N (FkR nx ops.size R) f a w S V → Runs P TE N ops nx R f K → U a → wpAnyIn (rnd r) n P .any ops Q m listed a w := by
 intro m
 induction m with
 | zero =>
  intro R listed f a w S V hl hp hs hm hc hr hrun hu
  have hR : R = [] := List.eq_nil_of_length_eq_zero hl
  subst hR
  refine ⟨?_, hQ a w ⟨f, S, V, hrun, hr.keys fun k hk => ⟨⟨by have := hk.1; omega, hk.2⟩, fun i hi _ => by have := hk.1; omega⟩⟩ hu⟩
  apply List.eq_nil_iff_forall_not_mem.2
  intro j hj
  obtain ⟨h1, o, h2, _⟩ := mem_ready.1 hj
  have := (hm j).2 ⟨(Array.getElem?_eq_some_iff.1 h2).1, h1⟩
  cases this
 | succ m ih =>
  intro R listed f a w S V hl hp hs hm hc hr hrun hu
  have hnd : R.Nodup := hp.imp (fun h => Nat.ne_of_lt h)
  have hlist : ∀ j, j < ops.size → j ∉ R → listed.getD j false = true := fun j hj hn => by
   have h1 : listed.getD j true = true := by
    rcases h' : listed.getD j true with _ | _
    ·exact absurd ((hm j).2 ⟨hj, h'⟩) hn
    ·rfl
   have hj' : j < listed.size := by omega
   simp only [Array.getD, hj', dif_pos] at h1 ⊢
   exact h1
  refine ⟨fun hnil => ?_, fun i hi => ?_⟩
  ·exfalso
   match R, hl with
   | i :: R', _ =>
    have hi := (hm i).1 List.mem_cons_self
    obtain ⟨o, ho⟩ : ∃ o, ops[i]? = some o := ⟨_, Array.getElem?_eq_getElem hi.1⟩
    have : i ∈ Region.ready .any ops listed := mem_ready.2 ⟨hi.2, o, ho, fun e he hb => by
     have h1 := (ordOK_out hord ho).1 e he hb
     refine hlist e.on (by omega) fun hmem => ?_
     rcases List.mem_cons.1 hmem with h2 | h2
     ·omega
     ·have := (List.pairwise_cons.1 hp).1 _ h2; omega⟩
    rw [hnil] at this; cases this
  ·obtain ⟨hi1, oi, hoi, hrdy⟩ := mem_ready.1 hi
   have hisz := (Array.getElem?_eq_some_iff.1 hoi).1
   have hiR : i ∈ R := (hm i).2 ⟨hisz, hi1⟩
   obtain ⟨pre, post, hRe⟩ := List.append_of_mem hiR
   have hpre : ∀ j ∈ pre, j < i := fun j hj => by
    rw [hRe] at hp
    exact (List.pairwise_append.1 hp).2.2 j hj i List.mem_cons_self
   have hni : i ∉ pre ++ post := by
    intro hmem
    rcases List.mem_append.1 hmem with h | h
    ·exact Nat.lt_irrefl _ (hpre i h)
    ·rw [hRe] at hp
     exact Nat.lt_irrefl _ ((List.pairwise_cons.1 (List.pairwise_append.1 hp).2.1).1 i h)
   have hconf : ∀ j ∈ pre, ∀ oj, ops[j]? = some oj → confl ops oj oi = false := fun j hj oj hoj => by
    rcases h' : confl ops oj oi with _ | _
    ·rfl
    ·have := hc.anc' ((ordOK_out hord hoi).2 j oj (hpre j hj) hoj h') (fun o ho e he hb => by
      rw [hoi] at ho; injection ho with ho; subst ho; exact hrdy e he hb)
     have hjR := (hm j).1 (by rw [hRe]; simp [hj])
     have hj' : j < listed.size := by omega
     have h2 := hjR.2
     simp only [Array.getD, hj', dif_pos] at h2 this
     rw [h2] at this; cases this
   have hkeys : ∀ n, n < 4 → FkR nx ops.size R (nx + 8 * i + 2 * n) := fun n hn => ⟨⟨by omega, by omega⟩, fun j hj hjR q => by
    have hne : j ≠ i := fun e => hjR (e ▸ hiR)
    have : i < j ∨ j < i := by omega
    rcases this with h | h <;> omega⟩
   have hless : ∀ k, FkR nx ops.size (pre ++ post) k → lessK (FkR nx ops.size R) (nx + 8 * i) k := fun k hk => ⟨⟨hk.1, fun j hj hjR => hk.2 j hj (fun h => hjR (by rw [hRe]; rcases List.mem_append.1 h with h | h <;> simp [h]))⟩, hk.2 i hisz hni⟩
   have hlen : (pre ++ post).length = m := by rw [hRe] at hl; simp at hl ⊢; omega
   have hpw : (pre ++ post).Pairwise (· < ·) := by
    rw [hRe] at hp
    have h1 := List.pairwise_append.1 hp
    exact List.pairwise_append.2 ⟨h1.1, (List.pairwise_cons.1 h1.2.1).2, fun x hx y hy => h1.2.2 x hx y (List.mem_cons_of_mem _ hy)⟩
   have hsz' : (listed.setIfInBounds i true).size = ops.size := by simpa using hs
   have hm' : ∀ j, j ∈ pre ++ post ↔ (j < ops.size ∧ (listed.setIfInBounds i true).getD j true = false) := fun j => by
    by_cases e : j = i
    ·subst e
     have hlt : j < listed.size := by omega
     constructor
     ·intro h; exact absurd h hni
     ·intro h; have h2 := h.2; simp [Array.getD, hlt] at h2
    ·rw [getD_set_ne true (Ne.symm e), ← hm j, hRe]
     simp [e]
   have hc' : Closed ops (listed.setIfInBounds i true) := fun j o hj ho e he hb => by
    apply getD_set_true
    by_cases q : j = i
    ·subst q; rw [hoi] at ho; injection ho with ho; subst ho; exact hrdy e he hb
    ·rw [getD_set_ne false (Ne.symm q)] at hj; exact hc j o hj ho e he hb
   have next : ∀ (f' : FS) (a' : Act) (w' : World) (S' : Nat → Prop) (V' : Nat → Value), RelC n0 w0 S0 N (FkR nx ops.size (pre ++ post)) f' a' w' S' V' → Runs P TE N ops nx (pre ++ post) f' K → U a' → wpAnyIn (rnd r) n P .any ops Q m (listed.setIfInBounds i true) a' w' :=
    fun f' a' w' S' V' h1 h2 h3 => ih (pre ++ post) _ f' a' w' S' V' hlen hpw hsz' hm' hc' h1 h2 h3
   have huo : ∀ v, U (a.put oi.dst v) := fun v => hU oi (Array.mem_toList_iff.2 (Array.mem_of_getElem? hoi)) a v hu
   unfold wpOpIn
   simp only [hoi]
   rcases hb : isBar oi.op with _ | _
   ·have hpc : ∀ j ∈ pre, ∀ oj, ops[j]? = some oj → isBar oj.op = false ∧ oi.apart ops oj = true := fun j hj oj hoj => by
     have := hconf j hj oj hoj
     simp only [confl, Bool.or_eq_false_iff, Bool.not_eq_false'] at this
     exact ⟨this.1.1, apart_symm this.2⟩
    have hclean : Clean nx (pre ++ i :: post) f := fun j hj t k hk q => by
     rw [← hRe] at hj
     exact hr.fg t k hk (.inl ⟨⟨by omega, q.2.2⟩, fun j' hj' hjR' q' => by
      have hne : j' ≠ j := fun e => hjR' (e ▸ hj)
      have : j < j' ∨ j' < j := by omega
      rcases this with h | h <;> omega⟩)
    obtain ⟨p, obs, hf, hrun'⟩ := runs_first hev hoi hb (hRe ▸ hnd) hclean hpc (hRe ▸ hrun)
    rcases hf.2.2.2 with ⟨hg, _⟩ | ⟨hg, e1, e2⟩
    ·rw [if_pos (gOk_wanted hr hg)]
     refine stp_ok hTE hr hkeys (stp_of_fre (K := fun f' => f' = f.add oi.dst p (nx + 8 * i) obs) hg hb hf rfl) (fun v w' ⟨f', S', V', hK, hr'⟩ => ?_) r n
     subst hK
     exact next _ _ _ _ _ (hr'.keys hless) hrun' (huo _)
    ·rw [if_neg (by rw [gOk_wanted hr hg]; simp)]
     subst e1 e2
     exact ⟨fun _ _ => trivial, next _ _ _ _ _ ((bot_put hr hf.1).keys fun k hk => (hless k hk).1) hrun' (huo _)⟩
   ·have hpn : pre = [] := by
     apply List.eq_nil_iff_forall_not_mem.2
     intro j hj
     have hjR := (hm j).1 (by rw [hRe]; simp [hj])
     have := hconf j hj _ (Array.getElem?_eq_getElem hjR.1)
     simp [confl, hb] at this
    subst hpn
    rw [List.nil_append] at hRe
    rw [hRe] at hrun
    obtain ⟨o', ho', h2⟩ := hrun
    rw [hoi] at ho'; injection ho' with ho'; subst ho'
    rcases h2 with ⟨h2, _⟩ | ⟨_, h2⟩
    ·rw [hb] at h2; cases h2
    ·rcases h2 with ⟨hg, h3⟩ | ⟨hg, hd, h3⟩
     ·rw [if_pos (gOk_wanted hr hg)]
      refine stp_ok hTE hr hkeys h3 (fun v w' ⟨f', S', V', hK, hr'⟩ => ?_) r n
      exact next _ _ _ _ _ (hr'.keys hless) hK (huo _)
     ·rw [if_neg (by rw [gOk_wanted hr hg]; simp)]
      exact ⟨fun _ _ => trivial, next _ _ _ _ _ ((bot_put hr hd).keys fun k hk => (hless k hk).1) h3 (huo _)⟩
theorem region_draw (hev : nx % 2 = 0) (hTE : ∀ e t, TE e = some t → TyOk P t e) (hm : P.follows .mixedOrders = true) (hord : ordOK ops = true) {id : Nat} {f : FS} {a : Act} {w : World} {S : Nat → Prop} {V : Nat → Value} (h : RelC n0 w0 S0 N (Fe nx) f a w S V)
  (he : rgn P TE N true ops nx ops.toList f K) {Q : Exit → Act → World → Prop} {r : Option Nat} {n : Nat} {U : Act → Prop} (hu : U a) (hU : ∀ o ∈ ops.toList, ∀ a v, U a → U (a.put o.dst v)) (hQ : ∀ a' w', Step n0 w0 S0 N (Fe (nx + 8 * ops.size)) K a' w' → U a' → Q .normal a' w') : (Code.region id ops true).wpIn (rnd r) n P Q a w := by
 refine wpIn_region_any hm ?_
 have hruns := runs_of_rgn (nx := nx) ops.toList 0 f (fun k o e => by simpa using e) (by simpa using he)
 have hd : Below w.heap.size w w.drew := (Below.refl _ _).drew
 refine wpAny_draw (nx := nx) hev hTE hord hU hQ ops.size (List.range' 0 ops.toList.length) _ f a _ S V (by simp) List.pairwise_lt_range' (by simp) (fun i => ?_) (fun j o hj => ?_) ((h.grow hd).keys fun k hk => hk.1) hruns hu
 ·rw [List.mem_range'_1]
  simp only [Array.length_toList, Nat.zero_le, true_and, Nat.zero_add]
  constructor
  ·intro hi; exact ⟨hi, by simp [Array.getD, hi]⟩
  ·intro hi; exact hi.1
 ·exfalso
  revert hj
  simp only [Array.getD]
  split
  ·simp
  ·simp
end
end Go.TT
end

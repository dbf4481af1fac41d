/- Machine side and arithmetic of the law, put together by a program of the session. No conditions. -/
import Derived.Laws.CopyRow
import Derived.Test.YtillaipaanancaaGreatKdr7
section
namespace Go.TT
open Go.RowKit
set_option linter.unusedVariables false
set_option linter.unusedSimpArgs false
def fz1 (f : FS) (p : PV) : FS := match p with
 | .own j => f.frz j
 | .ptr j _ _ => f.frz j
 | .vw j _ _ => f.frz j
 | .one _ j => f.frz j
 | _ => f
def FS.fzo (f : FS) : List Operand → FS
 | [] => f
 | x :: l => (fz1 f (f.op x)).fzo l
abbrev KF := FS → Prop
def fEv (TE : TypeId → Option Ty) (key : Nat) (o : Oper) (f : FS) (K : KF) : Prop := ev TE key o.op (o.op.operands.toList.map f.res) fun p obs => K ((f.news key obs).put o.dst p)
def fSto (TE : TypeId → Option Ty) (T : TypeId) (v : Arg) (f : FS) (d : Option Nat) (K : KF) : Arg → Prop
 | (.ptr k i fs, some o) => (o.mu = true ∧ o.t.row = true) ∧ match TE T with
  | some ft => shd ft v fun y => o.t.st fs (o.xs.getD (i : Int).toNat o.t.zv) ⟨ft, y⟩ fun x' => K ((f.set k ⟨o.e, o.t, o.xs.set (i : Int).toNat x', true⟩).put d .bot)
  | none => False
 | _ => False
def fStI (e e' : TypeId) (t' : Ty) (ids : List Nat) (k : Nat) (i : Int) (key : Nat) (f : FS) (d : Option Nat) (K : KF) : Arg → Prop
 | (.own j, some ob) => (ob.e = e' ∧ ob.t = t' ∧ j ≠ k) ∧ if j % 2 = 1 then K ((f.set k ⟨e, .id e' t', List.set ids i.toNat j, true⟩).put d .bot)
   else K (((f.adopt j).set k ⟨e, .id e' t', List.set ids i.toNat (od f.h), true⟩).put d .bot)
 | (.nil, _) => t'.row = true ∧ K ((((f.new key ⟨e', t', [], true⟩).adopt key).set k ⟨e, .id e' t', List.set ids i.toNat (od f.h), true⟩).put d .bot)
 | (.ro (.sl e2 t2) ys, _) => (e2 = e' ∧ t2 = t' ∧ t'.row = true) ∧ K ((((f.new key ⟨e2, t2, ys, false⟩).adopt key).set k ⟨e, .id e' t', List.set ids i.toNat (od f.h), true⟩).put d .bot)
 | _ => False
def fSt (TE : TypeId → Option Ty) (key : Nat) (T : TypeId) (v : Operand) (f : FS) (d : Option Nat) (K : KF) : Arg → Prop
 | (.ptr k i [], some ⟨e, .id e' t', ids, _⟩) => (TE T = some (elT e' t') ∧ elR t' = true) ∧ fStI e e' t' ids k i key f d K (f.res v)
 | (p, o) => fSto TE T ((f.fzo [v]).res v) (f.fzo [v]) d K (p, p.key.bind (f.fzo [v]).o)
def fApp (TE : TypeId → Option Ty) (key : Nat) (T : TypeId) (x : Arg) (f : FS) (d : Option Nat) (K : KF) : Arg → Prop
 | (.nil, _) => match TE T with
  | some (.sl e t) => rdc (.sl e t) x fun ys => List.length ys ≤ 140737488355328 / t.by ∧ K ((f.new key ⟨e, t, ys, true⟩).put d (.own key))
  | _ => False
 | (.own k, some o) => o.mu = true ∧ TE T = some (.sl o.e o.t) ∧ rdc (.sl o.e o.t) x fun ys => o.xs.length + List.length ys ≤ 140737488355328 / o.t.by ∧ K (((f.del k).new key ⟨o.e, o.t, o.xs ++ ys, true⟩).put d (.own key))
 | _ => False
def fApI (e e' : TypeId) (t' : Ty) (ids : List Nat) (k key : Nat) (f : FS) (d : Option Nat) (K : KF) : Arg → Prop
 | (.one e2 j, some ob) => (e2 = e ∧ ob.e = e' ∧ ob.t = t' ∧ j % 2 = 0 ∧ j ≠ k ∧ List.length ids + 1 ≤ 5864062014805) ∧ K ((((f.adopt j).del k).new key ⟨e, .id e' t', ids ++ [od f.h], true⟩).put d (.own key))
 | _ => False
def fAp (TE : TypeId → Option Ty) (key : Nat) (T : TypeId) (x : Operand) (f : FS) (d : Option Nat) (K : KF) : Arg → Prop
 | (.own k, some ⟨e, .id e' t', ids, _⟩) => (TE T = some (.sl e (.sl e' t')) ∧ t'.row = true) ∧ fApI e e' t' ids k key f d K (f.res x)
 | a => match f.res x with
  | (.one e2 j, some ob) => fApp TE key T ((f.frz j).res x) (f.frz j) d K (a.1, a.1.key.bind (f.frz j).o)
  | b => fApp TE key T b f d K a
def fCopy (TE : TypeId → Option Ty) (T : TypeId) (x : Arg) (f : FS) (d : Option Nat) (K : KF) : Arg → Prop
 | (.own k, some o) => o.mu = true ∧ TE T = some (.sl o.e o.t) ∧ rdc (.sl o.e o.t) x fun ys =>
   K ((f.set k ⟨o.e, o.t, List.take o.xs.length ys ++ o.xs.drop (List.length ys), true⟩).put d (.ro (.int .i64) ((Nat.min (List.length ys) o.xs.length : Nat) : Int)))
 | _ => False
def fMUp (TE : TypeId → Option Ty) (T : TypeId) (y v : Arg) (f : FS) (d : Option Nat) (K : KF) : Arg → Prop
 | (.own k, some ⟨e, .mp kt vt, xs, _⟩) => TE T = some (.mp kt vt) ∧ shd kt y fun a => shd vt v fun b => K ((f.set k ⟨e, .mp kt vt, mset kt a b xs, true⟩).put d .bot)
 | _ => False
def fCut (TE : TypeId → Option Ty) (key : Nat) (T : TypeId) (f : FS) (d : Option Nat) (K : KF) (k : Nat) (o : Ob) : Arg → Prop
 | (.ro (.int _) h, _) => TE T = some (.sl o.e o.t) ∧ 0 ≤ (h : Int) ∧ (h : Int) ≤ (o.xs.length : Int) ∧ K (((f.del k).new key ⟨o.e, o.t, o.xs.take (h : Int).toNat, true⟩).put d (.own key))
 | _ => False
def fSli3 (TE : TypeId → Option Ty) (key : Nat) (oo : Oper) (f : FS) (K : KF) : Arg → Prop
 | (.own k, _) => fEv TE key oo (f.frz k) K
 | _ => fEv TE key oo f K
def fSli (TE : TypeId → Option Ty) (key : Nat) (oo : Oper) (T : TypeId) (lo hi : Option Operand) (f : FS) (K : KF) : Arg → Prop
 | (.own k, some o) => match o.mu, lo, hi with
  | true, none, none => TE T = some (.sl o.e o.t) ∧ K (f.put oo.dst (.own k))
  | true, none, some h => fCut TE key T f oo.dst K k o (f.res h)
  | _, _, _ => fEv TE key oo f K
 | _ => fEv TE key oo f K
def fBlS (TE : TypeId → Option Ty) (key : Nat) (oo : Oper) (f : FS) (K : KF) : List Operand → Prop
 | [x] => match f.res x with
  | (.own _, some ⟨_, _, _, true⟩) => fEv TE key oo f K
  | _ => fEv TE key oo (f.fzo [x]) K
 | l => fEv TE key oo (f.fzo l) K
def full (TE : TypeId → Option Ty) (key : Nat) (oo : Oper) (f : FS) (K : KF) : Prop :=
 match oo.op with
 | .store T a v => fSt TE key T v f oo.dst K (f.res a)
 | .mapUpdate T m k v => fMUp TE T ((f.fzo [v]).res k) ((f.fzo [v]).res v) (f.fzo [v]) oo.dst K ((f.fzo [v]).res m)
 | .call { callee := .builtin .append, args := al, argTypes := ts } => match al.toList, ts.toList with
  | [s, x], [T, T'] => T = T' ∧ fAp TE key T x f oo.dst K (f.res s)
  | _, _ => False
 | .call { callee := .builtin .copy, args := al, argTypes := ts } => match al.toList, ts.toList with
  | [s, x], T :: _ => fCopy TE T (f.res x) f oo.dst K (f.res s)
  | _, _ => False
 | .slice T x lo hi none => fSli TE key oo T lo hi f K (f.res x)
 | .slice T x lo hi (some _) => fSli3 TE key oo f K (f.res x)
 | .build _ _ => fEv TE key oo (f.fzo oo.op.operands.toList) K
 | .makeFunc _ _ _ => fEv TE key oo (f.fzo oo.op.operands.toList) K
 | .makeInterface _ _ => fEv TE key oo (f.fzo oo.op.operands.toList) K
 | .buildSlice _ _ _ => fBlS TE key oo f K oo.op.operands.toList
 | .box _ _ => fEv TE key oo (f.fzo oo.op.operands.toList) K
 | _ => fEv TE key oo f K
section
variable {P : Program} {TE : TypeId → Option Ty} {n0 : Nat → Prop} {w0 : World} {S0 : Nat → Prop} {N : Nat} {Fk : Nat → Prop} {f : FS} {a : Act} {w w' : World} {S S' : Nat → Prop} {V V' : Nat → Value} {key : Nat} {K : KF}
theorem RelC.fz1 (h : RelC n0 w0 S0 N Fk f a w S V) (p : PV) : ∃ S', RelC n0 w0 S0 N Fk (fz1 f p) a w S' V ∧ ∀ b, S b → S' b := by
 unfold TT.fz1
 split <;> first | exact h.frz' _ | exact ⟨S, h, fun _ h => h⟩
theorem RelC.fzo' : ∀ (l : List Operand) {f : FS} {S : Nat → Prop}, RelC n0 w0 S0 N Fk f a w S V → ∃ S', RelC n0 w0 S0 N Fk (f.fzo l) a w S' V ∧ ∀ b, S b → S' b
 | [], _, S, h => ⟨S, h, fun _ h => h⟩
 | x :: l, f, S, h => by
  unfold FS.fzo
  obtain ⟨S', h', m⟩ := h.fz1 (f.op x)
  obtain ⟨S2, h2, m2⟩ := RelC.fzo' l h'
  exact ⟨S2, h2, fun b hb => m2 b (m b hb)⟩
theorem RelC.fzo : ∀ (l : List Operand) {f : FS} {S : Nat → Prop}, RelC n0 w0 S0 N Fk f a w S V → ∃ S', RelC n0 w0 S0 N Fk (f.fzo l) a w S' V
 | [], _, S, h => ⟨S, h⟩
 | x :: l, f, S, h => by
  unfold FS.fzo
  obtain ⟨S', h', _⟩ := h.fz1 (f.op x)
  exact RelC.fzo l h'
def Step (n0 : Nat → Prop) (w0 : World) (S0 : Nat → Prop) (N : Nat) (Fk : Nat → Prop) (K : KF) (a' : Act) (w' : World) : Prop := ∃ f' S' V', K f' ∧ RelC n0 w0 S0 N Fk f' a' w' S' V'
theorem news_h : ∀ (obs : List Ob) (f : FS) (key : Nat), (f.news key obs).h = f.h
 | [], f, key => rfl
 | o :: obs, f, key => by unfold FS.news; rw [news_h]; rfl
theorem fEv_ok (hTE : ∀ e t, TE e = some t → TyOk P t e) (h : RelC n0 w0 S0 N Fk f a w S V) (hk : Fk key) (o : Oper) (hd : ∀ i, o.dst = some i → i < N) (he : fEv TE key o f K) :
  ∃ v w', (execOp a.eval o).run P w = .ok (.value v) w' ∧ Step n0 w0 S0 N (lessK Fk key) K (a.put o.dst v) w' := by
 obtain ⟨v, w', h1, p, obs, v', w2, S', V', h2, h3, h4, h5, h6⟩ := ev_ok (P := P) hTE h hk o he
 injection h3 with q1 q2; subst q1 q2
 exact ⟨v, w', h1, _, _, _, h2, h4.put h5 (fun k hk => by rw [show Fr (lessK Fk key) (f.news key obs) k = Fr (lessK Fk key) f k by unfold Fr; rw [news_h]]; exact h6 k hk) o.dst hd⟩
theorem rd_ok (h : RelC n0 w0 S0 N Fk f a w S V) {x : Arg} {vx : Value} {e : TypeId} {t : Ty} {K : List t.den → Prop} (hx : ArgOk Fk f w S V x vx) (he : rdc (.sl e t) x K) :
  ∃ ys A c cs, K ys ∧ vx = .slice A ys.length c ∧ Fl (Cs w S t) ys cs ∧ (ys = [] ∨ ∃ ad, A = some ad ∧ ∀ j u, cs[j]? = some u → w.cell? (ad.add j) = some u) := by
 obtain ⟨p, o⟩ := x
 rcases p with _ | ⟨t', x'⟩ | _ | k' | ⟨k', i, fs⟩ | ⟨t', x'⟩ | ⟨k', l, j⟩ | ⟨e1, k'⟩ | ⟨_, _⟩ | _ <;> simp only [rdc] at he <;> try exact he.elim
 ·obtain ⟨y, e', k⟩ := TV.ofT_out he
  injection e' with e1 e2
  subst e1
  cases e2
  obtain ⟨A, c, cs, e3, e4, e5, e6⟩ := Vs_sl.1 hx.pv
  injection e3 with e3
  exact ⟨y, A, c, cs, k, e3, e5, e6.imp id fun ⟨ad, h1, _, h2⟩ => ⟨ad, h1, h2⟩⟩
 ·exact ⟨[], none, 0, [], he, hx.pv, rfl, .inl rfl⟩
 ·cases o with
  | none => exact he.elim
  | some o =>
   obtain ⟨hr, he⟩ := he
   obtain ⟨ho, hs⟩ := hx.sh rfl
   obtain ⟨y, e', k⟩ := TV.ofT_out he
   injection e' with e1 e2
   injection e1 with e3 e4
   subst e3 e4
   cases e2
   obtain ⟨A, c, cs, e3, e4, e5, e6⟩ := h.own_sl ho hr
   exact ⟨o.xs, A, c, cs, k, by rw [hx.pv _ _ hs]; exact e3, e5, e6⟩
 ·cases o with
  | none => exact he.elim
  | some o =>
   obtain ⟨hr, he⟩ := he
   obtain ⟨ho, hs⟩ := hx.sh rfl
   obtain ⟨y, e', k⟩ := TV.ofT_out he
   injection e' with e1 e2
   injection e1 with e3 e4
   subst e3 e4
   cases e2
   obtain ⟨A, c, cs, e3, e4, e5, e6⟩ := h.own_sl ho hr
   rw [row_ln hr] at hs
   obtain ⟨hlm, hmn, A', m', c', A2, q1, q2, q6⟩ := hx.pv _ _ hs
   rw [e3] at q1
   obtain ⟨q3, q4, q5⟩ := own_len q1
   subst q3 q4 q5
   have hlen : ((o.xs.take j).drop l).length = j - l := by rw [List.length_drop, List.length_take, Nat.min_eq_left hmn]
   refine ⟨_, A2, _, (cs.take (j * o.t.sz)).drop (l * o.t.sz), k, by rw [hlen]; exact q2, Fl_drop (fun _ _ => Cs_len) (Fl_take (fun _ _ => Cs_len) e5 j hmn) l (by rw [List.length_take, Nat.min_eq_left hmn]; exact hlm), ?_⟩
   by_cases hjl : j = l
   ·left; apply List.eq_nil_of_length_eq_zero; rw [hlen]; omega
   ·right
    rcases e6 with e6 | ⟨ad, rfl, hc⟩
    ·rw [e6] at hmn; simp at hmn; omega
    ·refine ⟨ad.add (l * o.t.sz), by rw [q6.resolve_left hjl]; rfl, fun i u hi => ?_⟩
     rw [add_add]
     rw [List.getElem?_drop, List.getElem?_take] at hi
     split at hi
     ·exact hc _ _ hi
     ·cases hi
 ·cases o with
  | none => exact he.elim
  | some o =>
   obtain ⟨y, e', k⟩ := TV.ofT_out he.2
   obtain ⟨tv, rfl, h4⟩ := tvA_ok h hx (K := fun tv => tv = ⟨.sl e1 (.sl o.e o.t), [o.xs]⟩) ⟨he.1, rfl⟩
   rw [e'] at h4
   obtain ⟨A, c, cs, e3, e4, e5, e6⟩ := Vs_sl.1 h4
   injection e3 with e3
   exact ⟨y, A, c, cs, k, e3, e5, e6.imp id fun ⟨ad, h1, _, h2⟩ => ⟨ad, h1, h2⟩⟩
theorem fSto_ok (hTE : ∀ e t, TE e = some t → TyOk P t e) (h : RelC n0 w0 S0 N Fk f a w S V) {T : TypeId} {x y : Arg} {vx vy : Value} {d : Option Nat} (hd : ∀ i, d = some i → i < N) (hx : ArgOk Fk f w S V x vx) (hy : ArgOk Fk f w S V y vy) (he : fSto TE T y f d K x) :
  ∃ w', (Instr.storeAt T vx vy).run P w = .ok () w' ∧ Step n0 w0 S0 N Fk K (a.put d undef) w' := by
 unfold fSto at he
 split at he
 ·rename_i k i fs o
  obtain ⟨hm, he⟩ := he
  split at he
  ·rename_i ft hft
   have hT := hTE _ _ hft
   obtain ⟨z, z1, z2⟩ := shd_ok h hy he
   have hz := Vs_cells z2
   obtain ⟨ho, hs⟩ := hx.sh rfl
   obtain ⟨hm, hr⟩ := hm
   rw [row_ln hr] at hs
   obtain ⟨i0, i1, ad, m, c, q, e1, e2, e3⟩ := hx.pv _ _ hs
   have hi : Int.toNat i < o.xs.length := toNat_lt' i0 i1
   have h1 := h.ob _ _ ho
   have h1' := h1
   rw [OR_own hr hm] at h1'
   obtain ⟨cs, r1, r2⟩ := h1'
   obtain ⟨r3, r4⟩ := r1
   rcases r4 with ⟨r4, r5⟩ | ⟨g, cap, cur, r4, r5, r6, r7, r8, r9, r10⟩
   ·omega
   rw [r4] at e1
   injection e1 with e1 e4 e5
   injection e1 with e1
   obtain ⟨c1, c0, c2, f1, f2, f3, f4, f5⟩ := Fl_at (fun _ _ => Cs_len) r2 _ hi
   rw [getD_of_lt _ _ _ hi] at z1
   obtain ⟨q1, x', x1, x2⟩ := Cs_st z1 f3 hz e2
   have q1 : ft = q.2 := q1
   have hoff := Ty.off_le e2
   have hl0 := Cs_len f3
   have hlv : vy.cells.toList.length = q.2.sz := by rw [← q1]; exact Cs_len hz
   have hcl : cs.length = o.xs.length * o.t.sz := r3
   have hcur : cur.size = cap * o.t.sz := r9
   have hpos : Int.toNat i * o.t.sz + o.t.sz ≤ o.xs.length * o.t.sz := by rw [← Nat.succ_mul]; exact Nat.mul_le_mul_right _ hi
   have hcap : o.xs.length * o.t.sz ≤ cap * o.t.sz := Nat.mul_le_mul_right _ r7
   have haddr : ad.add (Int.toNat i * o.t.sz + q.1) = ⟨g, Int.toNat i * o.t.sz + q.1, none⟩ := by
    rw [← e1]; unfold Addr.add; split
    ·rename_i h0; rw [h0]
    ·simp
   have hst := run_storeCells_at P g (Int.toNat i * o.t.sz + q.1) o.e vy.cells.toList 0 cur w r6 (by rw [hlv]; omega) (fun u hu => Cs_one hz u hu)
   have hrun : (Instr.storeAt T vx vy).run P w = .ok () (w.setRow g (cur.toList.take (Int.toNat i * o.t.sz + q.1) ++ vy.cells.toList ++ cur.toList.drop (Int.toNat i * o.t.sz + q.1 + q.2.sz)).toArray) := by
    rw [e3, haddr]
    have hs1 : vy.cells.size = ft.sz := by rw [← Array.length_toList, hlv, q1]
    simp only [Nat.add_zero, hlv] at hst
    simp [Instr.storeAt, Instr.sureAddr, storeVar, run_sizeOf hT, hs1, hst]
   refine ⟨_, hrun, ?_⟩
   have hgr : w.grownBy (w.setRow g (cur.toList.take (Int.toNat i * o.t.sz + q.1) ++ vy.cells.toList ++ cur.toList.drop (Int.toNat i * o.t.sz + q.1 + q.2.sz)).toArray) (blk (V k)) :=
    ⟨rfl, rfl, rfl, by simp, fun j _ hj => setRow_other w g j _ (fun e => hj (by rw [r4, e]; rfl))⟩
   have ha := h.ag_row ho hm hgr
   have hrel := h.wr (o' := ⟨o.e, o.t, o.xs.set (Int.toNat i) x', true⟩) ho hm rfl (by rw [row_ln hr, row_ln (o := ⟨o.e, o.t, _, true⟩) hr]; simp) rfl hgr (OR_new (cs := c1 ++ (c0.take q.1 ++ (vy.cells.toList ++ c0.drop (q.1 + q.2.sz)) ++ c2)) hr rfl ?_ ?_) (nids hr)
   ·exact ⟨_, S, V, x1, hrel.put (p := .bot) trivial (fun k hk => by cases hk) d hd⟩
   ·rw [r4]
    refine ⟨?_, .inr ⟨g, cap, _, by simp, r5, setRow_heap w g cur _ o.e _ r6, by simpa using r7, r8, ?_, ?_⟩⟩
    ·have : cs.length = c1.length + (c0.length + c2.length) := by rw [f1]; simp
     simp only [List.length_append, List.length_take, List.length_drop, List.length_set, hlv]
     omega
    ·simp only [List.size_toArray, List.length_append, List.length_take, List.length_drop, Array.length_toList, hlv]
     omega
    ·simp only [List.length_set]
     have hcur2 : cur.toList = cs ++ cur.toList.drop (o.xs.length * o.t.sz) := by rw [← r10, List.take_append_drop]
     have hc1 : c1.length = Int.toNat i * o.t.sz := f2
     rw [hcur2, f1]
     generalize cur.toList.drop (o.xs.length * o.t.sz) = rest
     have e6 : (c1 ++ (c0 ++ c2) ++ rest).take (Int.toNat i * o.t.sz + q.1) = c1 ++ c0.take q.1 := by
      rw [List.append_assoc, ← hc1, take_app, List.append_assoc, List.take_append, show q.1 - c0.length = 0 by omega]; simp
     have e7 : (c1 ++ (c0 ++ c2) ++ rest).drop (Int.toNat i * o.t.sz + q.1 + q.2.sz) = c0.drop (q.1 + q.2.sz) ++ (c2 ++ rest) := by
      rw [List.append_assoc, ← hc1, Nat.add_assoc, drop_app, List.append_assoc, List.drop_append, show q.1 + q.2.sz - c0.length = 0 by omega]; simp
     rw [e6, e7]
     have e8 : (c1 ++ (c0.take q.1 ++ (vy.cells.toList ++ c0.drop (q.1 + q.2.sz)) ++ c2)).length = o.xs.length * o.t.sz := by
      have : cs.length = c1.length + (c0.length + c2.length) := by rw [f1]; simp
      simp only [List.length_append, List.length_take, List.length_drop, hlv]
      omega
     rw [← e8]
     have e9 : c1 ++ c0.take q.1 ++ vy.cells.toList ++ (c0.drop (q.1 + q.2.sz) ++ (c2 ++ rest)) = (c1 ++ (c0.take q.1 ++ (vy.cells.toList ++ c0.drop (q.1 + q.2.sz)) ++ c2)) ++ rest := by simp
     show List.take _ (c1 ++ c0.take q.1 ++ vy.cells.toList ++ (c0.drop (q.1 + q.2.sz) ++ (c2 ++ rest))) = _
     rw [e9, List.take_left]
   ·rw [List.set_eq_take_append_cons_drop, if_pos hi]
    refine Fl_append (Fl_Cs_mono (fun _ h => h) ha f4) ⟨_, _, rfl, Cs_mono (fun _ h => h) ha x2, Fl_Cs_mono (fun _ h => h) ha f5⟩
  ·exact he.elim
 ·exact he.elim
theorem run_append_zero {T ty e : TypeId} {t : Ty} {n : Nat} {A : Option Addr} {c : Nat} {v : Value} {cs : List Value} (hu : P.underlying T = some (.slice e)) (hT : TyOk P t e) (hz : 0 < t.sz) (ho : w.ownsRow 0 e t.sz v n cs) :
  (Builtin.append_ #[T, T] ty #[v, .slice A 0 c]).run P w = .ok v w := by
 obtain ⟨A', c', rfl, hc, _⟩ := own_row ho
 have hf : ∀ z, (Builtin.firstCells z 0 (.slice A 0 c)).run P w = .ok #[] w := fun z => by
  cases A with
  | none => simp [Builtin.firstCells]
  | some ad => simp [Builtin.firstCells, loadCells, loadCellsFrom]
 cases A' with
 | none => simp [Builtin.append_, run_underlying hu, run_sizeOf hT, Builtin.lenOf, hc, hf]
 | some ad => simp [Builtin.append_, run_underlying hu, run_sizeOf hT, Builtin.lenOf, hc, hf, storeCells]
theorem append_ok {T ty e : TypeId} {t : Ty} {A : Option Addr} {c : Nat} {v : Value} {cs ds : List Value} {xs ys : List t.den} (hu : P.underlying T = some (.slice e)) (hT : TyOk P t e) (hz : 0 < t.sz) 
  (ho : w.ownsRow 0 e t.sz v xs.length cs) (hl : ∀ x c, Cs w S t x c → c.length = t.sz) (hd : Fl (Cs w S t) ys ds) (hA : ys = [] ∨ ∃ ad, A = some ad ∧ ∀ j u, ds[j]? = some u → w.cell? (ad.add j) = some u)
  (hb : xs.length + ys.length ≤ 140737488355328 / t.by) :
  ∃ v' w', (Builtin.append_ #[T, T] ty #[v, .slice A ys.length c]).run P w = .ok v' w' ∧ w'.ownsRow 0 e t.sz v' (xs.length + ys.length) (cs ++ ds) ∧ w.grownBy w' v.ownBlock ∧ (v'.ownBlock = v.ownBlock ∨ v'.ownBlock = some w.heap.size) := by
 rcases hA with rfl | ⟨ad, rfl, hc⟩
 ·refine ⟨v, w, run_append_zero hu hT hz ho, ?_, ⟨rfl, rfl, rfl, Nat.le_refl _, fun _ _ _ => rfl⟩, .inl rfl⟩
  rw [show ds = [] from hd]
  simpa using ho
 ·obtain ⟨i, z, i1, i2, i3, i4, i5⟩ := hT.info.ex
  have hzs : z.cells.size = t.sz := by rw [← Array.length_toList, i3, zc_len]
  have hby : (xs.length + ys.length) * i.bytes ≤ 140737488355328 := Nat.le_trans (Nat.mul_le_mul hb i5) (Nat.div_mul_le_self _ _)
  have hm : xs.length + ys.length ≤ maxLen := by
   have := Nat.div_le_self 140737488355328 t.by
   simp only [maxLen]; omega
  obtain ⟨v', w', r1, r2, r3, _, r4⟩ := run_append_own_at (P := P) w 0 T ty e i z t.sz i.bytes hu i1 i2 i4 rfl hzs hz v xs.length cs ho ad ys.length c ds (Fl_len hl hd) hc (Fl_all (fun _ _ => Cs_one) hd) hm hby (Nat.zero_le _)
  exact ⟨v', w', r1, r2, r3, r4⟩
theorem own_val {d : Option Nat} {o : Ob} {v' : Value} {f' : FS} {Fk' : Nat → Prop} (h : RelC n0 w0 S0 N (fun j => Fk' j ∧ j ≠ key) (f'.new key o) a w' S (upd V key v')) (hke : key % 2 = 0) (hd : ∀ i, d = some i → i < N) (hK : K ((f'.new key o).put d (.own key))) :
  Step n0 w0 S0 N (lessK Fk' key) K (a.put d v') w' := by
 refine ⟨_, S, _, hK, (h.put (p := .own key) (v := v') ?_ ?_ d hd).keys (fun j hj => ⟨hj.1, fun e => hj.2 (by omega)⟩)⟩
 ·intro n' t' e'; rw [upd_self]
 ·intro k hk; simp [PV.keys] at hk; rw [hk]
  rintro (q | ⟨i, q1, q2⟩)
  ·exact q.2 rfl
  ·have := hke; rw [q2] at this; unfold od at this; omega
theorem fApp_ok (hTE : ∀ e t, TE e = some t → TyOk P t e) (h : RelC n0 w0 S0 N Fk f a w S V) (hk : Fk key) {T ty : TypeId} {x y : Arg} {vx vy : Value} {d : Option Nat} (hd : ∀ i, d = some i → i < N) (hx : ArgOk Fk f w S V x vx) (hy : ArgOk Fk f w S V y vy) (he : fApp TE key T y f d K x) :
  ∃ v' w', (Builtin.append_ #[T, T] ty #[vx, vy]).run P w = .ok v' w' ∧ Step n0 w0 S0 N (lessK Fk key) K (a.put d v') w' := by
 unfold fApp at he
 split at he
 ·split at he
  ·rename_i e t hte
   have hT := hTE _ _ hte
   unfold TyOk at hT
   obtain ⟨hu, _, hT, hz, hr⟩ := hT
   obtain ⟨ys, A, c, ds, ⟨k1, k2⟩, rfl, k3, k4⟩ := rd_ok h hy he
   rw [show vx = .slice none 0 0 from hx.pv]
   obtain ⟨v', w', r1, r2, r3, r4⟩ := append_ok (P := P) (ty := ty) (c := c) (xs := []) hu hT hz (World.ownsRow_nil w 0 e t.sz) (fun _ _ => Cs_len) k3 k4 (by simpa using k1)
   have hbv : blk v' = v'.ownBlock := by obtain ⟨A', c', q, _⟩ := own_row r2; rw [q]; rfl
   refine ⟨v', w', r1, own_val (o := ⟨e, t, ys, true⟩) ((h.grow (below_grown r3)).new hk (OR_new (cs := ds) hr rfl (by simpa using r2) (Fl_Cs_mono (fun _ h => h) (fun b hb => (below_grown r3).block b (h.lt b hb)) k3)) (nids hr) ?_) (h.fe _ hk) hd k2⟩
   intro _ b hb
   rw [hbv] at hb
   rcases r4 with r4 | r4
   ·rw [r4] at hb; cases hb
   ·rw [r4] at hb; injection hb with hb; subst hb
    exact ⟨h.size _ (Nat.le_refl _), fun hs => Nat.lt_irrefl _ (h.lt _ hs), fun k' o' e hm q => Nat.lt_irrefl _ (h.ow k' o' e hm _ q).2⟩
  ·exact he.elim
 ·rename_i k o
  obtain ⟨hm, hte, he⟩ := he
  have hT := hTE _ _ hte
  unfold TyOk at hT
  obtain ⟨hu, _, hT, hz, hr⟩ := hT
  obtain ⟨ho, hs⟩ := hx.sh rfl
  have h1 := h.ob _ _ ho
  rw [OR_own hr hm] at h1
  obtain ⟨cs, h2, h3⟩ := h1
  obtain ⟨ys, A, c, ds, ⟨k1, k2⟩, rfl, k3, k4⟩ := rd_ok h hy he
  obtain ⟨v', w', r1, r2, r3, r4⟩ := append_ok (P := P) (ty := ty) (c := c) hu hT hz h2 (fun _ _ => Cs_len) k3 k4 k1
  rw [hx.pv _ _ hs]
  have hb1 : blk (V k) = (V k).ownBlock := by obtain ⟨A', c', q, _⟩ := own_row h2; rw [q]; rfl
  have hb2 : blk v' = v'.ownBlock := by obtain ⟨A', c', q, _⟩ := own_row r2; rw [q]; rfl
  rw [← hb1] at r3 r4
  rw [← hb2] at r4
  have ha := h.ag_row ho hm r3
  exact ⟨v', w', r1, own_val (o := ⟨o.e, o.t, o.xs ++ ys, true⟩) (h.app ho hm rfl hk r3 (OR_new (cs := cs ++ ds) hr rfl (by rw [List.length_append]; exact r2) (Fl_append (Fl_Cs_mono (fun _ h => h) ha h3) (Fl_Cs_mono (fun _ h => h) ha k3))) (nids hr) r4) (h.fe _ hk) hd k2⟩
 ·exact he.elim
theorem fCut_ok (hTE : ∀ e t, TE e = some t → TyOk P t e) (h : RelC n0 w0 S0 N Fk f a w S V) (hk : Fk key) {T : TypeId} {k : Nat} {o : Ob} {y : Arg} {vx vy : Value} {d : Option Nat} (hd : ∀ i, d = some i → i < N) (hx : ArgOk Fk f w S V (.own k, some o) vx) (hm : o.mu = true) (hy : ArgOk Fk f w S V y vy)
  (he : fCut TE key T f d K k o y) : ∃ v' w', (Instr.sliceAt T vx none (some vy) none).run P w = .ok v' w' ∧ Step n0 w0 S0 N (lessK Fk key) K (a.put d v') w' := by
 unfold fCut at he
 split at he
 ·rename_i kk i o'
  obtain ⟨hte, h0, h1, hK⟩ := he
  have hT := hTE _ _ hte
  unfold TyOk at hT
  obtain ⟨hu, _, hT, hz, hr⟩ := hT
  obtain ⟨ho, hs⟩ := hx.sh rfl
  obtain ⟨m, rfl⟩ := Int.eq_ofNat_of_zero_le h0
  have h1 : m ≤ o.xs.length := Int.ofNat_le.1 h1
  have h2 := h.ob _ _ ho
  rw [OR_own hr hm] at h2
  obtain ⟨cs, h3, h4⟩ := h2
  rw [hy.int, hx.pv _ _ hs]
  obtain ⟨A, c, e1, e2, e3⟩ := own_row h3
  rw [e1, run_sliceAt hu hT 0 m .i64 kk none _ (.inl ⟨rfl, rfl⟩) (.inr rfl) (Nat.zero_le _) (Nat.le_trans h1 e2)]
  have e4 : (if c = 0 then A else A.map (·.add (0 * o.t.sz))) = A := by
   split
   ·rfl
   ·cases A <;> simp [Addr.add]
  rw [e4, Nat.sub_zero, Nat.sub_zero]
  have hbl : blk (Value.slice A m c) = blk (V k) := by rw [e1]; cases A <;> rfl
  have hrow : w.ownsRow 0 o.e o.t.sz (.slice A m c) m (cs.take (m * o.t.sz)) := by
   have hcm : m * o.t.sz ≤ o.xs.length * o.t.sz := Nat.mul_le_mul_right _ h1
   refine ⟨by rw [List.length_take, h3.1]; omega, ?_⟩
   rcases h3.2 with ⟨q1, q2⟩ | ⟨g, cap, cur, q1, q2, q3, q4, q5, q6, q7⟩
   ·rw [e1] at q1; injection q1 with q1 q3 q4
    have : m = 0 := by omega
    exact .inl ⟨by rw [q1, q4, this], this⟩
   ·rw [e1] at q1; injection q1 with q1 q8 q9
    refine .inr ⟨g, c, cur, by rw [q1], q2, q3, by omega, by omega, by rw [q9]; exact q6, ?_⟩
    rw [← q7, List.take_take, Nat.min_eq_left hcm]
  refine ⟨_, w, rfl, own_val (o := ⟨o.e, o.t, o.xs.take m, true⟩) (h.app ho hm rfl hk ⟨rfl, rfl, rfl, Nat.le_refl _, fun _ _ _ => rfl⟩ (OR_new (cs := cs.take (m * o.t.sz)) hr rfl ?_ (Fl_take (fun _ _ => Cs_len) h4 m h1)) (nids hr) (.inl hbl)) (h.fe _ hk) hd hK⟩
  rw [List.length_take, Nat.min_eq_left h1]; exact hrow
 ·exact he.elim
theorem fCopy_ok (hTE : ∀ e t, TE e = some t → TyOk P t e) (h : RelC n0 w0 S0 N Fk f a w S V) {T ty : TypeId} {ts : Array TypeId} (hts : ts[0]? = some T) {x y : Arg} {vx vy : Value} {d : Option Nat} (hd : ∀ i, d = some i → i < N) (hx : ArgOk Fk f w S V x vx) (hy : ArgOk Fk f w S V y vy) (he : fCopy TE T y f d K x) :
  ∃ v' w', (Builtin.copy_ ts ty #[vx, vy]).run P w = .ok v' w' ∧ Step n0 w0 S0 N Fk K (a.put d v') w' := by
 unfold fCopy at he
 split at he
 ·rename_i k o
  obtain ⟨hm, hte, he⟩ := he
  have hT := hTE _ _ hte
  unfold TyOk at hT
  obtain ⟨hu, _, hT, hz, hrw⟩ := hT
  obtain ⟨ho, hs⟩ := hx.sh rfl
  have h1 := h.ob _ _ ho
  rw [OR_own hrw hm] at h1
  obtain ⟨cs, h2, h3⟩ := h1
  obtain ⟨ys, A, c, ds, hK, rfl, k3, k4⟩ := rd_ok h hy he
  rw [hx.pv _ _ hs]
  have hdl := Fl_len (fun _ _ => Cs_len) k3
  have hmn : Nat.min ys.length o.xs.length ≤ ys.length := Nat.min_le_left _ _
  have hmo : Nat.min ys.length o.xs.length ≤ o.xs.length := Nat.min_le_right _ _
  generalize hq : Nat.min ys.length o.xs.length = q at *
  have hk3 := Fl_take (fun _ _ => Cs_len) k3 q hmn
  have hkl : (ds.take (q * o.t.sz)).length = q * o.t.sz := by rw [List.length_take, hdl]; exact Nat.min_eq_left (Nat.mul_le_mul_right _ hmn)
  have hf : (Builtin.firstCells o.t.sz q (.slice A ys.length c)).run P w = .ok (ds.take (q * o.t.sz)).toArray w := by
   rcases k4 with rfl | ⟨ad, rfl, hc⟩
   ·have : q = 0 := by simpa using hmn
    subst this
    cases A <;> simp [Builtin.firstCells, loadCells, loadCellsFrom]
   ·exact run_firstCells_some (P := P) w o.t.sz q ad ys.length c _ hkl (fun j u hj => hc j u (by
     rw [List.getElem?_take] at hj
     split at hj
     ·exact hj
     ·cases hj))
  have hys : List.take o.xs.length ys = ys.take q := by
   rw [← hq]
   rcases Nat.le_total ys.length o.xs.length with h | h
   ·rw [List.take_of_length_le h, show Nat.min ys.length o.xs.length = ys.length from Nat.min_eq_left h, List.take_of_length_le (Nat.le_refl _)]
   ·rw [show Nat.min ys.length o.xs.length = o.xs.length from Nat.min_eq_right h]
  have hxs : o.xs.drop ys.length = o.xs.drop q := by
   rw [← hq]
   rcases Nat.le_total ys.length o.xs.length with h | h
   ·rw [show Nat.min ys.length o.xs.length = ys.length from Nat.min_eq_left h]
   ·rw [show Nat.min ys.length o.xs.length = o.xs.length from Nat.min_eq_right h, List.drop_of_length_le h, List.drop_of_length_le (Nat.le_refl _)]
  rw [hys, hxs] at hK
  have hfin : Fl (Cs w S o.t) (ys.take q ++ o.xs.drop q) (ds.take (q * o.t.sz) ++ cs.drop (q * o.t.sz)) := Fl_append hk3 (Fl_drop (fun _ _ => Cs_len) h3 q hmo)
  have hone : ∀ u ∈ ds.take (q * o.t.sz), u.oneCell' = true := Fl_all (fun _ _ => Cs_one) hk3
  rcases h2.2 with ⟨q1, q2⟩ | ⟨g, cap, cur, q1, q2, q3, q4, q5, q6, q7⟩
  ·have hq0 : q = 0 := by omega
   subst hq0
   have hr : (Builtin.copy_ ts ty #[V k, .slice A ys.length c]).run P w = .ok (goInt 0) w := by
    rw [q1]
    have : Nat.min ys.length 0 = 0 := Nat.min_zero _
    simp only [Nat.zero_mul, List.take_zero] at hf
    simp [Builtin.copy_, hts, run_underlying hu, run_sizeOf hT, Builtin.lenOf, this, hf]
   refine ⟨_, w, hr, _, S, V, hK, (h.wr (o' := ⟨o.e, o.t, ys.take 0 ++ o.xs.drop 0, true⟩) ho hm rfl (by rw [row_ln hrw, row_ln (o := ⟨o.e, o.t, _, true⟩) hrw]; simp) rfl ⟨rfl, rfl, rfl, Nat.le_refl _, fun _ _ _ => rfl⟩ ?_ (nids hrw)).put (p := .ro (.int .i64) ((0 : Nat) : Int)) (Vs_int.2 rfl) (fun k hk => by cases hk) d hd⟩
   have := h.ob _ _ ho
   rw [OR_own hrw hm] at this
   rw [OR_own (o := ⟨o.e, o.t, _, true⟩) hrw rfl]
   simpa using this
  ·have hn' : (V k) = .slice (some ⟨g, 0, none⟩) o.xs.length cap := q1
   have hcl : cs.length = o.xs.length * o.t.sz := h2.1
   have hqz : q * o.t.sz ≤ o.xs.length * o.t.sz := Nat.mul_le_mul_right _ hmo
   have hcap : o.xs.length * o.t.sz ≤ cap * o.t.sz := Nat.mul_le_mul_right _ q4
   have hst := run_storeCells_at P g 0 o.e (ds.take (q * o.t.sz)) 0 cur w q3 (by rw [hkl, q6]; omega) hone
   simp only [Nat.add_zero, Nat.zero_add, List.take_zero, List.nil_append, hkl] at hst
   have hr : (Builtin.copy_ ts ty #[V k, .slice A ys.length c]).run P w = .ok (goInt (q : Int)) (w.setRow g (ds.take (q * o.t.sz) ++ cur.toList.drop (q * o.t.sz)).toArray) := by
    rw [hn']
    simp [Builtin.copy_, hts, run_underlying hu, run_sizeOf hT, Builtin.lenOf, hq, hf, hst]
   have hgr : w.grownBy (w.setRow g (ds.take (q * o.t.sz) ++ cur.toList.drop (q * o.t.sz)).toArray) (blk (V k)) := ⟨rfl, rfl, rfl, by simp, fun j _ hj => setRow_other w g j _ (fun e => hj (by rw [hn', e]; rfl))⟩
   have ha := h.ag_row ho hm hgr
   refine ⟨_, _, hr, _, S, V, hK, (h.wr (o' := ⟨o.e, o.t, ys.take q ++ o.xs.drop q, true⟩) ho hm rfl (by rw [row_ln hrw, row_ln (o := ⟨o.e, o.t, _, true⟩) hrw]; simp; omega) rfl hgr (OR_new (cs := ds.take (q * o.t.sz) ++ cs.drop (q * o.t.sz)) hrw rfl ?_ (Fl_Cs_mono (fun _ h => h) ha hfin)) (nids hrw)).put (p := .ro (.int .i64) (q : Int)) (Vs_int.2 rfl) (fun k hk => by cases hk) d hd⟩
   have hlen : (ys.take q ++ o.xs.drop q).length = o.xs.length := by simp; omega
   simp only [hlen]
   refine ⟨by rw [List.length_append, hkl, List.length_drop]; omega, .inr ⟨g, cap, _, hn', q2, setRow_heap w g cur _ o.e _ q3, q4, q5, ?_, ?_⟩⟩
   ·simp only [List.size_toArray, List.length_append, hkl, List.length_drop, Array.length_toList]; omega
   ·have hcur2 : cur.toList = cs ++ cur.toList.drop (o.xs.length * o.t.sz) := by rw [← q7, List.take_append_drop]
    rw [hcur2]
    generalize cur.toList.drop (o.xs.length * o.t.sz) = rest
    show List.take (o.xs.length * o.t.sz) (ds.take (q * o.t.sz) ++ (cs ++ rest).drop (q * o.t.sz)) = _
    rw [List.drop_append, show q * o.t.sz - cs.length = 0 by omega, List.drop_zero, ← List.append_assoc]
    have : (ds.take (q * o.t.sz) ++ cs.drop (q * o.t.sz)).length = o.xs.length * o.t.sz := by rw [List.length_append, hkl, List.length_drop]; omega
    rw [← this, List.take_left]
 ·exact he.elim
theorem row_store1 {T e : TypeId} {t : Ty} {v u : Value} {n i m c : Nat} {ad : Addr} {cs : List Value} (hT : TyOk P t T) (ht : t.sz = 1) (h2 : w.ownsRow 0 e 1 v n cs) (hi : i < n) (hu : u.cells = #[u]) (hone : u.oneCell' = true) (hv : v = .slice (some ad) m c) :
  ∃ w', (Instr.storeAt T (.pointer (some (ad.add i))) u).run P w = .ok () w' ∧ w.grownBy w' (blk v) ∧ w'.ownsRow 0 e 1 v n (cs.set i u) := by
 obtain ⟨r3, r4⟩ := h2
 rcases r4 with ⟨r4, r5⟩ | ⟨g, cap, cur, r4, r5, r6, r7, r8, r9, r10⟩
 ·omega
 rw [hv] at r4
 injection r4 with q1 q2 q3
 injection q1 with q1
 have haddr : ad.add i = ⟨g, i, none⟩ := by
  rw [q1]; unfold Addr.add; split
  ·rename_i h0; rw [h0]
  ·simp
 have hst := run_storeCells_at P g i e [u] 0 cur w r6 (by simp; omega) (fun x hx => by rw [List.mem_singleton.1 hx]; exact hone)
 refine ⟨w.setRow g (cur.toList.take i ++ [u] ++ cur.toList.drop (i + 1)).toArray, ?_, ⟨rfl, rfl, rfl, by simp, fun j _ hj => setRow_other w g j _ (fun e => hj (by rw [hv, q1, e]; rfl))⟩, ?_⟩
 ·rw [haddr]
  simp only [Nat.add_zero, List.length_singleton] at hst
  simp [Instr.storeAt, Instr.sureAddr, storeVar, run_sizeOf hT, hu, ht, hst]
 ·refine ⟨by simpa using r3, .inr ⟨g, cap, _, by rw [hv, q1, q2, q3], Nat.zero_le _, setRow_heap w g cur _ e _ r6, r7, r8, ?_, ?_⟩⟩
  ·simp; omega
  ·have hcl : cs.length = n * 1 := r3
   have hcur2 : cur.toList = cs ++ cur.toList.drop (n * 1) := by rw [← r10, List.take_append_drop]
   have hset : cur.toList.take i ++ [u] ++ cur.toList.drop (i + 1) = cur.toList.set i u := by
    rw [List.set_eq_take_append_cons_drop, if_pos (by simp; omega)]; simp
   simp only [hset]
   rw [hcur2, List.set_append_left _ _ (by omega)]
   show List.take (n * 1) (cs.set i u ++ _) = _
   rw [List.take_append_of_le_length (by simp; omega), List.take_of_length_le (by simp; omega)]
theorem op_g {f f' : FS} (h : f'.g = f.g) (x : Operand) : f'.op x = f.op x := by cases x <;> simp [FS.op, h]
theorem frz_g (f : FS) (j : Nat) : (f.frz j).g = f.g := by unfold FS.frz; split <;> rfl
theorem fz1_g (f : FS) (p : PV) : (fz1 f p).g = f.g := by unfold TT.fz1; split <;> first | exact frz_g _ _ | rfl
theorem fzo_g : ∀ (l : List Operand) (f : FS), (f.fzo l).g = f.g
 | [], f => rfl
 | x :: l, f => by unfold FS.fzo; rw [fzo_g l, fz1_g]
def IsEl (v : Value) : Prop := (∃ A n c, v = .slice A n c) ∨ ∃ r, v = .map r
theorem own_isEl (h : RelC n0 w0 S0 N Fk f a w S V) {j : Nat} {ob : Ob} (e : f.o j = some ob) (hr : elR ob.t = true) : IsEl (V j) := by
 by_cases hr2 : ob.t.row = true
 ·obtain ⟨A, c, cs, e1, _⟩ := h.own_sl e hr2; exact .inl ⟨A, _, c, e1⟩
 ·obtain ⟨e0, t, xs, m⟩ := ob
  simp only at hr hr2
  cases t <;> first | exact absurd hr hr2 | skip
  obtain ⟨_, q⟩ := OR_x rfl (h.ob _ _ e)
  obtain ⟨r, es, c, q1, _⟩ := q
  exact .inr ⟨_, q1⟩
theorem stI_core (h : RelC n0 w0 S0 N Fk f a w S V) {k : Nat} {e e' : TypeId} {t' : Ty} {ids : List Nat} {m : Bool} (ho : f.o k = some ⟨e, .id e' t', ids, m⟩) {i : Int} (i0 : 0 ≤ i) (i1 : i < (List.length ids : Int)) {j0 : Nat} (hj : j0 < f.h) (hv : IsEl (V (od j0)))
  {ad : Addr} {m' c' : Nat} (e1 : V k = .slice (some ad) m' c') {T : TypeId} (hT : TyOk P (elT e' t') T) :
  ∃ w', (Instr.storeAt T (.pointer (some (ad.add i.toNat))) (V (od j0))).run P w = .ok () w' ∧ RelC n0 w0 S0 N Fk (f.set k ⟨e, .id e' t', List.set ids i.toNat (od j0), true⟩) a w' S V := by
 have h5 := (OR_x rfl (h.ob _ _ ho)).2
 have h5 : w.ownsRow 0 e 1 (V k) (List.length ids) (List.map V ids) := h5
 have hm : m = true := (OR_x rfl (h.ob _ _ ho)).1
 obtain ⟨w', r1, r2, r3⟩ := row_store1 (P := P) (i := i.toNat) (u := V (od j0)) hT elT_sz h5 (toNat_lt' i0 i1) (by rcases hv with ⟨_, _, _, hv⟩ | ⟨_, hv⟩ <;> (rw [hv]; rfl)) (by rcases hv with ⟨_, _, _, hv⟩ | ⟨_, hv⟩ <;> (rw [hv]; rfl)) e1
 refine ⟨w', r1, h.wr (o' := ⟨e, .id e' t', List.set ids i.toNat (od j0), true⟩) ho hm rfl (by show List.length _ = List.length _; simp) rfl r2 ?_ fun x hx => ?_⟩
 ·rw [OR_id, List.length_set, List.map_set]; exact r3
 ·rcases List.mem_or_eq_of_mem_set (show x ∈ List.set ids i.toNat (od j0) from hx) with hx | hx
  ·exact h.fi _ _ ho x hx
  ·exact ⟨j0, hj, hx⟩
theorem own_isSl (h : RelC n0 w0 S0 N Fk f a w S V) {j : Nat} {ob : Ob} (e : f.o j = some ob) (hr : ob.t.row = true) : ∃ A n c, V j = .slice A n c := by
 obtain ⟨A, c, cs, e1, _⟩ := h.own_sl e hr; exact ⟨A, _, c, e1⟩
theorem odd_od {j : Nat} (h : j % 2 = 1) : j = od (j / 2) := by unfold od; omega
theorem adopt_eq {j : Nat} {ob : Ob} (e : f.o j = some ob) : f.adopt j = ⟨f.g, upd (upd f.o j none) (od f.h) (some ob), f.h + 1⟩ := by unfold FS.adopt; rw [e]
theorem adopt_o (h : RelC n0 w0 S0 N Fk f a w S V) {j k : Nat} {ob ob' : Ob} (e : f.o j = some ob) (e' : f.o k = some ob') (hne : j ≠ k) : (f.adopt j).o k = some ob' := by
 rw [adopt_eq e]
 show upd (upd f.o j none) (od f.h) (some ob) k = some ob'
 unfold upd
 rw [if_neg (fun q => by rw [q, h.fr _ (.inr ⟨f.h, Nat.le_refl _, rfl⟩)] at e'; cases e'), if_neg (Ne.symm hne)]
 exact e'
theorem adopt_V (h : RelC n0 w0 S0 N Fk f a w S V) {j k : Nat} {ob' : Ob} (e' : f.o k = some ob') : upd V (od f.h) (V j) k = V k := by
 unfold upd
 rw [if_neg (fun q => by rw [q, h.fr _ (.inr ⟨f.h, Nat.le_refl _, rfl⟩)] at e'; cases e')]
theorem fStI_ok (h : RelC n0 w0 S0 N Fk f a w S V) (hk : Fk key) {T : TypeId} {k : Nat} {i : Int} {e e' : TypeId} {t' : Ty} {ids : List Nat} {m : Bool} {y : Arg} {vx vy : Value} {d : Option Nat} (hd : ∀ i, d = some i → i < N) (hx : ArgOk Fk f w S V (.ptr k i [], some ⟨e, .id e' t', ids, m⟩) vx) (hy : ArgOk Fk f w S V y vy)
  (hT : TyOk P (elT e' t') T) (hrow : elR t' = true) (he : fStI e e' t' ids k i key f d K y) : ∃ w', (Instr.storeAt T vx vy).run P w = .ok () w' ∧ Step n0 w0 S0 N (lessK Fk key) K (a.put d undef) w' := by
 obtain ⟨ho, hs⟩ := hx.sh rfl
 obtain ⟨i0, i1, ad, m', c', q, e1, e2, e3⟩ := hx.pv _ _ hs
 have i1 : i < (List.length ids : Int) := i1
 have e2 : some (0, Ty.id e' t') = some q := by simpa [Ty.off] using e2
 injection e2 with e2; subst e2
 have hsz : Int.toNat i * Ty.sz (.id e' t') + 0 = Int.toNat i := by show Int.toNat i * 1 + 0 = _; omega
 have e3 : vx = .pointer (some (ad.add i.toNat)) := by rw [e3]; show Value.pointer (some (ad.add (Int.toNat i * Ty.sz (.id e' t') + 0))) = _; rw [hsz]
 have fin : ∀ {f' : FS} {S' : Nat → Prop} {V' : Nat → Value} {w' : World} {Fk' : Nat → Prop}, RelC n0 w0 S0 N Fk' f' a w' S' V' → (∀ j, lessK Fk key j → Fk' j) → K (f'.put d .bot) → Step n0 w0 S0 N (lessK Fk key) K (a.put d undef) w' := fun {f' S' V' w' Fk'} hr hsub hK =>
  ⟨_, S', V', hK, (hr.put (p := .bot) trivial (fun k hk => by cases hk) d hd).keys hsub⟩
 -- a new object, adopted at once
 have viaNew : ∀ (ob : Ob), ob.t.row = true → OR w S V ob vy → ob.mu = false ∨ blk vy = none → (∃ A n c, vy = .slice A n c) → K ((((f.new key ob).adopt key).set k ⟨e, .id e' t', List.set ids i.toNat (od f.h), true⟩).put d .bot) →
   ∃ w', (Instr.storeAt T vx vy).run P w = .ok () w' ∧ Step n0 w0 S0 N (lessK Fk key) K (a.put d undef) w' := by
  intro ob hr hob hbl ⟨A, n, c, hsl⟩ hK
  have h1 := h.new (v := vy) hk hob (nids hr) (fun hm b hb => by
   rcases hbl with q | q
   ·rw [q] at hm; cases hm
   ·rw [q] at hb; cases hb)
  have hok : (f.new key ob).o key = some ob := by simp [FS.new, upd]
  have hkk : k ≠ key := fun q => by rw [q, h.fr key (.inl hk)] at ho; cases ho
  have hok2 : (f.new key ob).o k = some ⟨e, .id e' t', ids, m⟩ := by simp [FS.new, upd, hkk]; exact ho
  have h2 := h1.adopt hok
  have hV2 : upd (upd V key vy) (od (f.new key ob).h) (upd V key vy key) (od (f.new key ob).h) = vy := by simp [upd]
  have hVk : upd (upd V key vy) (od (f.new key ob).h) (upd V key vy key) k = V k := by
   rw [adopt_V h1 hok2]; simp [upd, hkk]
  have hk2 := adopt_o h1 hok hok2 (Ne.symm hkk)
  rw [adopt_eq hok] at hk2 hK
  obtain ⟨w', r1, r2⟩ := stI_core (P := P) (T := T) h2 hk2 i0 i1 (j0 := (f.new key ob).h) (Nat.lt_succ_self _) (by rw [hV2]; exact .inl ⟨_, _, _, hsl⟩) (by rw [hVk]; exact e1) hT
  rw [hV2] at r1
  refine ⟨w', by rw [e3]; exact r1, fin r2 (fun j hj => ⟨hj.1, fun q => hj.2 (by omega)⟩) hK⟩
 unfold fStI at he
 split at he
 ·rename_i j ob
  obtain ⟨⟨he1, he2, hne⟩, he⟩ := he
  obtain ⟨hoj, hsj⟩ := hy.sh rfl
  have hvy : vy = V j := hy.pv _ _ hsj
  have hsl := own_isEl h hoj (by rw [he2]; exact hrow)
  split at he
  ·rename_i hodd
   have hj0 : j / 2 < f.h := by
    rcases Nat.lt_or_ge (j / 2) f.h with q | q
    ·exact q
    ·exact absurd (.inr ⟨j / 2, q, odd_od hodd⟩) (hy.ks j (List.mem_cons_self ..))
   have hsl' : IsEl (V (od (j / 2))) := by rw [← odd_od hodd]; exact hsl
   obtain ⟨w', r1, r2⟩ := stI_core (P := P) (T := T) h ho i0 i1 hj0 hsl' e1 hT
   rw [← odd_od hodd] at r1 r2
   exact ⟨w', by rw [e3, hvy]; exact r1, fin r2 (fun j hj => hj.1) he⟩
  ·have h2 := h.adopt hoj
   have hk2 := adopt_o h hoj ho hne
   rw [adopt_eq hoj] at hk2 he
   have hV2 : upd V (od f.h) (V j) (od f.h) = V j := by simp [upd]
   obtain ⟨w', r1, r2⟩ := stI_core (P := P) (T := T) h2 hk2 i0 i1 (j0 := f.h) (Nat.lt_succ_self _) (by rw [hV2]; exact hsl) (by rw [adopt_V h ho]; exact e1) hT
   rw [hV2] at r1
   exact ⟨w', by rw [e3, hvy]; exact r1, fin r2 (fun j hj => hj.1) he⟩
 ·have hvy : vy = .slice none 0 0 := hy.pv
  obtain ⟨hrow, he⟩ := he
  exact viaNew ⟨e', t', [], true⟩ hrow (by rw [hvy]; exact OR_nil hrow) (.inr (by rw [hvy]; rfl)) ⟨_, _, _, hvy⟩ he
 ·rename_i e5 t5 ys o5
  obtain ⟨⟨q5, q6, hrow⟩, he⟩ := he
  have hc := Vs_sl.1 hy.pv
  have hc2 := hc
  obtain ⟨A, c, cs, q1, _⟩ := hc2
  injection q1 with q1
  have hr5 : t5.row = true := by rw [q6]; exact hrow
  exact viaNew ⟨e5, t5, ys, false⟩ hr5 (by rw [OR_fz hr5 rfl]; exact hc) (.inl rfl) ⟨_, _, _, q1⟩ he
 ·exact he.elim
theorem fSt_ok (hTE : ∀ e t, TE e = some t → TyOk P t e) (h : RelC n0 w0 S0 N Fk f a w S V) (hk : Fk key) {T : TypeId} {x y : Operand} {d : Option Nat} (hd : ∀ i, d = some i → i < N) (he : fSt TE key T y f d K (f.res x)) :
  ∃ w', (Instr.storeAt T (a.eval x) (a.eval y)).run P w = .ok () w' ∧ Step n0 w0 S0 N (lessK Fk key) K (a.put d undef) w' := by
 have hx := h.arg x
 unfold fSt at he
 split at he
 ·rename_i k i e e' t' ids m heq
  rw [heq] at hx
  exact fStI_ok h hk hd hx (h.arg y) (hTE _ _ he.1.1) he.1.2 he.2
 ·rename_i p o _ heq
  obtain ⟨S', h'⟩ := h.fzo [y]
  have hxe : (p, p.key.bind (f.fzo [y]).o) = (f.fzo [y]).res x := by
   have : p = f.op x := by have := congrArg Prod.fst heq; exact this.symm
   unfold FS.res
   rw [op_g (fzo_g _ _), this]
  rw [hxe] at he
  obtain ⟨w', r1, f', S2, V2, r2, r3⟩ := fSto_ok (P := P) hTE h' hd (h'.arg x) (h'.arg y) he
  exact ⟨w', r1, f', S2, V2, r2, r3.keys fun k h => h.1⟩
theorem fApI_ok (h : RelC n0 w0 S0 N Fk f a w S V) (hk : Fk key) {T ty : TypeId} {k : Nat} {e e' : TypeId} {t' : Ty} {ids : List Nat} {m : Bool} {y : Arg} {vx vy : Value} {d : Option Nat} (hd : ∀ i, d = some i → i < N) (hx : ArgOk Fk f w S V (.own k, some ⟨e, .id e' t', ids, m⟩) vx) (hy : ArgOk Fk f w S V y vy)
  (hu : P.underlying T = some (.slice e)) (hT : TyOk P (.sl e' t') e) (hrow : t'.row = true) (he : fApI e e' t' ids k key f d K y) : ∃ v' w', (Builtin.append_ #[T, T] ty #[vx, vy]).run P w = .ok v' w' ∧ Step n0 w0 S0 N (lessK Fk key) K (a.put d v') w' := by
 unfold fApI at he
 split at he
 ·rename_i e2 j ob
  obtain ⟨⟨rfl, he1, he2, hje, hne, hb⟩, hK⟩ := he
  obtain ⟨ho, hs⟩ := hx.sh rfl
  obtain ⟨hoj, hsj⟩ := hy.sh rfl
  obtain ⟨ad, c, q1, q2, q3, q4⟩ := hy.pv _ _ hsj
  have h5 := (OR_x rfl (h.ob _ _ ho)).2
  have hm : m = true := (OR_x rfl (h.ob _ _ ho)).1
  have h5 : w.ownsRow 0 e2 1 (V k) (List.length ids) (List.map V ids) := h5
  obtain ⟨i, z, i1, i2, i3, i4, i5⟩ := hT.info.ex
  obtain ⟨A, n2, c2, hsl⟩ := own_isSl h hoj (by rw [he2]; exact hrow)
  have hzs : z.cells.size = 1 := by rw [← Array.length_toList, i3, zc_len]; rfl
  have hby : (List.length ids + 1) * i.bytes ≤ 140737488355328 := by
   have : i.bytes ≤ 24 := i5
   have := Nat.mul_le_mul hb this
   omega
  obtain ⟨v', w', r1, r2, r3, _, r4⟩ := run_append_own_at (P := P) w 0 T ty e2 i z 1 i.bytes hu i1 i2 i4 rfl hzs (by omega) (V k) (List.length ids) (List.map V ids) h5 ad 1 c [V j] rfl (fun l u hl => by
   cases l with
   | zero =>
    have hl : some (V j) = some u := hl
    injection hl with hl; subst hl
    rw [show ad.add 0 = ad from rfl]; exact q4
   | succ l => cases hl) (fun u hu => by rw [List.mem_singleton.1 hu, hsl]; rfl) (by simp only [maxLen]; omega) hby (Nat.zero_le _)
  have hb1 : blk (V k) = (V k).ownBlock := by obtain ⟨A', c', q, _⟩ := own_row h5; rw [q]; rfl
  have hb2 : blk v' = v'.ownBlock := by obtain ⟨A', c', q, _⟩ := own_row r2; rw [q]; rfl
  rw [← hb1] at r3 r4
  rw [← hb2] at r4
  have h2 := h.adopt hoj
  have hk2 := adopt_o h hoj ho hne
  rw [adopt_eq hoj] at hk2 hK
  have hVk := adopt_V h (j := j) ho
  rw [hx.pv _ _ hs, q1]
  refine ⟨v', w', r1, own_val (h2.app (o' := ⟨e2, .id e' t', ids ++ [od f.h], true⟩) (v' := v') hk2 hm rfl hk (by rw [hVk]; exact r3) ?_ (fun x hx => ?_) (by rw [hVk]; exact r4)) (h.fe _ hk) hd hK⟩
  ·rw [OR_id, List.length_append, List.map_append]
   have hids : List.map (upd V (od f.h) (V j)) ids = List.map V ids := List.map_congr_left fun x hx => by
    obtain ⟨j1, j2, rfl⟩ := h.fi _ _ ho x hx
    unfold upd; rw [if_neg (fun q => by unfold od at q; omega)]
   rw [hids]
   have : List.map (upd V (od f.h) (V j)) [od f.h] = [V j] := by simp [upd]
   rw [this]; exact r2
  ·rcases List.mem_append.1 (show x ∈ ids ++ [od f.h] from hx) with hx | hx
   ·obtain ⟨j1, j2, j3⟩ := h.fi _ _ ho x hx; exact ⟨j1, Nat.lt_succ_of_lt j2, j3⟩
   ·exact ⟨f.h, Nat.lt_succ_self _, List.mem_singleton.1 hx⟩
 ·exact he.elim
theorem fAp_ok (hTE : ∀ e t, TE e = some t → TyOk P t e) (h : RelC n0 w0 S0 N Fk f a w S V) (hk : Fk key) {T ty : TypeId} {x y : Operand} {d : Option Nat} (hd : ∀ i, d = some i → i < N) (he : fAp TE key T y f d K (f.res x)) :
  ∃ v' w', (Builtin.append_ #[T, T] ty #[a.eval x, a.eval y]).run P w = .ok v' w' ∧ Step n0 w0 S0 N (lessK Fk key) K (a.put d v') w' := by
 have hx := h.arg x
 unfold fAp at he
 split at he
 ·rename_i k e e' t' ids m heq
  rw [heq] at hx
  have hT := hTE _ _ he.1.1
  unfold TyOk at hT
  exact fApI_ok h hk hd hx (h.arg y) hT.1 hT.2.2.1 he.1.2 he.2
 ·rename_i heq
  split at he
  ·rename_i e2 j ob hy
   obtain ⟨S', h', _⟩ := h.frz' j
   have hxe : ((f.res x).1, (f.res x).1.key.bind (f.frz j).o) = (f.frz j).res x := by
    unfold FS.res
    rw [op_g (frz_g _ _)]
   rw [hxe] at he
   exact fApp_ok (P := P) hTE h' hk hd (h'.arg x) (h'.arg y) he
  ·exact fApp_ok (P := P) hTE h hk hd hx (h.arg y) he
theorem fMUp_ok (hTE : ∀ e t, TE e = some t → TyOk P t e) (h : RelC n0 w0 S0 N Fk f a w S V) {T : TypeId} {x y z : Arg} {vx vy vz : Value} {d : Option Nat} (hd : ∀ i, d = some i → i < N) (hx : ArgOk Fk f w S V x vx) (hy : ArgOk Fk f w S V y vy) (hz : ArgOk Fk f w S V z vz) (he : fMUp TE T y z f d K x) :
  ∃ w', (Instr.mapUpdate T vx vy vz).run P w = .ok () w' ∧ Step n0 w0 S0 N Fk K (a.put d undef) w' := by
 unfold fMUp at he
 split at he
 ·rename_i k e kt vt xs m
  obtain ⟨h1, h2⟩ := he
  have hT := hTE _ _ h1
  unfold TyOk at hT
  obtain ⟨e1, e2, hu, _, hk1, ht1, hkk, hsz, hr⟩ := hT
  obtain ⟨ho, hs⟩ := hx.sh rfl
  obtain ⟨hm, r, es, c, q1, q2, q3, q4, q5⟩ := OR_x rfl (h.ob _ _ ho)
  rw [hx.pv _ _ hs, q1]
  obtain ⟨y', y1, y2⟩ := shd_ok h hy h2
  obtain ⟨z', z1, z2⟩ := shd_ok h hz y1
  have hg : (getObj r).run P w = .ok (.map es c) w := by simp [getObj, Sem.run, q2]
  have hset : ∀ o : Obj, (setObj r o).run P w = .ok () { w with heap := w.heap.setIfInBounds r o } := fun o => by simp [setObj, Sem.run, q2]
  have hd' := dsc_ok hkk hk1
  have hrb : r < w.heap.size := (Array.getElem?_eq_some_iff.1 q2).1
  have fin : ∀ es' c', (Instr.mapUpdate T (.map (some r)) vy vz).run P w = .ok () { w with heap := w.heap.setIfInBounds r (.map es' c') } → Mp w S kt vt (mset kt y' z' xs) es'.toList → (es'.toList.map MapEntry.born).Pairwise (· < ·) → (∀ b ∈ es'.toList.map MapEntry.born, b < c') →
    ∃ w', (Instr.mapUpdate T (.map (some r)) vy vz).run P w = .ok () w' ∧ Step n0 w0 S0 N Fk K (a.put d undef) w' := by
   intro es' c' hrun hmp hpw hlt
   have hgr : w.grownBy { w with heap := w.heap.setIfInBounds r (.map es' c') } (blk (V k)) := ⟨rfl, rfl, rfl, by simp, fun j _ hj => by
    show (w.heap.setIfInBounds r _)[j]? = _
    rw [Array.getElem?_setIfInBounds_ne (fun q => hj (by rw [q1, ← q]; rfl))]⟩
   have ha := h.ag_row ho hm hgr
   refine ⟨_, hrun, _, S, V, z1, (h.wr (o' := ⟨e, .mp kt vt, mset kt y' z' xs, true⟩) ho hm rfl rfl rfl hgr ?_ (fun i hi => by cases hi)).put (p := .bot) trivial (fun k hk => by cases hk) d hd⟩
   rw [OR_mp]
   refine ⟨r, es', c', q1, ?_, Mp_mono (fun _ h => h) ha hmp, hpw, hlt⟩
   show (w.heap.setIfInBounds r _)[r]? = _
   simp [hrb]
  rcases set_ok hkk y2 z2 0 q3 with ⟨g1, g2⟩ | ⟨j, v, e', g1, g2, g3, g4⟩
  ·refine fin (es.push { key := vy, val := vz, born := c }) (c + 1) ?_ (by rw [Array.toList_push]; exact g2 c) ?_ ?_
   ·simp [Instr.mapUpdate, run_underlying hu, hg, run_checkKey hkk hk1 y2, Instr.findKey, run_underlying hd', g1, hset]
   ·rw [Array.toList_push, List.map_append]
    exact List.pairwise_append.2 ⟨q4, by simp, fun x hx y hy => by simp at hy; rw [hy]; exact q5 x hx⟩
   ·intro b hb
    rw [Array.toList_push, List.map_append, List.mem_append] at hb
    rcases hb with hb | hb
    ·exact Nat.lt_succ_of_lt (q5 b hb)
    ·simp at hb; omega
  ·have hb : (es.modify j fun e => { e with key := vy, val := vz }).toList.map MapEntry.born = es.toList.map MapEntry.born := by
    rw [Array.toList_modify]
    apply List.ext_getElem?
    intro n
    simp only [List.getElem?_map, List.getElem?_modify]
    rcases es.toList[n]? with _ | x <;> simp
    split <;> rfl
   refine fin (es.modify j fun e => { e with key := vy, val := vz }) c ?_ (by rw [Array.toList_modify]; exact g4) (by rw [hb]; exact q4) (by rw [hb]; exact q5)
   have g2' : es[j]? = some e' := by rw [← Array.getElem?_toList]; exact g2
   rw [Nat.zero_add] at g1
   have hks : (Instr.keyThatStays e'.key vy).run P w = .ok vy w := by simp [Instr.keyThatStays, g3]
   simp [Instr.mapUpdate, run_underlying hu, hg, run_checkKey hkk hk1 y2, Instr.findKey, run_underlying hd', g1, g2', hks, hset]
 ·exact he.elim
end
end Go.TT
end
section
namespace Go.TT
open Go.RowKit
set_option linter.unusedVariables false
set_option linter.unusedSimpArgs false
section
variable {P : Program} {TE : TypeId → Option Ty} {n0 : Nat → Prop} {w0 : World} {S0 : Nat → Prop} {N : Nat} {Fk : Nat → Prop} {f : FS} {a : Act} {w w' : World} {S S' : Nat → Prop} {V V' : Nat → Value} {key : Nat} {K : KF}
theorem Step.keys {Fk' : Nat → Prop} (h : Step n0 w0 S0 N Fk K a w) (hk : ∀ k, Fk' k → Fk k) : Step n0 w0 S0 N Fk' K a w := by
 obtain ⟨f', S', V', h1, h2⟩ := h; exact ⟨f', S', V', h1, h2.keys hk⟩
def Does (P : Program) (n0 : Nat → Prop) (w0 : World) (S0 : Nat → Prop) (N : Nat) (Fk : Nat → Prop) (K : KF) (a : Act) (w : World) (o : Oper) : Prop :=
 (∃ v w', (execOp a.eval o).run P w = .ok (.value v) w' ∧ Step n0 w0 S0 N Fk K (a.put o.dst v) w') ∨
 (∃ w', (execOp a.eval o).run P w = .ok .skip w' ∧ Step n0 w0 S0 N Fk K (a.put o.dst undef) w')
theorem full_ok (hTE : ∀ e t, TE e = some t → TyOk P t e) (h : RelC n0 w0 S0 N Fk f a w S V) (hk : Fk key) (o : Oper) (hd : ∀ i, o.dst = some i → i < N) (he : full TE key o f K) : Does P n0 w0 S0 N (lessK Fk key) K a w o := by
 have hsub : ∀ k, lessK Fk key k → Fk k := fun k h => h.1
 have hA := fun x => h.arg (x := x)
 have viaEv : ∀ {f' : FS}, (∃ S', RelC n0 w0 S0 N Fk f' a w S' V) → fEv TE key o f' K → Does P n0 w0 S0 N (lessK Fk key) K a w o := by
  intro f' ⟨S', h'⟩ he
  exact .inl (fEv_ok hTE h' hk o hd he)
 have fin : ∀ (s : Sem Value) (e : execOp a.eval o = (do pure (.value (← s)))), (∃ v w', s.run P w = .ok v w' ∧ Step n0 w0 S0 N (lessK Fk key) K (a.put o.dst v) w') → Does P n0 w0 S0 N (lessK Fk key) K a w o := by
  intro s e ⟨v, w', e2, e3⟩
  exact .inl ⟨v, w', by rw [e]; simp only [Sem.run_bind, e2, Result.andThen_ok, Sem.run_pure], e3⟩
 obtain ⟨dst, op, type, pos, after, guard⟩ := o
 cases op
 case store T x y =>
  obtain ⟨w', r1, r2⟩ := fSt_ok (P := P) hTE h hk hd he
  exact .inr ⟨w', by simp [execOp, r1], r2⟩
 case mapUpdate T m x y =>
  obtain ⟨S', h'⟩ := h.fzo [y]
  obtain ⟨w', r1, r2⟩ := fMUp_ok (P := P) hTE h' hd (h'.arg m) (h'.arg x) (h'.arg y) he
  exact .inr ⟨w', by simp [execOp, r1], r2.keys hsub⟩
 case slice T x lo hi mx =>
  cases mx with
  | some m =>
   have he : fSli3 TE key _ f K (f.res x) := he
   unfold fSli3 at he
   split at he
   ·obtain ⟨S', h', _⟩ := h.frz' _
    exact viaEv ⟨S', h'⟩ he
   ·exact viaEv ⟨S, h⟩ he
  | none =>
   have he : fSli TE key _ T lo hi f K (f.res x) := he
   generalize hres : f.res x = r at he
   have hx := hA x
   rw [hres] at hx
   unfold fSli at he
   split at he
   ·rename_i k ob
    obtain ⟨ho, hs⟩ := hx.sh rfl
    split at he
    ·rename_i e1 e2 e3
     have hT := hTE _ _ he.1
     unfold TyOk at hT
     obtain ⟨A, c, cs, q1, q2, q3, q4⟩ := h.own_sl ho hT.2.2.2.2
     refine fin (Instr.sliceAt T (a.eval x) none none none) rfl ⟨V k, w, ?_, ?_⟩
     ·rw [hx.pv _ _ hs, q1, run_sliceAt hT.1 hT.2.2.1 0 ob.xs.length .i64 .i64 none none (.inl ⟨rfl, rfl⟩) (.inl ⟨rfl, rfl⟩) (Nat.zero_le _) q2]
      congr 1
      cases A <;> simp [Addr.add]
     ·exact ⟨_, S, V, he.2, (h.put (p := .own k) (fun n' t' e' => rfl) (fun j hj => hx.ks j hj) dst hd).keys hsub⟩
    ·rename_i e1 e2 e3
     exact fin (Instr.sliceAt T (a.eval x) none (some (a.eval _)) none) rfl (fCut_ok (P := P) hTE h hk hd hx (by assumption) (hA _) he)
    ·exact viaEv ⟨S, h⟩ he
   ·exact viaEv ⟨S, h⟩ he
 case build T ps => exact viaEv (h.fzo _) he
 case makeFunc fn x y => exact viaEv (h.fzo _) he
 case makeInterface T x => exact viaEv (h.fzo _) he
 case buildSlice T n ps =>
  have he : fBlS TE key _ f K (Op.operands (.buildSlice T n ps)).toList := he
  unfold fBlS at he
  split at he
  ·split at he
   ·exact viaEv ⟨S, h⟩ he
   ·exact viaEv (h.fzo _) he
  ·exact viaEv (h.fzo _) he
 case box e x => exact viaEv (h.fzo _) he
 case call c =>
  obtain ⟨cl, args, ts⟩ := c
  cases cl with
  | value x => exact viaEv ⟨S, h⟩ he
  | invoke x m => exact viaEv ⟨S, h⟩ he
  | builtin b =>
   by_cases hb1 : b = .append
   ·subst hb1
    have hq : (match args.toList, ts.toList with
     | [s, x], [T, T'] => T = T' ∧ fAp TE key T x f dst K (f.res s)
     | _, _ => False) := he
    clear he
    split at hq
    ·rename_i s x T T' e1 e2
     obtain ⟨rfl, he⟩ := hq
     have e1' : args = #[s, x] := by rw [← Array.toArray_toList (xs := args), e1]
     have e2' : ts = #[T, T] := by rw [← Array.toArray_toList (xs := ts), e2]
     subst e1' e2'
     exact fin (Builtin.append_ #[T, T] type #[a.eval s, a.eval x]) (by simp [execOp, resolve, invoke, builtin]) (fAp_ok (P := P) hTE h hk hd he)
    ·exact hq.elim
   ·by_cases hb2 : b = .copy
    ·subst hb2
     have hq : (match args.toList, ts.toList with
      | [s, x], T :: _ => fCopy TE T (f.res x) f dst K (f.res s)
      | _, _ => False) := he
     clear he
     split at hq
     ·rename_i s x T ts' e1 e2
      have e1' : args = #[s, x] := by rw [← Array.toArray_toList (xs := args), e1]
      subst e1'
      have hts : ts[0]? = some T := by rw [← Array.getElem?_toList, e2]; rfl
      obtain ⟨v, w', r1, r2⟩ := fCopy_ok (P := P) (ty := type) hTE h hts hd (hA s) (hA x) hq
      exact fin (Builtin.copy_ ts type #[a.eval s, a.eval x]) (by simp [execOp, resolve, invoke, builtin]) ⟨v, w', r1, r2.keys hsub⟩
     ·exact hq.elim
    ·exact viaEv ⟨S, h⟩ (by cases b <;> first | exact absurd rfl hb1 | exact absurd rfl hb2 | exact he)
 all_goals exact viaEv ⟨S, h⟩ he
end
end Go.TT
end
section
namespace Go.TT
open Go.RowKit
set_option linter.unusedVariables false
set_option linter.unusedSimpArgs false
abbrev RV := Bool × TV
def retv : List Value → Value
 | [v] => v
 | vs => .tuple vs.toArray
def Ty.nid : Ty → Bool
 | .id _ _ => false
 | _ => true
def Rets (n : Nat) (w : World) (S : Nat → Prop) : (Nat → Prop) → List RV → List Value → Prop
 | _, [], [] => True
 | B, (false, tv) :: rs, v :: vs => Vs w S tv.t tv.x v ∧ Rets n w S B rs vs
 | B, (true, ⟨.sl e t, xs⟩) :: rs, v :: vs => (t.nid = true ∧ OR w S (fun _ => undef) ⟨e, t, xs, true⟩ v) ∧ (∀ b, blk v = some b → n ≤ b ∧ ¬ S b ∧ ¬ B b) ∧ Rets n w S (fun b => B b ∨ blk v = some b) rs vs
 | _, _, _ => False
def Args (w : World) (S : Nat → Prop) : List TV → List Value → Prop
 | [], [] => True
 | tv :: l, v :: vs => Vs w S tv.t tv.x v ∧ Args w S l vs
 | _, _ => False
def fnOk (P : Program) (fn : FuncId) : Prop := ∃ F, P.funcs[fn]? = some F ∧ (F.name == "runtime.NumGoroutine") = false ∧ F.body.isSome = true
abbrev rnd (r : Option Nat) : Fence := { Fence.wide with round := r }
theorem callsIn_rnd {P : Program} {fn : FuncId} {args : Array Value} {w : World} {R : Ending → World → Prop} {r : Option Nat} {n : Nat} (h : Calls P fn args w R) : CallsIn (rnd r) n P fn args w R := (callsIn_wide (n := n)).2 h
def Con (P : Program) (fn : FuncId) (al : List TV) (rs : List RV) : Prop :=
 fnOk P fn ∧ ∀ (w : World) (S : Nat → Prop) (vals : List Value), (∀ b, S b → b < w.heap.size) → Args w S al vals →
  Calls P fn vals.toArray w fun e w' => ∃ vs, e = .returned (retv vs) ∧ Below w.heap.size w w' ∧ ∃ S', (∀ b, b < w.heap.size → S' b → S b) ∧ (∀ b, S' b → b < w'.heap.size) ∧ Rets w.heap.size w' S' (fun _ => False) rs vs
def RV.flat : RV → Bool
 | (true, ⟨.sl _ t, _⟩) => t.flat && t.row
 | (true, _) => false
 | (false, tv) => tv.t.flat
def flatR : List RV → Bool
 | [] => true
 | r :: rs => RV.flat r && flatR rs
def obsOf : List RV → List Ob
 | [] => []
 | (true, ⟨.sl e t, xs⟩) :: r => ⟨e, t, xs, true⟩ :: obsOf r
 | _ :: r => obsOf r
def pvsOf : Nat → List RV → List PV
 | _, [] => []
 | key, (true, ⟨.sl _ _, _⟩) :: r => .own key :: pvsOf (key + 2) r
 | key, (true, _) :: r => .bot :: pvsOf key r
 | key, (false, tv) :: r => .ro tv.t tv.x :: pvsOf key r
def tupOf : List PV → PV
 | [] => .tnil
 | p :: l => .pair p (tupOf l)
def pvOf : List PV → PV
 | [p] => p
 | l => tupOf l
def rd1 (TE : TypeId → Option Ty) (T : TypeId) : Arg → (TV → Prop) → Prop
 | (.nil, _), K => match TE T with
  | some (.sl e t) => K ⟨.sl e t, []⟩
  | _ => False
 | (.ro t x, _), K => K ⟨t, x⟩
 | (.cel t x, _), K => K ⟨.rf t, x⟩
 | (.own _, some o), K => o.t.row = true ∧ K ⟨.sl o.e o.t, o.xs⟩
 | (.vw _ l h, some o), K => o.t.row = true ∧ K ⟨.sl o.e o.t, (o.xs.take h).drop l⟩
 | (.one e _, some o), K => o.t.row = true ∧ K ⟨.sl e (.sl o.e o.t), [o.xs]⟩
 | (.ptr _ i fs, some o), K => o.t.row = true ∧ K ⟨.rf (o.t.pj fs (o.xs.getD i.toNat o.t.zv)).t, (o.t.pj fs (o.xs.getD i.toNat o.t.zv)).x⟩
 | _, _ => False
def rds (TE : TypeId → Option Ty) (f : FS) : List Operand → List TypeId → (List TV → Prop) → Prop
 | [], [], K => K []
 | x :: xs, T :: Ts, K => rd1 TE T (f.res x) fun y => rds TE f xs Ts fun l => K (y :: l)
 | _, _, _ => False
def noOwn (f : FS) : List Operand → Prop
 | [] => True
 | x :: l => (match (f.res x).2 with | some o => o.mu = false | _ => True) ∧ noOwn f l
def mth (P : Program) (d : TypeId) (m : String) (g : FuncId) : Prop :=
 0 < P.types.size + Made.depth ∧ ∃ i mt, P.info? d = some i ∧ i.methods.find? (·.name == m) = some mt ∧ mt.path = #[] ∧ mt.func = some (g, false) ∧ ∃ D, P.underlying d = some D ∧ ∀ e, D ≠ .pointer e
def cle (P : Program) (f : FS) : Callee → (FuncId → List TV → List TV → Prop) → Prop
 | .value x, K => match (f.res x).1 with
  | .ro (.fn (.func g) a c) z => K g (a.tvs z.1) (c.tvs z.2)
  | _ => False
 | .invoke x m, K => match (f.res x).1 with
  | .ro (.ifc d t) y => ∃ g, mth P d m g ∧ K g [⟨t, y⟩] []
  | _ => False
 | _, _ => False
def clX : Callee → List Operand
 | .value x => [x]
 | .invoke x _ => [x]
 | _ => []
def ConS (P : Program) (fn g : FuncId) (e : TypeId) (t : Ty) (xs ys : List t.den) : Prop :=
 fnOk P fn ∧ List.length ys = List.length xs ∧ ∀ (w : World) (S : Nat → Prop) (v : Value) (cs : List Value), (∀ b, S b → b < w.heap.size) → w.ownsRow 0 e t.sz v (List.length xs) cs → Fl (Cs w S t) xs cs → (∀ b, blk v = some b → ¬ S b ∧ b < w.heap.size) →
  Calls P fn #[v, .func (.func g) #[] #[]] w fun e' w' => e' = .returned (.tuple #[]) ∧ w.grownBy w' (blk v) ∧ ∃ cs', w'.ownsRow 0 e t.sz v (List.length ys) cs' ∧ Fl (Cs w S t) ys cs'
def hndK (P : Program) (dr : Bool) (d : Option Nat) (xs : List Operand) (f : FS) (K : KF) (fn : FuncId) (al : List TV) : Prop :=
 dr = false ∧ ∃ x y k o g ys, xs = [x, y] ∧ f.op x = .own k ∧ f.o k = some o ∧ o.mu = true ∧ o.t.row = true ∧ al = [⟨.sl o.e o.t, o.xs⟩, ⟨.fn (.func g) .un .un, ((), ())⟩] ∧ ConS P fn g o.e o.t o.xs ys ∧ K ((f.set k ⟨o.e, o.t, ys, true⟩).put d .tnil)
def fCal (P : Program) (TE : TypeId → Option Ty) (dr : Bool) (key : Nat) (d : Option Nat) (cl : Callee) (xs : List Operand) (Ts : List TypeId) (f : FS) (K : KF) : Prop :=
 cle P f cl fun fn pre post => rds TE f xs Ts fun al => (∃ rs, Con P fn (pre ++ (al ++ post)) rs ∧ (obsOf rs).length ≤ 4 ∧
  if flatR rs = true then K ((f.news key (obsOf rs)).put d (pvOf (pvsOf key rs)))
  else (dr = false ∨ noOwn f xs) ∧ K (((f.fzo xs).news key (obsOf rs)).put d (pvOf (pvsOf key rs)))) ∨ hndK P dr d xs f K fn (pre ++ (al ++ post))
theorem frz_o (f : FS) (j k : Nat) : (f.frz j).o k = if k = j then (f.o k).map Ob.froze else f.o k := by
 unfold FS.frz
 split
 ·rename_i o e
  simp only [FS.set, upd]
  split
  ·rename_i h; subst h; rw [e]; rfl
  ·rfl
 ·rename_i e
  split
  ·rename_i h; subst h; rw [e]; rfl
  ·rfl
theorem frz_same {o : Ob} (h : o.mu = false) : o.froze = o := by
 unfold Ob.froze; split
 ·obtain ⟨e, t, xs, m⟩ := o; simp only at h; rw [h]
 ·rfl
theorem frz_stay : ∀ (l : List Operand) (f : FS) (k : Nat) (o : Ob), f.o k = some o → o.mu = false → (f.fzo l).o k = some o
 | [], f, k, o, h, _ => h
 | x :: l, f, k, o, h, hm => by
  unfold FS.fzo
  refine frz_stay l _ k o ?_ hm
  unfold TT.fz1
  split <;> first | exact h | (rw [frz_o]; split <;> first | exact h | (rw [h]; show some o.froze = _; rw [frz_same hm]))
theorem fz1_eq (f : FS) (p : PV) : fz1 f p = match p.key with | some j => f.frz j | none => f := by cases p <;> rfl
theorem fzo_o : ∀ (l : List Operand) (f : FS) (k : Nat) (o : Ob), f.o k = some o → o.t.row = true → ∃ m, (f.fzo l).o k = some { o with mu := m } ∧ ∀ x ∈ l, (f.op x).key = some k → m = false
 | [], f, k, o, h, _ => ⟨o.mu, h, fun x hx => by cases hx⟩
 | x :: l, f, k, o, h, hr => by
  unfold FS.fzo
  rw [fz1_eq]
  split
  ·rename_i j hj
   have h1 := frz_o f j k
   by_cases e : k = j
   ·subst e
    rw [if_pos rfl, h] at h1
    have h1 : (f.frz k).o k = some { o with mu := false } := by rw [h1]; show some o.froze = _; rw [froze_row hr]
    obtain ⟨m, r1, r2⟩ := fzo_o l (f.frz k) k _ h1 hr
    rcases m with _ | _
    ·exact ⟨false, r1, fun _ _ _ => rfl⟩
    ·exfalso
     exact absurd (frz_stay l (f.frz k) k _ h1 rfl) (by rw [r1]; simp)
   ·rw [if_neg e] at h1
    obtain ⟨m, r1, r2⟩ := fzo_o l (f.frz j) k o (by rw [h1]; exact h) hr
    refine ⟨m, r1, fun y hy hk => ?_⟩
    rcases List.mem_cons.1 hy with rfl | hy
    ·rw [hj] at hk; injection hk with hk; exact absurd hk.symm e
    ·exact r2 y hy (by rw [op_g (frz_g f j)]; exact hk)
  ·rename_i hx
   obtain ⟨m, r1, r2⟩ := fzo_o l f k o h hr
   refine ⟨m, r1, fun y hy hk => ?_⟩
   rcases List.mem_cons.1 hy with rfl | hy
   ·rw [hx] at hk; cases hk
   ·exact r2 y hy hk
section
variable {P : Program} {TE : TypeId → Option Ty} {n0 : Nat → Prop} {w0 : World} {S0 : Nat → Prop} {N : Nat} {Fk : Nat → Prop} {f : FS} {a : Act} {w w' : World} {S S' : Nat → Prop} {V V' : Nat → Value} {key : Nat} {K : KF}
theorem rd1_ok {xs0 : List Operand} (h : RelC n0 w0 S0 N Fk (f.fzo xs0) a w S V) {x : Operand} (hx : x ∈ xs0) {T : TypeId} {K : TV → Prop} (he : rd1 TE T (f.res x) K) : ∃ y, K y ∧ Vs w S y.t y.x (a.eval x) := by
 have harg := h.arg x
 have hop : (f.fzo xs0).op x = f.op x := op_g (fzo_g xs0 f) x
 have fin : ∀ {K : TV → Prop}, tvA ((f.fzo xs0).res x) K → ∃ y, K y ∧ Vs w S y.t y.x (a.eval x) := fun he => tvA_ok h harg he
 have obj : ∀ {k : Nat} {o : Ob}, (f.op x).key = some k → (f.op x).key.bind f.o = some o → o.t.row = true → (f.op x).key.bind (f.fzo xs0).o = some { o with mu := false } := fun {k o} h1 h2 h3 => by
  rw [h1] at h2 ⊢
  obtain ⟨m, r1, r2⟩ := fzo_o xs0 f k o h2 h3
  rw [r2 x hx h1] at r1; exact r1
 unfold FS.res at he fin
 rw [hop] at fin
 generalize hp : f.op x = p at *
 rcases p with _ | ⟨t', x'⟩ | _ | k | ⟨k, i, fs⟩ | ⟨t', x'⟩ | ⟨k, l, j⟩ | ⟨e1, k⟩ | ⟨_, _⟩ | _ <;> simp only [PV.key, Option.bind_some, Option.bind_none] at he fin obj <;> simp only [rd1] at he <;> try exact he.elim
 ·exact fin he
 ·split at he
  ·have hv := harg.pv
   have hq : ((f.fzo xs0).res x).1 = PV.nil := hop
   rw [hq] at hv
   have hv : a.eval x = .slice none 0 0 := hv
   exact ⟨_, he, Vs_sl.2 ⟨none, 0, [], by rw [show a.eval x = .slice none 0 0 from hv]; rfl, Nat.le_refl _, rfl, .inl rfl⟩⟩
  ·exact he.elim
 ·rcases ho : f.o k with _ | o
  ·rw [ho] at he; exact he.elim
  ·rw [ho] at he
   exact fin (by rw [obj rfl ho he.1]; exact ⟨rfl, he.2⟩)
 ·rcases ho : f.o k with _ | o
  ·rw [ho] at he; exact he.elim
  ·rw [ho] at he
   exact fin (by rw [obj rfl ho he.1]; exact ⟨rfl, he.2⟩)
 ·exact fin he
 ·rcases ho : f.o k with _ | o
  ·rw [ho] at he; exact he.elim
  ·rw [ho] at he
   exact fin (by rw [obj rfl ho he.1]; exact ⟨rfl, he.2⟩)
 ·rcases ho : f.o k with _ | o
  ·rw [ho] at he; exact he.elim
  ·rw [ho] at he
   exact fin (by rw [obj rfl ho he.1]; exact ⟨rfl, he.2⟩)
theorem rds_ok {xs0 : List Operand} (h : RelC n0 w0 S0 N Fk (f.fzo xs0) a w S V) : ∀ {xs : List Operand} {Ts : List TypeId} {K : List TV → Prop}, (∀ x ∈ xs, x ∈ xs0) → rds TE f xs Ts K → ∃ al, K al ∧ Args w S al (xs.map a.eval)
 | [], [], K, _, he => ⟨[], he, trivial⟩
 | x :: xs, T :: Ts, K, hx, he => by
  unfold rds at he
  obtain ⟨y, h1, h2⟩ := rd1_ok h (hx x List.mem_cons_self) he
  obtain ⟨al, h3, h4⟩ := rds_ok h (xs := xs) (fun z hz => hx z (List.mem_cons_of_mem _ hz)) h1
  exact ⟨_, h3, h2, h4⟩
 | [], _ :: _, _, _, he => he.elim
 | _ :: _, [], _, _, he => he.elim
theorem arr_hd (u : Value) (xs : Array Value) : (#[u] ++ xs)[0]? = some u := by rw [Array.getElem?_append_left (by simp)]; rfl
theorem arr_tl (u v : Value) (xs : Array Value) : #[u] ++ (#[v] ++ xs).extract 1 (#[v] ++ xs).size = ([u] ++ (xs.toList ++ [])).toArray := by
 apply Array.ext'
 simp
theorem Args_app : ∀ {al bl : List TV} {vs us : List Value}, Args w S al vs → Args w S bl us → Args w S (al ++ bl) (vs ++ us)
 | [], _, [], _, _, h => h
 | _ :: _, _, _ :: _, _, ⟨h1, h2⟩, h => ⟨h1, Args_app h2 h⟩
 | [], _, _ :: _, _, h, _ => h.elim
 | _ :: _, _, [], _, h, _ => h.elim
theorem Vl_args : ∀ {t : Ty} {x : t.den} {vs : List Value}, Vl w S t x vs → Args w S (t.tvs x) vs
 | .pr a b, x, vs, ⟨cs, ⟨c1, c2, e, h1, h2⟩, hv⟩ => by
  have hv : vs = a.mk (cs.take a.sz) :: b.vals (cs.drop a.sz) := hv
  rw [e, ← Cs_len h1, List.take_left, List.drop_left] at hv
  rw [hv]
  exact ⟨⟨c1, h1, rfl⟩, Vl_args ⟨c2, h2, rfl⟩⟩
 | .int _, _, _, ⟨_, _, hv⟩ => by rw [hv]; exact trivial
 | .bool, _, _, ⟨_, _, hv⟩ => by rw [hv]; exact trivial
 | .str, _, _, ⟨_, _, hv⟩ => by rw [hv]; exact trivial
 | .un, _, _, ⟨_, _, hv⟩ => by rw [hv]; exact trivial
 | .sl _ _, _, _, ⟨_, _, hv⟩ => by rw [hv]; exact trivial
 | .rf _, _, _, ⟨_, _, hv⟩ => by rw [hv]; exact trivial
 | .fn _ _ _, _, _, ⟨_, _, hv⟩ => by rw [hv]; exact trivial
 | .ifc _ _, _, _, ⟨_, _, hv⟩ => by rw [hv]; exact trivial
 | .id _ _, _, _, ⟨_, _, hv⟩ => by rw [hv]; exact trivial
 | .mp _ _, _, _, ⟨_, _, hv⟩ => by rw [hv]; exact trivial
 | .ar _, _, _, ⟨_, _, hv⟩ => by rw [hv]; exact trivial
theorem cle_ok (h : RelC n0 w0 S0 N Fk f a w S V) {cl : Callee} {K : FuncId → List TV → List TV → Prop} (he : cle P f cl K) : ∃ g pre post, K g pre post ∧ (fnOk P g → ∀ (xs : Array Operand) (Ts : Array TypeId) (ty : TypeId), ∃ l m, Args w S pre l ∧ Args w S post m ∧
  (do let d ← resolve a.eval { callee := cl, args := xs, argTypes := Ts } ty; invoke d.target d.args : Sem Next).run P w = .ok (.enter g (l ++ (xs.toList.map a.eval ++ m)).toArray) w) := by
 have call : ∀ {g : FuncId}, fnOk P g → ∀ args, (callFunc g args).run P w = .ok (.enter g args) w := fun {g} ⟨F, f1, f2, f3⟩ args => by
  have hb3 : F.body.isNone = false := by rw [Option.isSome_iff_ne_none] at f3; cases hF : F.body with
   | none => exact absurd hF f3
   | some _ => rfl
  simp only [callFunc, Sem.run_bind, run_program, Result.andThen_ok, f1, f2, hb3, Bool.false_eq_true, if_false, Sem.run_pure]
 unfold cle at he
 split at he
 ·rename_i x
  split at he
  ·rename_i g ta tc z hz
   have hx := (h.arg x).pv
   rw [hz] at hx
   obtain ⟨l, m, e, h1, h2⟩ := Vs_fn.1 hx
   refine ⟨g, _, _, he, fun hf xs Ts ty => ⟨l, m, Vl_args h1, Vl_args h2, ?_⟩⟩
   simp only [resolve, e, Deferred.ofValue, Sem.run_bind, Sem.run_pure, Result.andThen_ok, invoke, call hf]
   have hq : (l.toArray ++ xs.map a.eval) ++ m.toArray = (l ++ (xs.toList.map a.eval ++ m)).toArray := Array.ext' (by simp)
   rw [hq]
  ·exact he.elim
 ·rename_i x mn
  split at he
  ·rename_i d t y hz
   have hx := (h.arg x).pv
   rw [hz] at hx
   obtain ⟨u, e, h1⟩ := Vs_ifc.1 hx
   obtain ⟨g, ⟨q0, i, mt, q1, q2, q3, q4, D, q5, q6⟩, hK⟩ := he
   refine ⟨g, _, _, hK, fun hf xs Ts ty => ⟨[u], [], ⟨h1, trivial⟩, trivial, ?_⟩⟩
   obtain ⟨fu, hfu⟩ : ∃ fu, P.types.size + Made.depth = fu + 1 := ⟨P.types.size + Made.depth - 1, by omega⟩
   have hm : (method (P.types.size + Made.depth) d u mn).run P w = .ok (g, u) w := by
    rw [hfu]
    simp only [method, typeInfo, Sem.run_bind, run_program, Result.andThen_ok, q1, Sem.run_pure, q2, q3, follow, q4, receiverAt, run_underlying q5]
    cases D <;> first | exact absurd rfl (q6 _) | rfl
   simp only [resolve, e, Sem.run_bind, Sem.run_pure, Result.andThen_ok, invoke]
   have hex : (#[Value.iface d u] ++ xs.map a.eval)[0]? = some (Value.iface d u) := arr_hd _ _
   simp only [hex, callMethod, Sem.run_bind, run_program, Result.andThen_ok, hm, call hf]
   have hq : #[u] ++ (#[Value.iface d u] ++ xs.map a.eval).extract 1 (#[Value.iface d u] ++ xs.map a.eval).size = ([u] ++ (xs.toList.map a.eval ++ [])).toArray := by rw [arr_tl, Array.toList_map]
   rw [hq]
  ·exact he.elim
 ·exact he.elim
theorem news_g : ∀ (obs : List Ob) (f : FS) (key : Nat), (f.news key obs).g = f.g
 | [], f, key => rfl
 | o :: obs, f, key => by unfold FS.news; rw [news_g]; rfl
def PVs (w : World) (S : Nat → Prop) (V : Nat → Value) (sh : Sh) : List PV → List Value → Prop
 | [], [] => True
 | p :: l, v :: vs => PV1 w S V sh p v ∧ PVs w S V sh l vs
 | _, _ => False
theorem nid_ids {o : Ob} (h : o.t.nid = true) : idsOf o = [] := by
 obtain ⟨e, t, xs, m⟩ := o
 cases t <;> first | rfl | cases h
theorem newsR {n : Nat} (hn : ∀ b, n ≤ b → n0 b) : ∀ {rs : List RV} {vs : List Value} {key : Nat} {f : FS} {V : Nat → Value} {B : Nat → Prop} {Fk : Nat → Prop}, RelC n0 w0 S0 N Fk f a w S V → (∀ i, i < (obsOf rs).length → Fk (key + 2 * i)) →
  (∀ k o b, f.o k = some o → o.mu = true → blk (V k) = some b → b < n ∨ B b) → Rets n w S B rs vs →
  ∃ V', RelC n0 w0 S0 N (fun j => Fk j ∧ ¬ (key ≤ j ∧ j < key + 2 * (obsOf rs).length)) (f.news key (obsOf rs)) a w S V' ∧ PVs w S V' (f.news key (obsOf rs)).sh (pvsOf key rs) vs ∧ (∀ k, k < key → V' k = V k) ∧
   ∀ p ∈ pvsOf key rs, ∀ k ∈ p.keys, key ≤ k ∧ k < key + 2 * (obsOf rs).length ∧ Fk k
 | [], [], key, f, V, B, Fk, h, hk, hB, hr => ⟨V, h.keys (fun j hj => hj.1), trivial, fun _ _ => rfl, fun p hp => by cases hp⟩
 | (false, tv) :: rs, v :: vs, key, f, V, B, Fk, h, hk, hB, hr => by
  obtain ⟨V', r1, r2, r3, r4⟩ := newsR hn (rs := rs) (vs := vs) h hk hB hr.2
  refine ⟨V', r1, ⟨hr.1, r2⟩, r3, fun p hp => ?_⟩
  rcases List.mem_cons.1 hp with rfl | hp
  ·intro k hk; cases hk
  ·exact r4 p hp
 | (true, ⟨.sl e t, xs⟩) :: rs, v :: vs, key, f, V, B, Fk, h, hk, hB, hr => by
  obtain ⟨⟨hni, h1⟩, h3, h4⟩ := hr
  have hlen : (obsOf ((true, ⟨.sl e t, xs⟩) :: rs)).length = (obsOf rs).length + 1 := rfl
  have hkk : Fk key := hk 0 (by rw [hlen]; omega)
  have hev := h.fe _ hkk
  have hids : idsOf ⟨e, t, xs, true⟩ = [] := nid_ids hni
  have hob : OR w S V ⟨e, t, xs, true⟩ v := OR_mono (fun _ h => h) (fun _ _ => rfl) (fun _ _ _ => rfl) (fun i hi => by rw [hids] at hi; cases hi) h1
  have hnew := h.new (k := key) (o := ⟨e, t, xs, true⟩) (v := v) hkk hob (fun i hi => by rw [hids] at hi; cases hi) (fun _ b hb => ⟨hn b (h3 b hb).1, (h3 b hb).2.1, fun k' o' e' hm q => by
   rcases hB k' o' b e' hm q with q1 | q1
   ·have := (h3 b hb).1; omega
   ·exact (h3 b hb).2.2 q1⟩)
  obtain ⟨V', r1, r2, r3, r4⟩ := newsR hn (rs := rs) (vs := vs) (key := key + 2) (B := fun b => B b ∨ blk v = some b) hnew (fun i hi => ⟨by have := hk (i + 1) (by rw [hlen]; omega); rw [show key + 2 * (i + 1) = key + 2 + 2 * i by omega] at this; exact this, by omega⟩) (fun k o b e' hm hb => by
   by_cases q : k = key
   ·subst q; rw [upd_self] at hb; exact .inr (.inr hb)
   ·have e2 : f.o k = some o := by simpa [FS.new, upd, q] using e'
    rw [show upd V key v k = V k by simp [upd, q]] at hb
    exact (hB k o b e2 hm hb).imp id .inl) h4
  refine ⟨V', r1.keys (fun j hj => ⟨⟨hj.1, fun e => hj.2 (by rw [hlen]; omega)⟩, fun e => hj.2 (by rw [hlen]; omega)⟩), ⟨?_, r2⟩, fun k hk => by rw [r3 k (by omega)]; simp [upd, show k ≠ key by omega], fun p hp => ?_⟩
  ·intro n' t' e'
   rw [r3 key (by omega), upd_self]
  ·rcases List.mem_cons.1 hp with rfl | hp
   ·intro k hk; simp [PV.keys] at hk; subst hk; rw [hlen]; exact ⟨Nat.le_refl _, by omega, hkk⟩
   ·intro k hk; have := r4 p hp k hk; rw [hlen]; exact ⟨by omega, by omega, this.2.2.1⟩
 | (true, ⟨.int _, _⟩) :: _, _ :: _, _, _, _, _, _, _, _, _, hr => hr.elim
 | (true, ⟨.bool, _⟩) :: _, _ :: _, _, _, _, _, _, _, _, _, hr => hr.elim
 | (true, ⟨.str, _⟩) :: _, _ :: _, _, _, _, _, _, _, _, _, hr => hr.elim
 | (true, ⟨.pr _ _, _⟩) :: _, _ :: _, _, _, _, _, _, _, _, _, hr => hr.elim
 | (true, ⟨.un, _⟩) :: _, _ :: _, _, _, _, _, _, _, _, _, hr => hr.elim
 | (true, ⟨.rf _, _⟩) :: _, _ :: _, _, _, _, _, _, _, _, _, hr => hr.elim
 | (true, ⟨.fn _ _ _, _⟩) :: _, _ :: _, _, _, _, _, _, _, _, _, hr => hr.elim
 | (true, ⟨.ifc _ _, _⟩) :: _, _ :: _, _, _, _, _, _, _, _, _, hr => hr.elim
 | (true, ⟨.id _ _, _⟩) :: _, _ :: _, _, _, _, _, _, _, _, _, hr => hr.elim
 | (true, ⟨.mp _ _, _⟩) :: _, _ :: _, _, _, _, _, _, _, _, _, hr => hr.elim
 | [], _ :: _, _, _, _, _, _, _, _, _, hr => hr.elim
 | _ :: _, [], _, _, _, _, _, _, _, _, hr => by
  rename_i r _ _ _ _ _ _ _ _ _
  obtain ⟨b, t, x⟩ := r
  cases b <;> cases t <;> exact hr.elim
theorem PVs_tup {sh : Sh} : ∀ {l : List PV} {vs : List Value}, PVs w S V sh l vs → PVl w S V sh (tupOf l) vs
 | [], [], _ => rfl
 | p :: l, v :: vs, ⟨h1, h2⟩ => ⟨v, vs, rfl, h1, PVs_tup h2⟩
 | [], _ :: _, h => h.elim
 | _ :: _, [], h => h.elim
theorem PVs_ret {sh : Sh} {l : List PV} {vs : List Value} (h : PVs w S V sh l vs) : PVr w S V sh (pvOf l) (retv vs) := by
 match l, vs, h with
 | [], [], _ => rfl
 | [p], [v], h => exact PV1_r h.1
 | p :: q :: l, v :: u :: vs, h => exact ⟨_, rfl, PVs_tup h⟩
 | [], _ :: _, h => exact h.elim
 | _ :: _, [], h => exact h.elim
 | [_], _ :: _ :: _, h => exact h.2.elim
 | _ :: _ :: _, [_], h => exact h.2.elim
theorem tup_keys : ∀ {l : List PV} {k : Nat}, k ∈ (tupOf l).keys → ∃ p ∈ l, k ∈ p.keys
 | [], k, h => by cases h
 | p :: l, k, h => by
  simp only [tupOf, PV.keys, List.mem_append] at h
  rcases h with h | h
  ·exact ⟨p, List.mem_cons_self, h⟩
  ·obtain ⟨q, q1, q2⟩ := tup_keys h; exact ⟨q, List.mem_cons_of_mem _ q1, q2⟩
theorem pvOf_keys {l : List PV} {k : Nat} (h : k ∈ (pvOf l).keys) : ∃ p ∈ l, k ∈ p.keys := by
 match l, h with
 | [], h => cases h
 | [p], h => exact ⟨p, List.mem_cons_self, h⟩
 | p :: q :: l, h => exact tup_keys h
theorem Rets_flat {n : Nat} (hS : ∀ b, S b → b < n) : ∀ {rs : List RV} {vs : List Value} {B : Nat → Prop}, flatR rs = true → Rets n w S' B rs vs → Rets n w S B rs vs
 | [], [], _, _, _ => trivial
 | (false, tv) :: rs, v :: vs, B, hf, h => by
  simp only [flatR, Bool.and_eq_true] at hf
  obtain ⟨⟨cs, h1, h2⟩, h3⟩ := h
  exact ⟨⟨cs, Cs_flat hf.1 h1, h2⟩, Rets_flat hS hf.2 h3⟩
 | (true, ⟨.sl e t, xs⟩) :: rs, v :: vs, B, hf, h => by
  simp only [flatR, RV.flat, Bool.and_eq_true] at hf
  obtain ⟨⟨hn, h1⟩, h3, h4⟩ := h
  rw [OR_own (o := ⟨e, t, xs, true⟩) hf.1.2 rfl] at h1
  obtain ⟨cs, h1, h2⟩ := h1
  refine ⟨⟨hn, ?_⟩, fun b hb => ⟨(h3 b hb).1, fun hs => by have := (h3 b hb).1; have := hS b hs; omega, (h3 b hb).2.2⟩, Rets_flat hS hf.2 h4⟩
  rw [OR_own (o := ⟨e, t, xs, true⟩) hf.1.2 rfl]
  exact ⟨cs, h1, Fl_imp (fun _ _ => Cs_flat hf.1.1) h2⟩
 | (true, ⟨.int _, _⟩) :: _, _ :: _, _, _, hr => hr.elim
 | (true, ⟨.bool, _⟩) :: _, _ :: _, _, _, hr => hr.elim
 | (true, ⟨.str, _⟩) :: _, _ :: _, _, _, hr => hr.elim
 | (true, ⟨.pr _ _, _⟩) :: _, _ :: _, _, _, hr => hr.elim
 | (true, ⟨.un, _⟩) :: _, _ :: _, _, _, hr => hr.elim
 | (true, ⟨.rf _, _⟩) :: _, _ :: _, _, _, hr => hr.elim
 | (true, ⟨.fn _ _ _, _⟩) :: _, _ :: _, _, _, hr => hr.elim
 | (true, ⟨.ifc _ _, _⟩) :: _, _ :: _, _, _, hr => hr.elim
 | (true, ⟨.id _ _, _⟩) :: _, _ :: _, _, _, hr => hr.elim
 | (true, ⟨.mp _ _, _⟩) :: _, _ :: _, _, _, hr => hr.elim
 | [], _ :: _, _, _, hr => hr.elim
 | r :: _, [], _, _, hr => by obtain ⟨b, t, x⟩ := r; cases b <;> cases t <;> exact hr.elim
theorem Rets_ext {n : Nat} (hS : ∀ b, S b → b < n) : ∀ {rs : List RV} {vs : List Value} {B : Nat → Prop}, Rets n w S' B rs vs → Rets n w (fun b => S b ∨ S' b) B rs vs
 | [], [], _, _ => trivial
 | (false, tv) :: rs, v :: vs, B, h => ⟨Vs_mono (fun _ h => .inr h) (fun _ _ => rfl) h.1, Rets_ext hS h.2⟩
 | (true, ⟨.sl e t, xs⟩) :: rs, v :: vs, B, h => by
  obtain ⟨⟨hn, h1⟩, h3, h4⟩ := h
  refine ⟨⟨hn, OR_mono (fun _ h => .inr h) (fun _ _ => rfl) (fun _ _ _ => rfl) (fun _ _ => rfl) h1⟩, fun b hb => ⟨(h3 b hb).1, fun hs => by
   rcases hs with hs | hs
   ·have := (h3 b hb).1; have := hS b hs; omega
   ·exact (h3 b hb).2.1 hs, (h3 b hb).2.2⟩, Rets_ext hS h4⟩
 | (true, ⟨.int _, _⟩) :: _, _ :: _, _, hr => hr.elim
 | (true, ⟨.bool, _⟩) :: _, _ :: _, _, hr => hr.elim
 | (true, ⟨.str, _⟩) :: _, _ :: _, _, hr => hr.elim
 | (true, ⟨.pr _ _, _⟩) :: _, _ :: _, _, hr => hr.elim
 | (true, ⟨.un, _⟩) :: _, _ :: _, _, hr => hr.elim
 | (true, ⟨.rf _, _⟩) :: _, _ :: _, _, hr => hr.elim
 | (true, ⟨.fn _ _ _, _⟩) :: _, _ :: _, _, hr => hr.elim
 | (true, ⟨.ifc _ _, _⟩) :: _, _ :: _, _, hr => hr.elim
 | (true, ⟨.id _ _, _⟩) :: _, _ :: _, _, hr => hr.elim
 | (true, ⟨.mp _ _, _⟩) :: _, _ :: _, _, hr => hr.elim
 | [], _ :: _, _, hr => hr.elim
 | r :: _, [], _, hr => by obtain ⟨b, t, x⟩ := r; cases b <;> cases t <;> exact hr.elim
theorem fCal_ok (hTE : ∀ e t, TE e = some t → TyOk P t e) (h : RelC n0 w0 S0 N Fk f a w S V) (hk : ∀ i, i < 4 → Fk (key + 2 * i)) {o : Oper} {cl : Callee} {xs : Array Operand} {Ts : Array TypeId} {dr : Bool} (ho : o.op = .call { callee := cl, args := xs, argTypes := Ts })
  (hd : ∀ i, o.dst = some i → i < N) (he : fCal P TE dr key o.dst cl xs.toList Ts.toList f K) {next : Act → World → Prop} {Q : Exit → Act → World → Prop} (hnext : ∀ v w', Step n0 w0 S0 N (lessK Fk key) K (a.put o.dst v) w' → next (a.put o.dst v) w') (r : Option Nat) (n : Nat) : o.wpIn (rnd r) n P a w next Q := by
 obtain ⟨S1, hz, hSS⟩ := h.fzo' xs.toList
 unfold fCal at he
 obtain ⟨g, pre, post, he, hcall⟩ := cle_ok h he
 obtain ⟨al, ⟨rs, ⟨hfn, hcon⟩, hlen, hK⟩ | hh, hargs⟩ := rds_ok hz (fun x hx => hx) he
 rotate_left
 ·obtain ⟨_, x, y, k, ob, g', ys, hxs, hx, hok, hmu, hrow, hal, ⟨hfn, hlen, hcon⟩, hK⟩ := hh
  obtain ⟨l, m, hl, hm, hrun⟩ := hcall hfn xs Ts o.type
  rw [hxs] at hargs hrun
  obtain ⟨a1, a2, rfl⟩ : ∃ a1 a2, al = [a1, a2] := by
   rcases al with _ | ⟨a1, _ | ⟨a2, _ | ⟨_, _⟩⟩⟩
   ·exact hargs.elim
   ·exact hargs.2.elim
   ·exact ⟨a1, a2, rfl⟩
   ·exact hargs.2.2.elim
  have hll := congrArg List.length hal
  simp only [List.length_append, List.length_cons, List.length_nil] at hll
  obtain rfl : pre = [] := List.eq_nil_of_length_eq_zero (by omega)
  obtain rfl : post = [] := List.eq_nil_of_length_eq_zero (by omega)
  obtain rfl : l = [] := by cases l with
   | nil => rfl
   | cons _ _ => exact hl.elim
  obtain rfl : m = [] := by cases m with
   | nil => rfl
   | cons _ _ => exact hm.elim
  have hal : [a1, a2] = [⟨.sl ob.e ob.t, ob.xs⟩, ⟨.fn (.func g') .un .un, ((), ())⟩] := hal
  injection hal with q1 q2
  injection q2 with q2 _
  subst q1 q2
  have ey : a.eval y = .func (.func g') #[] #[] := by
   obtain ⟨l, m, e, ⟨_, _, r1⟩, ⟨_, _, r2⟩⟩ := Vs_fn.1 hargs.2.1
   rw [e, r1, r2]; rfl
  have ex : a.eval x = V k := by
   have hv := (h.arg x).pv
   have hq : (f.res x).1 = .own k := hx
   rw [hq] at hv
   exact hv ob.ln ob.t (by simp [FS.sh, hok])
  have hob := h.ob k ob hok
  rw [OR_own hrow hmu] at hob
  obtain ⟨cs, c1, c2⟩ := hob
  have hc := hcon w S (V k) cs h.lt c1 c2 (fun b hb => ⟨h.sp k ob hok hmu b hb, (h.ow k ob hok hmu b hb).2⟩)
  have hex : (execOp a.eval o).run P w = .ok (.enter g #[V k, .func (.func g') #[] #[]]) w := by
   unfold execOp
   simp only [ho]
   rw [← ex, ← ey]
   exact hrun
  refine ⟨fun _ _ => trivial, ?_⟩
  rw [Oper.semAt_eq _ _ _ (by rw [ho]; intro c hc'; cases hc'), hex, Oper.uponIn_enter]
  refine ⟨fun q => (by cases q), CallsIn.mono (callsIn_rnd hc) ?_⟩
  rintro e w' ⟨rfl, hg, cs', c3, c4⟩
  show next _ _
  apply hnext
  have hln : (⟨ob.e, ob.t, ys, true⟩ : Ob).ln = ob.ln := by rw [row_ln hrow, row_ln (o := ⟨ob.e, ob.t, ys, true⟩) hrow]; exact hlen
  have h2 := h.wr (o' := ⟨ob.e, ob.t, ys, true⟩) hok hmu rfl hln rfl hg (by rw [OR_own (o := ⟨ob.e, ob.t, ys, true⟩) hrow rfl]; exact ⟨cs', c3, Fl_Cs_mono (fun _ h => h) (h.ag_row hok hmu hg) c4⟩) (fun i hi => by rw [row_ids (o := ⟨ob.e, ob.t, ys, true⟩) hrow] at hi; cases hi)
  exact ⟨_, S, V, hK, (h2.put (p := .tnil) (v := .tuple #[]) rfl (fun k hk => by cases hk) o.dst hd).keys (fun j hj => hj.1)⟩
 obtain ⟨l, m, hl, hm, hrun⟩ := hcall hfn xs Ts o.type
 have mono : ∀ {al : List TV} {vs : List Value}, Args w S al vs → Args w S1 al vs := fun {al} => by
  induction al with
  | nil => intro vs h; cases vs <;> exact h
  | cons tv al ih => intro vs h; cases vs with
   | nil => exact h
   | cons v vs => exact ⟨Vs_mono hSS (fun _ _ => rfl) h.1, ih h.2⟩
 have hc := hcon w S1 (l ++ (xs.toList.map a.eval ++ m)) hz.lt (Args_app (mono hl) (Args_app hargs (mono hm)))
 have hex : (execOp a.eval o).run P w = .ok (.enter g (l ++ (xs.toList.map a.eval ++ m)).toArray) w := by
  unfold execOp
  simp only [ho]
  exact hrun
 have hpk : ∀ {f' : FS} {k : Nat}, k % 2 = 0 → (key ≤ k ∧ k < key + 2 * (obsOf rs).length) → ¬ Fr (fun j => Fk j ∧ ¬ (key ≤ j ∧ j < key + 2 * (obsOf rs).length)) f' k := fun {f' k} h0 h1 => by
  rintro (q | ⟨i, _, q⟩)
  ·exact q.2 h1
  ·rw [q] at h0; unfold od at h0; omega
 refine ⟨fun _ _ => trivial, ?_⟩
 rw [Oper.semAt_eq _ _ _ (by rw [ho]; intro c hc'; cases hc'), hex, Oper.uponIn_enter]
 refine ⟨fun q => (by cases q), CallsIn.mono (callsIn_rnd hc) ?_⟩
 rintro e w' ⟨vs, rfl, hb, S', s1, s2, hr⟩
 show next _ _
 apply hnext
 split at hK
 ·rename_i hfl
  have hg := h.grow hb
  obtain ⟨V', r1, r2, r3, r4⟩ := newsR (n := w.heap.size) (key := key) h.size hg (fun i hi => hk i (by omega)) (fun k o b e hm hb' => .inl (h.ow k o e hm b hb').2) (Rets_flat h.lt hfl hr)
  refine ⟨_, S, V', hK, (r1.put (PVs_ret r2) (fun k hk' => ?_) o.dst hd).keys (fun j hj => ⟨hj.1, fun e => hj.2 (by omega)⟩)⟩
  obtain ⟨p, p1, p2⟩ := pvOf_keys hk'
  have := r4 p p1 k p2
  exact hpk (h.fe _ this.2.2) ⟨this.1, this.2.1⟩
 ·obtain ⟨hdr, hK⟩ := hK
  have hg := hz.grow hb
  have hx := hg.ext (S' := S') s2 (fun b hb' hn' => by
   have hbs : b < w.heap.size := by
    rcases Nat.lt_or_ge b w.heap.size with q | q
    ·exact q
    ·exact absurd (h.size b q) hn'
   exact hz.old b (s1 b hbs hb') hn') (fun k o b e hm hb' hs => by
   have := hz.ow k o e hm b hb'
   exact hz.sp k o e hm b hb' (s1 b this.2 hs))
  obtain ⟨V', r1, r2, r3, r4⟩ := newsR (n := w.heap.size) (key := key) h.size hx (fun i hi => hk i (by omega)) (fun k o b e hm hb' => .inl (hz.ow k o e hm b hb').2) (Rets_ext hz.lt hr)
  refine ⟨_, _, V', hK, (r1.put (PVs_ret r2) (fun k hk' => ?_) o.dst hd).keys (fun j hj => ⟨hj.1, fun e => hj.2 (by omega)⟩)⟩
  obtain ⟨p, p1, p2⟩ := pvOf_keys hk'
  have := r4 p p1 k p2
  exact hpk (h.fe _ this.2.2) ⟨this.1, this.2.1⟩
end
end Go.TT
end

/- Machine side and arithmetic of the law, put together by a program of the session. No conditions. -/
import Derived.Laws.BytesString
import Derived.Test.YtillaipaanancaaGreatKdr5
section
namespace Go.TT
open Go.RowKit
set_option linter.unusedVariables false
set_option linter.unusedSimpArgs false
theorem FdOk_get {P : Program} : ∀ {t : Ty} {fs : List Field} {o n : Nat} {q : Nat × Ty}, FdOk P t fs o → t.off [n] = some q → ∃ fd, fs[n]? = some fd ∧ fd.offset = o + q.1 ∧ TyOk P q.2 fd.type ∧ (0 < q.2.sz ∧ q.2.row = true)
 | .pr a b, fd :: fs, o, 0, q, h, e => by
  unfold FdOk at h
  obtain ⟨h1, h2, h3, h4⟩ := h
  have e : a.off [] = some q := e
  unfold Ty.off at e
  injection e with e; subst e
  exact ⟨fd, rfl, h1, h2, h3⟩
 | .pr a b, fd :: fs, o, n + 1, q, h, e => by
  unfold FdOk at h
  obtain ⟨h1, h2, h3, h4⟩ := h
  have e' : (b.off [n]).map (fun q => (a.sz + q.1, q.2)) = some q := e
  obtain ⟨⟨o2, t2⟩, e3, e4⟩ := Option.map_eq_some_iff.1 e'
  obtain ⟨fd', r1, r2, r3⟩ := FdOk_get h4 e3
  refine ⟨fd', r1, ?_, by rw [← e4]; exact r3⟩
  rw [r2, ← e4]; simp only []; omega
 | .un, [], o, n, q, h, e => by simp [Ty.off] at e
 | .un, _ :: _, o, n, q, h, e => by simp [Ty.off] at e
 | .pr _ _, [], _, _, _, h, _ => by unfold FdOk at h; exact h.elim
 | .int _, _, _, _, _, h, e => by simp [Ty.off] at e
 | .bool, _, _, _, _, h, e => by simp [Ty.off] at e
 | .str, _, _, _, _, h, e => by simp [Ty.off] at e
 | .sl _ _, _, _, _, _, h, e => by simp [Ty.off] at e
 | .rf _, _, _, _, _, h, e => by simp [Ty.off] at e
 | .fn _ _ _, _, _, _, _, h, e => by simp [Ty.off] at e
 | .ifc _ _, _, _, _, _, h, e => by simp [Ty.off] at e
 | .id _ _, _, _, _, _, h, e => by simp [Ty.off] at e
 | .mp _ _, _, _, _, _, h, e => by simp [Ty.off] at e
 | .ar _, _, _, _, _, h, e => by simp [Ty.off] at e
theorem TyOk_fld {P : Program} {t : Ty} {T n : Nat} (hT : TyOk P t T) (h : (t.off [n]).isSome = true) : ∃ q fs fd, t.off [n] = some q ∧ P.underlying T = some (.struct fs) ∧ fs[n]? = some fd ∧ fd.offset = q.1 ∧ TyOk P q.2 fd.type ∧ 0 < q.2.sz ∧ t.ag = true := by
 obtain ⟨q, e⟩ := Option.isSome_iff_exists.1 h
 cases t <;> first | (simp [Ty.off] at e; done) | skip
 unfold TyOk at hT
 obtain ⟨fs, h1, _, h2⟩ := hT
 obtain ⟨fd, r1, r2, r3, r4⟩ := FdOk_get h2 e
 exact ⟨q, fs, fd, e, h1, by simpa using r1, by rw [r2, Nat.zero_add], r3, r4.1, rfl⟩
theorem off_snoc : ∀ {t : Ty} {fs : List Nat} {q : Nat × Ty} {n : Nat} {r : Nat × Ty}, t.off fs = some q → q.2.off [n] = some r → t.off (fs ++ [n]) = some (q.1 + r.1, r.2)
 | t, [], q, n, r, e, e2 => by
  unfold Ty.off at e
  have e : some (0, t) = some q := by simpa using e
  injection e with e; subst e
  rw [List.nil_append, e2, Nat.zero_add]
 | .pr a b, 0 :: fs, q, n, r, e, e2 => off_snoc (t := a) (fs := fs) e e2
 | .pr a b, (m + 1) :: fs, q, n, r, e, e2 => by
  have e' : (b.off (m :: fs)).map (fun q => (a.sz + q.1, q.2)) = some q := e
  obtain ⟨⟨o2, t2⟩, e3, e4⟩ := Option.map_eq_some_iff.1 e'
  subst e4
  have := off_snoc (t := b) (fs := m :: fs) e3 e2
  show (b.off (m :: (fs ++ [n]))).map (fun q => (a.sz + q.1, q.2)) = _
  rw [show (m :: (fs ++ [n])) = (m :: fs) ++ [n] from rfl, this]
  simp [Nat.add_assoc]
 | .ar b, 0 :: m :: fs, q, n, r, e, e2 => off_snoc (t := b) (fs := m :: fs) e e2
 | .ar b, [_], _, _, _, e, _ => by simp [Ty.off] at e
 | .ar b, (_ + 1) :: _ :: _, _, _, _, e, _ => by simp [Ty.off] at e
 | .int _, _ :: _, _, _, _, e, _ => by simp [Ty.off] at e
 | .bool, _ :: _, _, _, _, e, _ => by simp [Ty.off] at e
 | .str, _ :: _, _, _, _, e, _ => by simp [Ty.off] at e
 | .sl _ _, _ :: _, _, _, _, e, _ => by simp [Ty.off] at e
 | .un, _ :: _, _, _, _, e, _ => by simp [Ty.off] at e
 | .rf _, _ :: _, _, _, _, e, _ => by simp [Ty.off] at e
 | .fn _ _ _, _ :: _, _, _, _, e, _ => by simp [Ty.off] at e
 | .ifc _ _, _ :: _, _, _, _, e, _ => by simp [Ty.off] at e
 | .id _ _, _ :: _, _, _, _, e, _ => by simp [Ty.off] at e
 | .mp _ _, _ :: _, _, _, _, e, _ => by simp [Ty.off] at e
section
variable {P : Program} {TE : TypeId → Option Ty} {n0 : Nat → Prop} {w0 : World} {S0 : Nat → Prop} {N : Nat} {Fk : Nat → Prop} {f : FS} {a : Act} {w w' : World} {S S' : Nat → Prop} {V V' : Nat → Value} {key : Nat} {K : KK}
theorem run_fieldAt {t : Ty} {T n : Nat} {ad : Addr} {fs : Array Field} {fd : Field} {q : Nat × Ty} (hu : P.underlying T = some (.struct fs)) (hf : fs[n]? = some fd) (ho : fd.offset = q.1) (hT : TyOk P q.2 fd.type) (hz : 0 < q.2.sz) :
  (Instr.fieldAt T (.pointer (some ad)) n).run P w = .ok (.pointer (some (ad.add q.1))) w := by
 have : ¬ q.2.sz = 0 := by omega
 simp [Instr.fieldAt, run_underlying hu, hf, Instr.sureAddr, fieldPlace, run_sizeOf hT, this, ho]
theorem aFldA_ok (hTE : ∀ e t, TE e = some t → TyOk P t e) (h : RelC n0 w0 S0 N Fk f a w S V) {T n : Nat} {x : Arg} {vx : Value} (hx : ArgOk Fk f w S V x vx) (he : aFldA TE T n [x] K) :
  Out n0 w0 S0 N Fk f a S key K ((Instr.fieldAt T vx n).run P w) := by
 unfold aFldA at he
 split at he
 ·rename_i t x' o heq
  simp only [List.cons.injEq, and_true] at heq
  subst heq
  obtain ⟨h1, h2, h3⟩ := he
  obtain ⟨ad, cs, rfl, hs, d1, d2⟩ := hx.pv
  obtain ⟨q, fs, fd, r1, r2, r3, r4, r5, r6, _⟩ := TyOk_fld (hTE _ _ h1) h2
  rw [run_fieldAt (t := t) r2 r3 r4 r5 r6]
  obtain ⟨_, c, c1, c2⟩ := Cel_pj (fs := [n]) ⟨cs, d1, d2⟩ r1
  exact Out.pure h h3 ⟨_, c, rfl, by rw [add_block]; exact hs, c1, c2⟩ (fun k hk => by cases hk)
 ·rename_i t x' o heq
  simp only [List.cons.injEq, and_true] at heq
  subst heq
  obtain ⟨h1, h2, h3⟩ := he
  obtain ⟨ad, cs, q1, hs, d1, d2⟩ := Vs_rf.1 hx.pv
  injection q1 with q1
  rw [q1]
  obtain ⟨q, fs, fd, r1, r2, r3, r4, r5, r6, _⟩ := TyOk_fld (hTE _ _ h1) h2
  rw [run_fieldAt (t := t) r2 r3 r4 r5 r6]
  obtain ⟨_, c, c1, c2⟩ := Cel_pj (fs := [n]) ⟨cs, d1, d2⟩ r1
  exact Out.pure h h3 ⟨_, c, rfl, by rw [add_block]; exact hs, c1, c2⟩ (fun k hk => by cases hk)
 ·rename_i k i fs o heq
  simp only [List.cons.injEq, and_true] at heq
  subst heq
  split at he
  ·rename_i q hq
   obtain ⟨h1, h2, h3⟩ := he
   obtain ⟨ho, hs⟩ := hx.sh rfl
   obtain ⟨i0, i1, ad, m, c, q', e1, e2, e3⟩ := hx.pv _ _ hs
   rw [hq] at e2; injection e2 with e2; subst e2
   obtain ⟨q2, fs2, fd, r1, r2, r3, r4, r5, r6, _⟩ := TyOk_fld (hTE _ _ h1) h2
   rw [e3, run_fieldAt (t := q.2) r2 r3 r4 r5 r6, add_add]
   refine Out.pure h h3 (fun n' t' e => ?_) (fun j hj => hx.ks j hj)
   rw [hs] at e
   injection e with e; injection e with q1 q2; subst q1 q2
   exact ⟨i0, i1, ad, m, c, _, e1, off_snoc hq r1, by rw [Nat.add_assoc]⟩
  ·exact he.elim
 ·exact he.elim
theorem run_part {t : Ty} {e : TypeId} {x : t.den} {cs : List Value} {o : Nat} (hT : TyOk P t e) {c : List Value} (h : Cs w S t x c) (hc : c = (cs.drop o).take t.sz) : ∃ v, (part e cs.toArray o).run P w = .ok v w ∧ Vs w S t x v := by
 refine ⟨t.mk c, ?_, c, h, rfl⟩
 have hl := Cs_len h
 unfold part Ty.mk
 simp only [Sem.run_bind, run_isAgg hT, Result.andThen_ok]
 rcases ha : t.ag with _ | _
 ·have : t.sz = 1 := by cases t <;> first | rfl | cases ha
  rw [this] at hl hc
  match c, hl with
  | [c], _ =>
   have : cs[o]? = some c := by
    have h0 : ([c] : List Value)[0]? = some c := rfl
    rw [hc] at h0
    simpa using h0
   simp [this]
 ·simp only [if_true, Sem.run_bind, run_sizeOf hT, Result.andThen_ok]
  rw [hc]
  show Result.ok _ _ = _
  congr 2
  apply Array.ext'
  simp [List.extract_eq_take_drop]
theorem aFld_ok (hTE : ∀ e t, TE e = some t → TyOk P t e) (h : RelC n0 w0 S0 N Fk f a w S V) {T n : Nat} {x : Arg} {vx : Value} (hx : ArgOk Fk f w S V x vx) (he : aFld TE T n [x] K) :
  Out n0 w0 S0 N Fk f a S key K ((Instr.field T vx n).run P w) := by
 unfold aFld at he
 split at he
 ·rename_i t x' o heq
  simp only [List.cons.injEq, and_true] at heq
  subst heq
  obtain ⟨h1, h2, h3⟩ := he
  obtain ⟨q, fs, fd, r1, r2, r3, r4, r5, r6, r7⟩ := TyOk_fld (hTE _ _ h1) h2
  obtain ⟨cs, d1, d2⟩ := hx.pv
  unfold Ty.mk at d2
  rw [r7] at d2
  simp only [if_true] at d2
  subst d2
  obtain ⟨t1, c, c1, _, c2⟩ := Cs_pj (fs := [n]) d1 r1
  have h5 : TyOk P (t.pj [n] x').t fd.type := by rw [t1]; exact r5
  rw [← t1] at c2
  obtain ⟨v, v1, v2⟩ := run_part (cs := cs) h5 c1 c2
  have : (Instr.field T (.agg cs.toArray) n).run P w = .ok v w := by
   simp only [Instr.field, Sem.run_bind, run_underlying r2, Result.andThen_ok, r3, asAgg, Sem.run_pure, r4]
   exact v1
  rw [this]
  exact Out.ro h h3 v2
 ·exact he.elim
theorem aMove_ok (h : RelC n0 w0 S0 N Fk f a w S V) {x : Arg} {vx : Value} (hx : ArgOk Fk f w S V x vx) (he : aMove [x] K) : Out n0 w0 S0 N Fk f a S key K (.ok vx w) :=
 Out.pure h he hx.pv hx.ks
theorem aPick_ok (h : RelC n0 w0 S0 N Fk f a w S V) {c x y : Arg} {vc vx vy : Value} (hc : ArgOk Fk f w S V c vc) (hx : ArgOk Fk f w S V x vx) (hy : ArgOk Fk f w S V y vy) (he : aPick [c, x, y] K) :
  ∃ b, vc = .bool b ∧ Out n0 w0 S0 N Fk f a S key K (.ok (if b then vx else vy) w) := by
 unfold aPick at he
 split at he
 ·rename_i b o x y heq
  simp only [List.cons.injEq, and_true] at heq
  obtain ⟨rfl, rfl, rfl⟩ := heq
  refine ⟨b, hc.bool, ?_⟩
  cases (b : Bool) with
  | true => exact Out.pure h he hx.pv hx.ks
  | false => exact Out.pure h he hy.pv hy.ks
 ·exact he.elim
theorem aBin_ok (h : RelC n0 w0 S0 N Fk f a w S V) {x y : Arg} {vx vy : Value} {op : BinOp} {t : TypeId} {ox oy : Operand} (hx : ArgOk Fk f w S V x vx) (hy : ArgOk Fk f w S V y vy) (he : aBin op [x, y] K) :
  Out n0 w0 S0 N Fk f a S key K ((do eqGuard op t ox oy vx vy; binOp op t vx vy).run P w) := by
 unfold aBin at he
 split at he
 ·rename_i k x o k' y o' heq
  simp only [List.cons.injEq, and_true] at heq
  obtain ⟨rfl, rfl⟩ := heq
  rw [hx.int, hy.int]
  obtain ⟨tv, v, h1, h2, h3⟩ := bin_ok (P := P) (w := w) he t ox oy
  rw [h3]
  exact Out.ro h h1 (Vs_mono (fun _ h => h.elim) (fun _ _ => rfl) h2)
 ·rename_i x o y o' heq
  simp only [List.cons.injEq, and_true] at heq
  obtain ⟨rfl, rfl⟩ := heq
  rw [hx.str, hy.str]
  split at he
  ·have : (do eqGuard .eql t ox oy (.string x) (.string y); binOp .eql t (.string x) (.string y)).run P w = .ok (.bool (ByteArray.toList x == ByteArray.toList y)) w := by simp [eqGuard, binOp, Op.stringOp]
   rw [this]; exact Out.ro h he (Vs_bool.2 rfl)
  ·have : (do eqGuard .neq t ox oy (.string x) (.string y); binOp .neq t (.string x) (.string y)).run P w = .ok (.bool (!(ByteArray.toList x == ByteArray.toList y))) w := by simp [eqGuard, binOp, Op.stringOp]
   rw [this]; exact Out.ro h he (Vs_bool.2 rfl)
  ·exact he.elim
 ·exact he.elim
theorem aUn_ok (h : RelC n0 w0 S0 N Fk f a w S V) {x : Arg} {vx : Value} {op : UnOp} (hx : ArgOk Fk f w S V x vx) (he : aUn op [x] K) : Out n0 w0 S0 N Fk f a S key K ((Op.unary op vx).run P w) := by
 unfold aUn at he
 split at he
 ·rename_i k x o heq
  simp only [List.cons.injEq, and_true] at heq
  subst heq
  rw [hx.int]
  split at he
  ·exact Out.ro h he (Vs_int.2 rfl)
  ·exact he.elim
 ·rename_i x o heq
  simp only [List.cons.injEq, and_true] at heq
  subst heq
  rw [hx.bool]
  split at he
  ·exact Out.ro h he (Vs_bool.2 rfl)
  ·exact he.elim
 ·exact he.elim
theorem Fl_bytes {xs : List Int} {cs : List Value} (h : Fl (Cs w S (.int .u8)) xs cs) : cs = xs.map (Value.int .u8) := by
 induction xs generalizing cs with
 | nil => exact h
 | cons x xs ih =>
  obtain ⟨c1, c2, e, h1, h2⟩ := h
  have h1 : c1 = [.int .u8 x] := h1
  rw [e, h1, ih h2]; rfl
theorem conv_bytes (hTE : ∀ e t, TE e = some t → TyOk P t e) {src dst e : TypeId} {xs : List Int} {A : Option Addr} {c : Nat} {cs : List Value} (h1 : TE src = some (.sl e (.int .u8))) (h2 : TE dst = some .str)
  (h3 : Fl (Cs w S (.int .u8)) xs cs) (h4 : xs = [] ∨ ∃ ad, A = some ad ∧ ∀ j u, cs[j]? = some u → w.cell? (ad.add j) = some u) : (convert src dst (.slice A xs.length c)).run P w = .ok (.string (strN xs)) w := by
 have hs := hTE _ _ h1
 have hd := hTE _ _ h2
 unfold TyOk at hs hd
 have he := hs.2.2.1
 unfold TyOk at he
 rw [run_convert_bytes_string w src dst e A _ c hs.1 he.1 hd.1]
 have hcs := Fl_bytes h3
 rcases A with _ | ad
 ·rcases h4 with h4 | ⟨ad, h4, _⟩
  ·subst h4; simp [Conv.bytesToString, strN]
  ·cases h4
 ·have hl : (loadCells ad xs.length).run P w = .ok (xs.map (Value.int .u8)).toArray w := by
   have := run_loadCells_list (P := P) (w := w) ad (xs.map (Value.int .u8)) (fun j v hj => by
    rcases h4 with h4 | ⟨ad', e1, h4⟩
    ·subst h4; simp at hj
    ·injection e1 with e1; subst e1; exact h4 j v (by rw [hcs]; exact hj))
   rwa [List.length_map] at this
  exact run_bytesToString w ad _ c xs hl
theorem aConv_ok (hTE : ∀ e t, TE e = some t → TyOk P t e) (h : RelC n0 w0 S0 N Fk f a w S V) {src dst : TypeId} {x : Arg} {vx : Value} (hx : ArgOk Fk f w S V x vx) (he : aConv TE src dst [x] K) :
  Out n0 w0 S0 N Fk f a S key K ((convert src dst vx).run P w) := by
 unfold aConv at he
 split at he
 ·rename_i k x o heq
  simp only [List.cons.injEq, and_true] at heq
  subst heq
  rw [hx.int]
  obtain ⟨h1, he⟩ := he
  split at he
  ·rename_i k' hk
   have hs := hTE _ _ h1
   have hd := hTE _ _ hk
   unfold TyOk at hs hd
   have : (convert src dst (.int k x)).run P w = .ok (.int k' (k'.wrap x)) w := by
    simp [convert, run_underlying hs.1, run_underlying hd.1, Conv.intToInt]
   rw [this]
   exact Out.ro h he (Vs_int.2 rfl)
  ·exact he.elim
 ·rename_i e xs o heq
  simp only [List.cons.injEq, and_true] at heq
  subst heq
  obtain ⟨h1, h2, he⟩ := he
  obtain ⟨A, c, cs, e1, _, h3, h4⟩ := Vs_sl.1 hx.pv
  injection e1 with e1
  subst e1
  rw [conv_bytes hTE h1 h2 h3 (h4.imp id fun ⟨ad, q1, _, q2⟩ => ⟨ad, q1, q2⟩)]
  exact Out.ro h he (Vs_str.2 rfl)
 ·rename_i k e xs mu heq
  simp only [List.cons.injEq, and_true] at heq
  subst heq
  obtain ⟨h1, h2, he⟩ := he
  have hq := hx.sh rfl
  obtain ⟨A, c, cs, e1, _, h3, h4⟩ := h.own_sl hq.1 rfl
  have hv := hx.pv _ _ hq.2
  rw [hv, e1, conv_bytes hTE h1 h2 h3 h4]
  exact Out.ro h he (Vs_str.2 rfl)
 ·rename_i k l j e xs mu heq
  simp only [List.cons.injEq, and_true] at heq
  subst heq
  obtain ⟨h1, h2, he⟩ := he
  obtain ⟨ho, hs⟩ := hx.sh rfl
  obtain ⟨A, c, cs, e3, e4, e5, e6⟩ := h.own_sl ho rfl
  have hs' : f.sh k = some (List.length xs, .int .u8) := hs
  obtain ⟨hlm, hmn, A', m', c', A2, q1, q2, q6⟩ := hx.pv _ _ hs'
  rw [e3] at q1
  obtain ⟨q3, q4, q5⟩ := own_len q1
  subst q3 q4 q5
  have hmn : j ≤ List.length xs := hmn
  have hlen : ((List.take j xs).drop l).length = j - l := by rw [List.length_drop, List.length_take, Nat.min_eq_left hmn]
  rw [show vx = .slice A2 ((List.take j xs).drop l).length _ by rw [hlen]; exact q2]
  rw [conv_bytes (xs := (List.take j xs).drop l) (cs := (cs.take (j * 1)).drop (l * 1)) hTE h1 h2 (Fl_drop (fun _ _ => Cs_len) (Fl_take (fun _ _ => Cs_len) e5 j hmn) l (by rw [List.length_take, Nat.min_eq_left hmn]; exact hlm)) ?_]
  ·exact Out.ro h he (Vs_str.2 rfl)
  ·by_cases hjl : j = l
   ·left; apply List.eq_nil_of_length_eq_zero; rw [hlen]; omega
   ·right
    rcases e6 with e6 | ⟨ad, rfl, hc⟩
    ·have e6 : xs = [] := e6
     rw [e6] at hmn; simp at hmn; omega
    ·refine ⟨ad.add (l * 1), by rw [q6.resolve_left hjl]; rfl, fun i u hi => ?_⟩
     rw [add_add]
     rw [List.getElem?_drop, List.getElem?_take] at hi
     split at hi
     ·exact hc _ _ hi
     ·cases hi
 ·exact he.elim
theorem aIdx_ok (hTE : ∀ e t, TE e = some t → TyOk P t e) (h : RelC n0 w0 S0 N Fk f a w S V) {T : TypeId} {x y : Arg} {vx vy : Value} (hx : ArgOk Fk f w S V x vx) (hy : ArgOk Fk f w S V y vy) (he : aIdx TE T [x, y] K) :
  Out n0 w0 S0 N Fk f a S key K ((Instr.index T vx vy).run P w) := by
 unfold aIdx at he
 split at he
 ·rename_i s o k i o' heq
  simp only [List.cons.injEq, and_true] at heq
  obtain ⟨rfl, rfl⟩ := heq
  obtain ⟨h1, h2, h3, h4⟩ := he
  have hT := hTE _ _ h1
  unfold TyOk at hT
  rw [hx.str, hy.int]
  have hi : Int.toNat i < ByteArray.size s := toNat_lt' h2 h3
  have : (Instr.index T (.string s) (.int k i)).run P w = .ok (.int .u8 ((((ByteArray.data s).getD (i : Int).toNat 0).toNat : Nat) : Int)) w := by
   have h5 : s[Int.toNat i]? = some (s.data.getD (Int.toNat i) 0) := by
    rw [getElem?_pos s (Int.toNat i) hi]
    congr 1
    have hi' : Int.toNat i < s.data.size := hi
    simp only [Array.getD, hi', dif_pos]
    rfl
   simp only [Instr.index, Sem.run_bind, asIntOf, Sem.run_pure, Result.andThen_ok, run_underlying hT.1]
   rw [if_pos h2, h5]
   rfl
  rw [this]
  exact Out.ro h h4 (Vs_int.2 rfl)
 ·exact he.elim
theorem PVl_nth {sh : Sh} : ∀ {p : PV} {vs : List Value} {i : Nat} {q : PV}, PVl w S V sh p vs → p.nth i = some q → ∃ v, vs[i]? = some v ∧ PV1 w S V sh q v ∧ ∀ k ∈ q.keys, k ∈ p.keys
 | .pair a b, _, 0, q, ⟨v, vs', e, h1, h2⟩, e2 => by
  have e2 : some a = some q := e2
  injection e2 with e2; subst e2
  exact ⟨v, by rw [e]; rfl, h1, fun k hk => by simp [PV.keys, hk]⟩
 | .pair a b, _, n + 1, q, ⟨v, vs', e, h1, h2⟩, e2 => by
  obtain ⟨u, u1, u2, u3⟩ := PVl_nth (p := b) (i := n) h2 e2
  exact ⟨u, by rw [e]; exact u1, u2, fun k hk => by simp [PV.keys, u3 k hk]⟩
theorem PV1_r {sh : Sh} {p : PV} {v : Value} (h : PV1 w S V sh p v) : PVr w S V sh p v := by
 cases p <;> first | exact h | exact h.elim
theorem aExt_ok (h : RelC n0 w0 S0 N Fk f a w S V) {i : Nat} {x : Arg} {vx : Value} (hx : ArgOk Fk f w S V x vx) (he : aExt i [x] K) : Out n0 w0 S0 N Fk f a S key K ((Instr.extract vx i).run P w) := by
 unfold aExt at he
 split at he
 ·rename_i p o heq
  simp only [List.cons.injEq, and_true] at heq
  subst heq
  split at he
  ·rename_i q hq
   have hp := hx.pv
   cases p <;> first | (simp [PV.nth] at hq; done) | skip
   obtain ⟨vs, rfl, hl⟩ := hp
   obtain ⟨u, u1, u2, u3⟩ := PVl_nth hl hq
   have : (Instr.extract (.tuple vs.toArray) i).run P w = .ok u w := by simp [Instr.extract, u1]
   rw [this]
   exact Out.pure h he (PV1_r u2) (fun k hk => hx.ks k (u3 k hk))
  ·exact he.elim
 ·exact he.elim
end
end Go.TT
end

/- Machine side and arithmetic of the law, put together by a program of the session. No conditions. -/
import Derived.Test.YtillaipaanancaaGreatKdr12
section
namespace Go.TT
open Go.RowKit
set_option linter.unusedVariables false
set_option linter.unusedSimpArgs false
section
variable {P : Program} {TE : TypeId → Option Ty} {N : Nat} {ps : List Nat} {dr : Bool} {ops : Array Oper} {key nx : Nat} {f f' : FS} {K : KF} {Q : KE} {d : Option Tmp} {ty : TypeId} {pos : String} {af : Array Edge} {gd : Option (Nat × Bool)} {T e src dst : TypeId} {x y z : Operand}
def kk (f : FS) (key : Nat) (d : Option Nat) (K : KF) : KK := fun p obs => K ((f.news key obs).put d p)
theorem kk_0 {p : PV} : kk f key d K p [] = K (f.put d p) := rfl
theorem kk_1 {p : PV} {o : Ob} : kk f key d K p [o] = K ((f.new key o).put d p) := rfl
def cleV (p : PV) (K : FuncId → List TV → List TV → Prop) : Prop := match p with
 | .ro (.fn (.func g) a c) z => K g (a.tvs z.1) (c.tvs z.2)
 | _ => False
@[congr] theorem cleV_congr {p p' : PV} {K : FuncId → List TV → List TV → Prop} (h : w_ p = p') : cleV p K = cleV p' K := by rw [w_1] at h; rw [h]
def cleI (P : Program) (m : String) (p : PV) (K : FuncId → List TV → List TV → Prop) : Prop := match p with
 | .ro (.ifc d t) y => ∃ g, mth P d m g ∧ K g [⟨t, y⟩] []
 | _ => False
@[congr] theorem cleI_congr {m : String} {p p' : PV} {K : FuncId → List TV → List TV → Prop} (h : w_ p = p') : cleI P m p K = cleI P m p' K := by rw [w_1] at h; rw [h]
theorem cleV_f {K : FuncId → List TV → List TV → Prop} {g : FuncId} {a c : Ty} {z : (Ty.fn (.func g) a c).den} : cleV (.ro (.fn (.func g) a c) z) K = K g (a.tvs z.1) (c.tvs z.2) := rfl
theorem cleI_i {m : String} {K : FuncId → List TV → List TV → Prop} {dd : TypeId} {t : Ty} {y : (Ty.ifc dd t).den} : cleI P m (.ro (.ifc dd t) y) K = ∃ g, mth P dd m g ∧ K g [⟨t, y⟩] [] := rfl
def calK (P : Program) (dr : Bool) (key : Nat) (d : Option Nat) (xs : List Operand) (f : FS) (K : KF) (fn : FuncId) (al : List TV) : Prop := (∃ rs, Con P fn al rs ∧ (obsOf rs).length ≤ 4 ∧
  if flatR rs = true then K ((f.news key (obsOf rs)).put d (pvOf (pvsOf key rs)))
  else (dr = false ∨ noOwn f xs) ∧ K (((f.fzo xs).news key (obsOf rs)).put d (pvOf (pvsOf key rs)))) ∨ hndK P dr d xs f K fn al
theorem stp_call {fn : FuncId} {xs : Array Operand} {Ts : Array TypeId} : stp P TE N dr key ⟨d, .call { callee := .value (.func fn), args := xs, argTypes := Ts }, ty, pos, af, gd⟩ f K = (dOk N d ∧ rds TE f xs.toList Ts.toList fun al => calK P dr key d xs.toList f K fn al) := by
 show (dOk N d ∧ rds TE f xs.toList Ts.toList fun al => calK P dr key d xs.toList f K fn ([] ++ (al ++ []))) = _
 simp only [List.nil_append, List.append_nil]
theorem stp_callv {t : Tmp} {xs : Array Operand} {Ts : Array TypeId} : stp P TE N dr key ⟨d, .call { callee := .value (.tmp t), args := xs, argTypes := Ts }, ty, pos, af, gd⟩ f K = (dOk N d ∧ cleV (f.g t) fun g pre post => rds TE f xs.toList Ts.toList fun al => calK P dr key d xs.toList f K g (pre ++ (al ++ post))) := rfl
theorem stp_calli {t : Tmp} {m : String} {xs : Array Operand} {Ts : Array TypeId} : stp P TE N dr key ⟨d, .call { callee := .invoke (.tmp t) m, args := xs, argTypes := Ts }, ty, pos, af, gd⟩ f K = (dOk N d ∧ cleI P m (f.g t) fun g pre post => rds TE f xs.toList Ts.toList fun al => calK P dr key d xs.toList f K g (pre ++ (al ++ post))) := rfl
theorem stp_ev {op : Op} (h1 : fnOf op = none) (h2 : full TE key ⟨d, op, ty, pos, af, gd⟩ f K = fEv TE key ⟨d, op, ty, pos, af, gd⟩ f K) (h3 : mkI N ⟨d, op, ty, pos, af, gd⟩ f = none) (h4 : isBS op = false := by rfl) : stp P TE N dr key ⟨d, op, ty, pos, af, gd⟩ f K = (dOk N d ∧ ev TE key op (op.operands.toList.map f.res) (kk f key d K)) := by
 have h5 : fEvD TE key ⟨d, op, ty, pos, af, gd⟩ f K = fEv TE key ⟨d, op, ty, pos, af, gd⟩ f K := by
  unfold fEvD fEv frzL
  simp only [h4, Bool.false_eq_true, if_false]
 unfold stp
 rw [h1]
 simp only [h2, h3, h5, ite_self]
 rfl
theorem stp_move : stp P TE N dr key ⟨d, .move x, ty, pos, af, gd⟩ f K = (dOk N d ∧ kk f key d K (f.op x) []) := stp_ev rfl rfl rfl
theorem stp_assign : stp P TE N dr key ⟨d, .assign x, ty, pos, af, gd⟩ f K = (dOk N d ∧ kk f key d K (f.op x) []) := stp_ev rfl rfl rfl
theorem stp_pick : stp P TE N dr key ⟨d, .pick x y z, ty, pos, af, gd⟩ f K = (dOk N d ∧ aPick [f.res x, f.res y, f.res z] (kk f key d K)) := stp_ev rfl rfl rfl
theorem stp_bin {op : BinOp} {t t' : TypeId} : stp P TE N dr key ⟨d, .binOp op t x y t', ty, pos, af, gd⟩ f K = (dOk N d ∧ aBin op [f.res x, f.res y] (kk f key d K)) := stp_ev rfl rfl rfl
theorem stp_un {op : UnOp} {t : TypeId} : stp P TE N dr key ⟨d, .unOp op t x, ty, pos, af, gd⟩ f K = (dOk N d ∧ aUn op [f.res x] (kk f key d K)) := stp_ev rfl rfl rfl
theorem stp_conv : stp P TE N dr key ⟨d, .convert src dst x, ty, pos, af, gd⟩ f K = (dOk N d ∧ aConv TE src dst [f.res x] (kk f key d K)) := stp_ev rfl rfl rfl
theorem stp_load : stp P TE N dr key ⟨d, .load T x, ty, pos, af, gd⟩ f K = (dOk N d ∧ aLoad TE T [f.res x] (kk f key d K)) := stp_ev rfl rfl rfl
theorem stp_idxA : stp P TE N dr key ⟨d, .indexAddr T x y, ty, pos, af, gd⟩ f K = (dOk N d ∧ aIdxA TE T [f.res x, f.res y] (kk f key d K)) := stp_ev rfl rfl rfl
theorem stp_fldA {n : Nat} : stp P TE N dr key ⟨d, .fieldAddr T x n, ty, pos, af, gd⟩ f K = (dOk N d ∧ aFldA TE T n [f.res x] (kk f key d K)) := stp_ev rfl rfl rfl
theorem stp_fld {n : Nat} : stp P TE N dr key ⟨d, .field T x n, ty, pos, af, gd⟩ f K = (dOk N d ∧ aFld TE T n [f.res x] (kk f key d K)) := stp_ev rfl rfl rfl
theorem stp_idx : stp P TE N dr key ⟨d, .index T x y, ty, pos, af, gd⟩ f K = (dOk N d ∧ aIdx TE T [f.res x, f.res y] (kk f key d K)) := stp_ev rfl rfl rfl
theorem stp_make : stp P TE N dr key ⟨d, .makeSlice T x y, ty, pos, af, gd⟩ f K = (dOk N d ∧ aMake TE key T [f.res x, f.res y] (kk f key d K)) := stp_ev rfl rfl rfl
def alC (TE : TypeId → Option Ty) (key : Nat) (e : TypeId) (f : FS) (d : Option Nat) (K : KF) (p : PV) : Prop := match p with
 | .tnil => fAlI TE key e f d K
 | _ => aAlloc TE key e [] (kk f key d K)
@[congr] theorem alC_congr {d : Option Nat} {p p' : PV} (h : w_ p = p') : alC TE key e f d K p = alC TE key e f d K p' := by rw [w_1] at h; rw [h]
theorem alC_b {d : Option Nat} : alC TE key e f d K .bot = aAlloc TE key e [] (kk f key d K) := rfl
theorem alC_t {d : Option Nat} : alC TE key e f d K .tnil = fAlI TE key e f d K := rfl
theorem stp_alloc {d : Nat} : stp P TE N false key ⟨some d, .alloc e, ty, pos, af, gd⟩ f K = (dOk N (some d) ∧ alC TE key e f (some d) K (f.g (N + d))) := by
 unfold stp mkI alC
 simp only [fnOf, Bool.false_eq_true, if_false]
 cases f.g (N + d) <;> rfl
theorem stp_allocd : stp P TE N true key ⟨d, .alloc e, ty, pos, af, gd⟩ f K = (dOk N d ∧ aAlloc TE key e [] (kk f key d K)) := rfl
theorem stp_ext {n : Nat} : stp P TE N dr key ⟨d, .extract x n, ty, pos, af, gd⟩ f K = (dOk N d ∧ aExt n [f.res x] (kk f key d K)) := stp_ev rfl rfl rfl
theorem stp_nilC : stp P TE N dr key ⟨d, .nilCheck x, ty, pos, af, gd⟩ f K = (dOk N d ∧ aNilC [f.res x] (kk f key d K)) := stp_ev rfl rfl rfl
theorem stp_len {xs : Array Operand} {ts : Array TypeId} : stp P TE N dr key ⟨d, .call { callee := .builtin .len, args := xs, argTypes := ts }, ty, pos, af, gd⟩ f K = (dOk N d ∧ 0 < ts.size ∧ aLen TE (ts.getD 0 0) (xs.toList.map f.res) (kk f key d K)) := by
 refine (stp_ev rfl rfl rfl).trans ?_
 simp only [w_1, Op.operands, Call.operands, Array.toList_append, List.nil_append, ev]
theorem stp_max {xs : Array Operand} {ts : Array TypeId} : stp P TE N dr key ⟨d, .call { callee := .builtin .max, args := xs, argTypes := ts }, ty, pos, af, gd⟩ f K = (dOk N d ∧ aMax (xs.toList.map f.res) (kk f key d K)) := by
 refine (stp_ev rfl rfl rfl).trans ?_
 simp only [w_1, Op.operands, Call.operands, Array.toList_append, List.nil_append, ev]
theorem stp_min {xs : Array Operand} {ts : Array TypeId} : stp P TE N dr key ⟨d, .call { callee := .builtin .min, args := xs, argTypes := ts }, ty, pos, af, gd⟩ f K = (dOk N d ∧ aMin (xs.toList.map f.res) (kk f key d K)) := by
 refine (stp_ev rfl rfl rfl).trans ?_
 simp only [w_1, Op.operands, Call.operands, Array.toList_append, List.nil_append, ev]
theorem stp_len1 {u : Operand} : stp P TE N dr key ⟨d, .call { callee := .builtin .len, args := #[u], argTypes := #[T] }, ty, pos, af, gd⟩ f K = (dOk N d ∧ aLen TE T [f.res u] (kk f key d K)) := by
 rw [stp_len]; simp only [Array.getD, List.size_toArray, List.length_cons, List.length_nil, Nat.zero_add, Nat.zero_lt_one, dif_pos, true_and]; rfl
theorem stp_max2 {u v : Operand} {ts : Array TypeId} : stp P TE N dr key ⟨d, .call { callee := .builtin .max, args := #[u, v], argTypes := ts }, ty, pos, af, gd⟩ f K = (dOk N d ∧ aMax [f.res u, f.res v] (kk f key d K)) := by
 rw [stp_max]; rfl
theorem stp_min2 {u v : Operand} {ts : Array TypeId} : stp P TE N dr key ⟨d, .call { callee := .builtin .min, args := #[u, v], argTypes := ts }, ty, pos, af, gd⟩ f K = (dOk N d ∧ aMin [f.res u, f.res v] (kk f key d K)) := by
 rw [stp_min]; rfl
theorem stp_store : stp P TE N dr key ⟨d, .store T x y, ty, pos, af, gd⟩ f K = (dOk N d ∧ fSt TE key T y f d K (f.res x)) := by
 unfold stp; simp only [fnOf, isBar, Bool.true_eq_false, and_false, if_false, mkI, ite_self]; rfl
theorem stp_mup : stp P TE N dr key ⟨d, .mapUpdate T x y z, ty, pos, af, gd⟩ f K = (dOk N d ∧ fMUp TE T ((f.fzo [z]).res y) ((f.fzo [z]).res z) (f.fzo [z]) d K ((f.fzo [z]).res x)) := by
 unfold stp; simp only [fnOf, isBar, Bool.true_eq_false, and_false, if_false, mkI, ite_self]; rfl
theorem stp_app {al : Array Operand} {ts : Array TypeId} {u v : Operand} (h1 : al.toList = [u, v]) (h2 : ts.toList = [T, T]) : stp P TE N dr key ⟨d, .call { callee := .builtin .append, args := al, argTypes := ts }, ty, pos, af, gd⟩ f K = (dOk N d ∧ fAp TE key T v f d K (f.res u)) := by
 unfold stp; simp only [fnOf, isBar, Bool.true_eq_false, and_false, if_false, full, h1, h2, true_and, mkI, ite_self]
theorem stp_append {u v : Operand} : stp P TE N dr key ⟨d, .call { callee := .builtin .append, args := #[u, v], argTypes := #[T, T] }, ty, pos, af, gd⟩ f K = (dOk N d ∧ fAp TE key T v f d K (f.res u)) := stp_app rfl rfl
theorem stp_copy {u v : Operand} {T' : TypeId} : stp P TE N dr key ⟨d, .call { callee := .builtin .copy, args := #[u, v], argTypes := #[T, T'] }, ty, pos, af, gd⟩ f K = (dOk N d ∧ fCopy TE T (f.res v) f d K (f.res u)) := by
 unfold stp; simp only [fnOf, isBar, Bool.true_eq_false, and_false, if_false, full, mkI, ite_self]
theorem stp_sliced {lo hi mx : Option Operand} : stp P TE N true key ⟨d, .slice T x lo hi mx, ty, pos, af, gd⟩ f K = (dOk N d ∧ ev TE key (.slice T x lo hi mx) (((#[x] ++ lo.toArray ++ hi.toArray ++ mx.toArray).toList).map f.res) (kk f key d K)) := rfl
theorem stp_slice {lo hi : Option Operand} : stp P TE N false key ⟨d, .slice T x lo hi none, ty, pos, af, gd⟩ f K = (dOk N d ∧ fSli TE key ⟨d, .slice T x lo hi none, ty, pos, af, gd⟩ T lo hi f K (f.res x)) := rfl
theorem stp_slice3 {lo : Option Operand} {hi mx : Operand} : stp P TE N false key ⟨d, .slice T x lo (some hi) (some mx), ty, pos, af, gd⟩ f K = (dOk N d ∧ fSli3 TE key ⟨d, .slice T x lo (some hi) (some mx), ty, pos, af, gd⟩ f K (f.res x)) := rfl
theorem fEv_sl {lo hi mx : Option Operand} : fEv TE key ⟨d, .slice T x lo hi mx, ty, pos, af, gd⟩ f K = ev TE key (.slice T x lo hi mx) (((#[x] ++ lo.toArray ++ hi.toArray ++ mx.toArray).toList).map f.res) (kk f key d K) := rfl
theorem stp_build {ps : Array (Nat × Operand)} : stp P TE N false key ⟨d, .build T ps, ty, pos, af, gd⟩ f K = (dOk N d ∧ aBld TE T (ps.toList.map (·.1)) ((ps.toList.map (·.2)).map (f.fzo (ps.toList.map (·.2))).res) (kk (f.fzo (ps.toList.map (·.2))) key d K)) := rfl
theorem stp_buildd {ps : Array (Nat × Operand)} : stp P TE N true key ⟨d, .build T ps, ty, pos, af, gd⟩ f K = (dOk N d ∧ aBld TE T (ps.toList.map (·.1)) ((ps.toList.map (·.2)).map f.res) (kk f key d K)) := rfl
theorem stp_bldS {n : Nat} {ps : Array (Nat × Operand)} : stp P TE N false key ⟨d, .buildSlice T n ps, ty, pos, af, gd⟩ f K = (dOk N d ∧ fBlS TE key ⟨d, .buildSlice T n ps, ty, pos, af, gd⟩ f K (ps.toList.map (·.2))) := rfl
theorem fEv_bld {n : Nat} {ps : Array (Nat × Operand)} : fEv TE key ⟨d, .buildSlice T n ps, ty, pos, af, gd⟩ f K = aBldS TE key T n (ps.toList.map (·.1)) ((ps.toList.map (·.2)).map f.res) (kk f key d K) := rfl
def fB1 (a : Arg) (x y : Prop) : Prop := match a with
 | (.own _, some ⟨_, _, _, true⟩) => x
 | _ => y
@[congr] theorem fB1_congr {a a' : Arg} {x y : Prop} (h : w_ a = a') : fB1 a x y = fB1 a' x y := by rw [w_1] at h; rw [h]
theorem fBlS_0 {o : Oper} : fBlS TE key o f K [] = fEv TE key o f K := rfl
theorem fBlS_1 {o : Oper} : fBlS TE key o f K [x] = fB1 (f.res x) (fEv TE key o f K) (fEv TE key o (f.fzo [x]) K) := rfl
theorem fBlS_2 {o : Oper} {l : List Operand} : fBlS TE key o f K (x :: y :: l) = fEv TE key o (f.fzo (x :: y :: l)) K := rfl
section
variable {p q : Prop} {o : Option Ob} {t : Ty} {j : Nat}
theorem fB1_ow {e : TypeId} {xs : List t.den} : fB1 (.own j, some ⟨e, t, xs, true⟩) p q = p := rfl
theorem fB1_of {e : TypeId} {xs : List t.den} : fB1 (.own j, some ⟨e, t, xs, false⟩) p q = q := rfl
theorem fB1_ro {v : t.den} : fB1 (.ro t v, o) p q = q := rfl
theorem fB1_n : fB1 (.nil, o) p q = q := rfl
theorem fB1_c {v : t.den} : fB1 (.cel t v, o) p q = q := rfl
theorem fB1_v {l h : Nat} : fB1 (.vw j l h, o) p q = q := rfl
theorem one1_0 : one1 [] = none := rfl
theorem one1_2 {a b : Arg} {l : List Arg} : one1 (a :: b :: l) = none := by
 unfold one1; split
 ·rename_i h; cases h
 ·rfl
theorem one1_ow {e : TypeId} {xs : List t.den} : one1 [(.own j, some ⟨e, t, xs, true⟩)] = some (j, e, t) := rfl
theorem one1_of {e : TypeId} {xs : List t.den} : one1 [(.own j, some ⟨e, t, xs, false⟩)] = none := rfl
theorem one1_ro {v : t.den} : one1 [(.ro t v, o)] = none := rfl
theorem one1_n : one1 [(.nil, o)] = none := rfl
theorem one1_c {v : t.den} : one1 [(.cel t v, o)] = none := rfl
theorem one1_v {l h : Nat} : one1 [(.vw j l h, o)] = none := rfl
def fApG (TE : TypeId → Option Ty) (key : Nat) (T : TypeId) (x : Operand) (f : FS) (d : Option Nat) (K : KF) (a b : Arg) : Prop := match b with
 | (.one _ j, some _) => fApp TE key T ((f.frz j).res x) (f.frz j) d K (a.1, a.1.key.bind (f.frz j).o)
 | b => fApp TE key T b f d K a
@[congr] theorem fApG_congr {d : Option Nat} {a b b' : Arg} (h : w_ b = b') (h2 : w_ f = f') : fApG TE key T x f d K a b = fApG TE key T x f' d K a b' := by rw [w_1] at h h2; rw [h, h2]
theorem fAp_n {d : Option Nat} : fAp TE key T x f d K (.nil, o) = fApG TE key T x f d K (.nil, o) (f.res x) := rfl
theorem fAp_o {d : Option Nat} {e : TypeId} {xs : List t.den} {m : Bool} (h : t.row = true) : fAp TE key T x f d K (.own j, some ⟨e, t, xs, m⟩) = fApG TE key T x f d K (.own j, some ⟨e, t, xs, m⟩) (f.res x) := by cases t <;> first | rfl | cases h
theorem fAp_i {d : Option Nat} {e e' : TypeId} {ids : List Nat} {m : Bool} : fAp TE key T x f d K (.own j, some ⟨e, .id e' t, ids, m⟩) = ((TE T = some (.sl e (.sl e' t)) ∧ t.row = true) ∧ fApI e e' t ids j key f d K (f.res x)) := rfl
theorem fApG_1 {d : Option Nat} {e : TypeId} {b : Ob} {a : Arg} : fApG TE key T x f d K a (.one e j, some b) = fApp TE key T (((f.frz j).res x)) (f.frz j) d K (a.1, a.1.key.bind (f.frz j).o) := rfl
theorem fApG_r {d : Option Nat} {v : t.den} {a : Arg} : fApG TE key T x f d K a (.ro t v, o) = fApp TE key T (.ro t v, o) f d K a := rfl
theorem fApG_n {d : Option Nat} {a : Arg} : fApG TE key T x f d K a (.nil, o) = fApp TE key T (.nil, o) f d K a := rfl
theorem fApG_o {d : Option Nat} {a : Arg} : fApG TE key T x f d K a (.own j, o) = fApp TE key T (.own j, o) f d K a := rfl
theorem fApG_v {d : Option Nat} {a : Arg} {l h : Nat} : fApG TE key T x f d K a (.vw j l h, o) = fApp TE key T (.vw j l h, o) f d K a := rfl
theorem fSt_r {d : Option Nat} {v : Operand} {e : TypeId} {xs : List t.den} {m : Bool} {i : Int} {fs : List Nat} (h : t.row = true) : fSt TE key T v f d K (.ptr j i fs, some ⟨e, t, xs, m⟩) = fSto TE T ((f.fzo [v]).res v) (f.fzo [v]) d K (.ptr j i fs, (f.fzo [v]).o j) := by cases t <;> first | (cases h; done) | (cases fs <;> rfl)
theorem fSt_i {d : Option Nat} {v : Operand} {e e' : TypeId} {ids : List Nat} {m : Bool} {i : Int} : fSt TE key T v f d K (.ptr j i [], some ⟨e, .id e' t, ids, m⟩) = ((TE T = some (elT e' t) ∧ elR t = true) ∧ fStI e e' t ids j i key f d K (f.res v)) := rfl
variable {k : KK} {m : Bool}
theorem aLoad_c {v : t.den} : aLoad TE T [(.cel t v, o)] k = (TE T = some t ∧ k (.ro t v) []) := rfl
theorem aLoad_r {v : t.den} : aLoad TE T [(.ro (.rf t) v, o)] k = (TE T = some t ∧ k (.ro t v) []) := rfl
theorem aLoad_i {e e' : TypeId} {ids : List Nat} {i : Int} : aLoad TE T [(.ptr j i [], some ⟨e, .id e' t, ids, m⟩)] k = (TE T = some (elT e' t) ∧ List.getD ids i.toNat (od 0) % 2 = 1 ∧ k (.own (List.getD ids i.toNat (od 0))) []) := rfl
theorem aLoad_p {e : TypeId} {xs : List t.den} {i : Int} {fs : List Nat} (h : t.row = true) : aLoad TE T [(.ptr j i fs, some ⟨e, t, xs, m⟩)] k = (TE T = some (t.pj fs (xs.getD i.toNat t.zv)).t ∧ k (.ro (t.pj fs (xs.getD i.toNat t.zv)).t (t.pj fs (xs.getD i.toNat t.zv)).x) []) := by
 cases t <;> first | (cases h; done) | (cases fs <;> exact propext ⟨fun h => And.right h, fun h => ⟨rfl, h⟩⟩)
theorem aIdxA_r {xs : List t.den} {kk2 : IntKind} {i : Int} {o2 : Option Ob} : aIdxA TE T [(.ro (.sl e t) xs, o), (.ro (.int kk2) i, o2)] k = (TE T = some (.sl e t) ∧ 0 ≤ i ∧ i < (List.length xs : Int) ∧ k (.cel t (List.getD xs i.toNat t.zv)) []) := rfl
theorem aIdxA_i {e' : TypeId} {ids : List Nat} {kk2 : IntKind} {i : Int} {o2 : Option Ob} : aIdxA TE T [(.own j, some ⟨e, .id e' t, ids, m⟩), (.ro (.int kk2) i, o2)] k = (TE T = some (.sl e (.sl e' t)) ∧ 0 ≤ i ∧ i < (List.length ids : Int) ∧ k (.ptr j i []) []) := rfl
theorem aIdxA_o {xs : List t.den} {kk2 : IntKind} {i : Int} {o2 : Option Ob} (h : t.row = true) : aIdxA TE T [(.own j, some ⟨e, t, xs, m⟩), (.ro (.int kk2) i, o2)] k = (TE T = some (.sl e t) ∧ 0 ≤ i ∧ i < (List.length xs : Int) ∧ k (.ptr j i []) []) := by cases t <;> first | rfl | cases h
theorem aIdxA_v {xs : List t.den} {kk2 : IntKind} {i : Int} {o2 : Option Ob} {l h : Nat} : aIdxA TE T [(.vw j l h, some ⟨e, t, xs, m⟩), (.ro (.int kk2) i, o2)] k = (TE T = some (.sl e t) ∧ 0 ≤ i ∧ i < ((h - l : Nat) : Int) ∧ k (.ptr j ((l : Int) + i) []) []) := rfl
theorem aLen_r {xs : List t.den} : aLen TE T [(.ro (.sl e t) xs, o)] k = (TE T = some (.sl e t) ∧ k (.ro (.int .i64) (List.length xs : Int)) []) := rfl
theorem aLen_i {e' : TypeId} {ids : List Nat} : aLen TE T [(.own j, some ⟨e, .id e' t, ids, m⟩)] k = (TE T = some (.sl e (.sl e' t)) ∧ k (.ro (.int .i64) (List.length ids : Int)) []) := rfl
theorem aLen_m {t' : Ty} {xs : List (t'.den × t.den)} : aLen TE T [(.own j, some ⟨e, .mp t' t, xs, m⟩)] k = (TE T = some (.mp t' t) ∧ k (.ro (.int .i64) (List.length xs : Int)) []) := rfl
theorem aLen_o {xs : List t.den} (h : t.row = true) : aLen TE T [(.own j, some ⟨e, t, xs, m⟩)] k = (TE T = some (.sl e t) ∧ k (.ro (.int .i64) (List.length xs : Int)) []) := by cases t <;> first | rfl | cases h
theorem aLen_v {xs : List t.den} {l h : Nat} : aLen TE T [(.vw j l h, some ⟨e, t, xs, m⟩)] k = (TE T = some (.sl e t) ∧ k (.ro (.int .i64) ((h - l : Nat) : Int)) []) := rfl
theorem aLen_s {s : ByteArray} : aLen TE T [(.ro .str s, o)] k = (TE T = some .str ∧ k (.ro (.int .i64) ((ByteArray.size s : Nat) : Int)) []) := rfl
theorem aSli_r {xs : List t.den} {lo hi : Bool} {al : List Arg} : aSli TE T lo hi ((.ro (.sl e t) xs, o) :: al) k = (TE T = some (.sl e t) ∧ roSl e t xs lo hi al k) := rfl
theorem aSli_f {xs : List t.den} {lo hi : Bool} {al : List Arg} : aSli TE T lo hi ((.own j, some ⟨e, t, xs, false⟩) :: al) k = (TE T = some (.sl e t) ∧ roSl e t xs lo hi al k) := rfl
theorem aSli_t {xs : List t.den} {lo hi : Bool} {al : List Arg} : aSli TE T lo hi ((.own j, some ⟨e, t, xs, true⟩) :: al) k = (TE T = some (.sl e t) ∧ vwSl j (List.length xs) 0 lo hi al k) := rfl
theorem aSli_v {xs : List t.den} {lo hi : Bool} {al : List Arg} {l h : Nat} : aSli TE T lo hi ((.vw j l h, some ⟨e, t, xs, m⟩) :: al) k = (TE T = some (.sl e t) ∧ vwSl j (h - l) l lo hi al k) := rfl
theorem aLook_0 {t' : Ty} {xs : List (t'.den × t.den)} {a : Arg} : aLook TE T false [(.own j, some ⟨e, .mp t' t, xs, m⟩), a] k = (TE T = some (.mp t' t) ∧ shd t' a fun y => k (.ro t ((mget t' y xs).getD t.zv)) []) := rfl
theorem aLook_1 {t' : Ty} {xs : List (t'.den × t.den)} {a : Arg} : aLook TE T true [(.own j, some ⟨e, .mp t' t, xs, m⟩), a] k = (TE T = some (.mp t' t) ∧ shd t' a fun y => k (.pair (.ro t ((mget t' y xs).getD t.zv)) (.pair (.ro .bool (mget t' y xs).isSome) .tnil)) []) := rfl
end
theorem stp_mkMap0 : stp P TE N dr key ⟨d, .makeMap T none, ty, pos, af, gd⟩ f K = (dOk N d ∧ aMap TE key T [] (kk f key d K)) := stp_ev rfl rfl rfl
theorem stp_mkMap1 : stp P TE N dr key ⟨d, .makeMap T (some x), ty, pos, af, gd⟩ f K = (dOk N d ∧ aMap TE key T [f.res x] (kk f key d K)) := stp_ev rfl rfl rfl
theorem stp_look {b : Bool} : stp P TE N dr key ⟨d, .lookup T x y b, ty, pos, af, gd⟩ f K = (dOk N d ∧ aLook TE T b [f.res x, f.res y] (kk f key d K)) := stp_ev rfl rfl rfl
theorem stp_fn {fn : Fn} {xs ys : Array Operand} : stp P TE N false key ⟨d, .makeFunc fn xs ys, ty, pos, af, gd⟩ f K = (dOk N d ∧ aFn fn xs.size ((xs ++ ys).toList.map (f.fzo (xs ++ ys).toList).res) (kk (f.fzo (xs ++ ys).toList) key d K)) := rfl
theorem stp_fnd {fn : Fn} {xs ys : Array Operand} : stp P TE N true key ⟨d, .makeFunc fn xs ys, ty, pos, af, gd⟩ f K = (dOk N d ∧ aFn fn xs.size ((xs ++ ys).toList.map f.res) (kk f key d K)) := rfl
theorem stp_ifc : stp P TE N false key ⟨d, .makeInterface T x, ty, pos, af, gd⟩ f K = (dOk N d ∧ aIfc TE T [(f.fzo [x]).res x] (kk (f.fzo [x]) key d K)) := rfl
theorem stp_ifcd : stp P TE N true key ⟨d, .makeInterface T x, ty, pos, af, gd⟩ f K = (dOk N d ∧ aIfc TE T [f.res x] (kk f key d K)) := rfl
def kkz (f : FS) (key : Nat) (d : Option Nat) (K : KF) : KK := fun p obs => K ((f.news key (obs.map Ob.froze)).put d p)
theorem kkz_0 {p : PV} : kkz f key d K p [] = K (f.put d p) := rfl
theorem kkz_1 {p : PV} {t : Ty} {xs : List t.den} {m : Bool} (h : t.row = true) : kkz f key d K p [⟨e, t, xs, m⟩] = K ((f.new key ⟨e, t, xs, false⟩).put d p) := by
 unfold kkz
 rw [List.map_cons, froze_row (o := ⟨e, t, xs, m⟩) h]
 rfl
theorem stp_bldSd {n : Nat} {ps : Array (Nat × Operand)} : stp P TE N true key ⟨d, .buildSlice T n ps, ty, pos, af, gd⟩ f K = (dOk N d ∧ aBldS TE key T n (ps.toList.map (·.1)) ((ps.toList.map (·.2)).map f.res) (kkz f key d K)) := rfl
theorem stp_box : stp P TE N false key ⟨d, .box e x, ty, pos, af, gd⟩ f K = (dOk N d ∧ aBox TE key e [(f.fzo [x]).res x] (kk (f.fzo [x]) key d K)) := rfl
theorem stp_boxd : stp P TE N true key ⟨d, .box e x, ty, pos, af, gd⟩ f K = (dOk N d ∧ aBox TE key e [f.res x] (kk f key d K)) := rfl
theorem ev_sl {lo hi : Option Operand} {al : List Arg} {k : KK} : ev TE key (.slice T x lo hi none) al k = aSli TE T lo.isSome hi.isSome al k := rfl
theorem ev_sl3 {lo : Option Operand} {hi mx : Operand} {al : List Arg} {k : KK} : ev TE key (.slice T x lo (some hi) (some mx)) al k = aSli3 TE T lo.isSome al k := rfl
theorem aConv_r {s d e : TypeId} {xs : List Int} {o : Option Ob} {k : KK} : aConv TE s d [(.ro (.sl e (.int .u8)) xs, o)] k = (TE s = some (.sl e (.int .u8)) ∧ TE d = some .str ∧ k (.ro .str (strN xs)) []) := rfl
theorem aConv_o {s d e : TypeId} {j : Nat} {xs : List Int} {m : Bool} {k : KK} : aConv TE s d [(.own j, some ⟨e, .int .u8, xs, m⟩)] k = (TE s = some (.sl e (.int .u8)) ∧ TE d = some .str ∧ k (.ro .str (strN xs)) []) := rfl
theorem aConv_v {s d e : TypeId} {j l h : Nat} {xs : List Int} {m : Bool} {k : KK} : aConv TE s d [(.vw j l h, some ⟨e, .int .u8, xs, m⟩)] k = (TE s = some (.sl e (.int .u8)) ∧ TE d = some .str ∧ k (.ro .str (strN ((List.take h xs).drop l))) []) := rfl
theorem dOk_n : dOk N none = True := rfl
theorem dOk_s {i : Nat} : dOk N (some i) = (i < N) := rfl
def ar (f : FS) (p : PV) : Arg := (p, p.key.bind f.o)
@[congr] theorem ar_congr {p p' : PV} (h : w_ p = p') : ar f p = ar f p' := by rw [w_1] at h; rw [h]
theorem res_op : f.res x = ar f (f.op x) := rfl
theorem op_t {t : Tmp} : f.op (.tmp t) = f.g t := rfl
theorem op_f {g : FuncId} : f.op (.func g) = .ro (.fn (.func g) .un .un) ((), ()) := rfl
theorem op_c {v : Value} : f.op (.const v) = cst v := rfl
theorem cst_i {k : IntKind} {n : Int} : cst (.int k n) = .ro (.int k) n := rfl
theorem cst_b {b : Bool} : cst (.bool b) = .ro .bool b := rfl
theorem cst_s {b : ByteArray} : cst (.string b) = .ro .str b := rfl
theorem cst_n : cst (.slice none 0 0) = .nil := rfl
theorem ar_ro {t : Ty} {x : t.den} : ar f (.ro t x) = (.ro t x, none) := rfl
theorem ar_nil : ar f .nil = (.nil, none) := rfl
theorem ar_own {k : Nat} : ar f (.own k) = (.own k, f.o k) := rfl
theorem ar_ptr {k : Nat} {i : Int} {fs : List Nat} : ar f (.ptr k i fs) = (.ptr k i fs, f.o k) := rfl
theorem ar_cel {t : Ty} {x : t.den} : ar f (.cel t x) = (.cel t x, none) := rfl
theorem ar_vw {k l h : Nat} : ar f (.vw k l h) = (.vw k l h, f.o k) := rfl
theorem ar_one {k : Nat} : ar f (.one e k) = (.one e k, f.o k) := rfl
theorem ar_pair {p q : PV} : ar f (.pair p q) = (.pair p q, none) := rfl
theorem g_mk {g : Nat → PV} {o : Nat → Option Ob} {h i : Nat} : (FS.mk g o h).g i = g i := rfl
theorem o_mk {g : Nat → PV} {o : Nat → Option Ob} {h i : Nat} : (FS.mk g o h).o i = o i := rfl
theorem h_mk {g : Nat → PV} {o : Nat → Option Ob} {h : Nat} : (FS.mk g o h).h = h := rfl
theorem put_mk {g : Nat → PV} {o : Nat → Option Ob} {h i : Nat} {p : PV} : (FS.mk g o h).put (some i) p = ⟨upd g i p, o, h⟩ := rfl
theorem put_no {g : Nat → PV} {o : Nat → Option Ob} {h : Nat} {p : PV} : (FS.mk g o h).put none p = ⟨g, o, h⟩ := rfl
theorem new_mk {g : Nat → PV} {o : Nat → Option Ob} {h i : Nat} {b : Ob} : (FS.mk g o h).new i b = ⟨g, upd o i (some b), h⟩ := rfl
theorem del_mk {g : Nat → PV} {o : Nat → Option Ob} {h i : Nat} : (FS.mk g o h).del i = ⟨g, upd o i none, h⟩ := rfl
theorem set_mk {g : Nat → PV} {o : Nat → Option Ob} {h i : Nat} {b : Ob} : (FS.mk g o h).set i b = ⟨g, upd o i (some b), h⟩ := rfl
theorem trim_mk {g : Nat → PV} {o : Nat → Option Ob} {h : Nat} : (FS.mk g o h).trim ps = ⟨lkp .bot (ps.map fun k => (k, g k)), o, h⟩ := rfl
def adO (g : Nat → PV) (o : Nat → Option Ob) (h k : Nat) (b : Option Ob) : FS := match b with
 | some b => ⟨g, upd (upd o k none) (od h) (some b), h + 1⟩
 | none => ⟨g, o, h⟩
@[congr] theorem adO_congr {g : Nat → PV} {o : Nat → Option Ob} {h k : Nat} {b b' : Option Ob} (hb : w_ b = b') : adO g o h k b = adO g o h k b' := by rw [w_1] at hb; rw [hb]
theorem adopt_mk {g : Nat → PV} {o : Nat → Option Ob} {h k : Nat} : (FS.mk g o h).adopt k = adO g o h k (o k) := by unfold FS.adopt adO; simp only; cases o k <;> rfl
theorem adO_s {g : Nat → PV} {o : Nat → Option Ob} {h k : Nat} {b : Ob} : adO g o h k (some b) = ⟨g, upd (upd o k none) (od h) (some b), h + 1⟩ := rfl
theorem news_0 : f.news key [] = f := rfl
theorem news_1 {b : Ob} {l : List Ob} : f.news key (b :: l) = (f.new key b).news (key + 2) l := rfl
theorem look_nil {α : Type} {d : α} {i : Nat} : lkp d [] i = d := rfl
theorem look_cons {α : Type} {d x : α} {i k : Nat} {l : List (Nat × α)} : lkp d ((k, x) :: l) i = if i = k then x else lkp d l i := rfl
@[congr] theorem fz1_congr {p p' : PV} (h : w_ p = p') (h2 : w_ f = f') : fz1 f p = fz1 f' p' := by rw [w_1] at h; rw [w_1] at h2; rw [h, h2]
theorem fzo_nil : f.fzo [] = f := rfl
theorem fzo_cons {l : List Operand} : f.fzo (x :: l) = (fz1 f (f.op x)).fzo l := rfl
theorem fz1_own {k : Nat} : fz1 f (.own k) = f.frz k := rfl
theorem fz1_ro {t : Ty} {x : t.den} : fz1 f (.ro t x) = f := rfl
theorem fz1_nil : fz1 f .nil = f := rfl
theorem fz1_cel {t : Ty} {x : t.den} : fz1 f (.cel t x) = f := rfl
theorem fz1_ptr {k : Nat} {i : Int} {fs : List Nat} : fz1 f (.ptr k i fs) = f.frz k := rfl
theorem fz1_vw {k l h : Nat} : fz1 f (.vw k l h) = f.frz k := rfl
theorem fz1_one {k : Nat} : fz1 f (.one e k) = f.frz k := rfl
theorem fz1_bot : fz1 f .bot = f := rfl
def frzO (g : Nat → PV) (o : Nat → Option Ob) (h k : Nat) (b : Option Ob) : FS := match b with
 | some b => ⟨g, upd o k (some b.froze), h⟩
 | none => ⟨g, o, h⟩
@[congr] theorem frzO_congr {g : Nat → PV} {o : Nat → Option Ob} {h k : Nat} {b b' : Option Ob} (hb : w_ b = b') : frzO g o h k b = frzO g o h k b' := by rw [w_1] at hb; rw [hb]
theorem frz_mk {g : Nat → PV} {o : Nat → Option Ob} {h k : Nat} : (FS.mk g o h).frz k = frzO g o h k (o k) := by
 unfold FS.frz frzO; simp only; cases o k <;> rfl
theorem frzO_s {g : Nat → PV} {o : Nat → Option Ob} {h k : Nat} {e : TypeId} {t : Ty} {xs : List t.den} {m : Bool} (hr : t.row = true) : frzO g o h k (some ⟨e, t, xs, m⟩) = ⟨g, upd o k (some ⟨e, t, xs, false⟩), h⟩ := by
 show (⟨g, upd o k (some (Ob.froze ⟨e, t, xs, m⟩)), h⟩ : FS) = _
 rw [froze_row (o := ⟨e, t, xs, m⟩) hr]
theorem frzO_n {g : Nat → PV} {o : Nat → Option Ob} {h k : Nat} : frzO g o h k none = ⟨g, o, h⟩ := rfl
theorem frzO_m {g : Nat → PV} {o : Nat → Option Ob} {h k : Nat} {e : TypeId} {t t' : Ty} {xs : List (t.den × t'.den)} {m : Bool} : frzO g o h k (some ⟨e, .mp t t', xs, m⟩) = ⟨g, upd o k (some ⟨e, .mp t t', xs, m⟩), h⟩ := rfl
theorem frzO_i {g : Nat → PV} {o : Nat → Option Ob} {h k : Nat} {e e' : TypeId} {t : Ty} {xs : List Nat} {m : Bool} : frzO g o h k (some ⟨e, .id e' t, xs, m⟩) = ⟨g, upd o k (some ⟨e, .id e' t, xs, m⟩), h⟩ := rfl
theorem fzs_heap {k : Nat} {h : List (Nat × HM)} : f.fzs ((k, .heap) :: h) = f.fzs h := rfl
theorem fzs_nil : f.fzs [] = f := rfl
def fzq (f : FS) (p : PV) : FS := match p with
 | .own j => f.frz j
 | .one _ j => f.frz j
 | _ => f
@[congr] theorem fzq_congr {p p' : PV} (h : w_ p = p') (h2 : w_ f = f') : fzq f p = fzq f' p' := by rw [w_1] at h h2; rw [h, h2]
theorem fzq_one {k : Nat} : fzq f (.one e k) = f.frz k := rfl
theorem fzq_own {k : Nat} : fzq f (.own k) = f.frz k := rfl
theorem fzq_ro {t : Ty} {x : t.den} : fzq f (.ro t x) = f := rfl
theorem fzq_nil : fzq f .nil = f := rfl
theorem fzq_cel {t : Ty} {x : t.den} : fzq f (.cel t x) = f := rfl
theorem fzq_ptr {k : Nat} {i : Int} {fs : List Nat} : fzq f (.ptr k i fs) = f := rfl
theorem fzq_vw {k l h : Nat} : fzq f (.vw k l h) = f := rfl
theorem fzq_bot : fzq f .bot = f := rfl
theorem fzq_tnil : fzq f .tnil = f := rfl
theorem fzs_keep {k : Nat} {h : List (Nat × HM)} : f.fzs ((k, .keep) :: h) = (fzq f (f.g k)).fzs h := rfl
theorem fzs_row {k : Nat} {t : Ty} {h : List (Nat × HM)} : f.fzs ((k, .row e t) :: h) = (fzq f (f.g k)).fzs h := rfl
theorem fzs_own {k : Nat} {t : Ty} {h : List (Nat × HM)} : f.fzs ((k, .own e t) :: h) = f.fzs h := rfl
theorem fzs_box {k : Nat} {h : List (Nat × HM)} : f.fzs ((k, .box) :: h) = f.fzs h := rfl
theorem fzs_ibx {k : Nat} {h : List (Nat × HM)} : f.fzs ((k, .ibx) :: h) = f.fzs h := rfl
theorem lp {b : Code} (h : List (Nat × HM)) (hX : ∀ X : FS → Prop, (∀ g, tw P TE N ps b (2 * N) g (loopK X N h Q) → X g) → X (f.canon N h)) : tw P TE N ps (.loop b) nx f Q := ⟨h, hX⟩
end
end Go.TT
end

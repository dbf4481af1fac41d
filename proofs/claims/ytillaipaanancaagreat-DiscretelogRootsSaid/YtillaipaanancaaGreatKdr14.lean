/- Machine side and arithmetic of the law, put together by a program of the session. No conditions. -/
import Derived.KernelRfl
import Derived.Laws.Entries
import Derived.Test.YtillaipaanancaaGreatKdr13
section
namespace Go.TT
open Go.RowKit
set_option linter.unusedVariables false
set_option linter.unusedSimpArgs false
theorem wr_64 {n : Int} : wr .i64 n = wrap64 n := by simp only [wr, IntKind.wrap, wrap64]; simp [IntKind.bits, IntKind.signed]; split <;> omega
theorem ip_ {c a b : Prop} [Decidable c] (x : a) (h : c := by assumption) : ite c a b := by rw [if_pos h]; exact x
theorem in_ {c a b : Prop} [Decidable c] (x : b) (h : ¬ c := by assumption) : ite c a b := by rw [if_neg h]; exact x
theorem nb_ {b : Bool} : ((!b) = true) = ¬ (b = true) := by cases b <;> simp
theorem nf_ {b : Bool} : (b = false) = ¬ (b = true) := by cases b <;> simp
theorem cp_ {b : Bool} {x y p : Prop} (k : x) (e : (b = true) = p := by (try simp only [decide_eq_true_eq, nb_, nf_, Bool.and_eq_true, Bool.or_eq_true, beq_iff_eq, bne_iff_ne, ne_eq]); rfl) (h : p := by first | assumption | exact trivial | omega) : cnd (.ro .bool b) x y := by
 show if b = true then x else y
 rw [if_pos (e ▸ h)]; exact k
theorem cq_ {b : Bool} {x y p : Prop} (k : y) (e : (b = true) = p := by (try simp only [decide_eq_true_eq, nb_, nf_, Bool.and_eq_true, Bool.or_eq_true, beq_iff_eq, bne_iff_ne, ne_eq]); rfl) (h : ¬ p := by first | assumption | exact not_false | exact not_not_intro (by assumption) | omega) : cnd (.ro .bool b) x y := by
 show if b = true then x else y
 rw [if_neg (e ▸ h)]; exact k
theorem an_ {a b : Prop} (x : b) (h : a := by first | assumption | exact trivial | omega | kernel_rfl | (simp <;> fail)) : a ∧ b := ⟨h, x⟩
section
variable {k : IntKind} {e : TypeId} {a b c : Ty} {f : Fn}
theorem row_int : (Ty.int k).row = true := id rfl
theorem row_bool : Ty.bool.row = true := id rfl
theorem row_str : Ty.str.row = true := id rfl
theorem row_un : Ty.un.row = true := id rfl
theorem row_sl : (Ty.sl e a).row = true := id rfl
theorem row_ar : (Ty.ar a).row = true := id rfl
theorem nid_ar : (Ty.ar a).nid = true := rfl
theorem flat_ar : (Ty.ar a).flat = a.flat := rfl
theorem okH_ar {h : Bool} : okH h (.ar a) = true := rfl
theorem row_pr : (Ty.pr a b).row = true := id rfl
theorem row_rf : (Ty.rf a).row = true := id rfl
theorem row_fn : (Ty.fn f a b).row = true := id rfl
theorem row_ifc : (Ty.ifc e a).row = true := id rfl
theorem nid_int : (Ty.int k).nid = true := rfl
theorem nid_bool : Ty.bool.nid = true := rfl
theorem nid_str : Ty.str.nid = true := rfl
theorem nid_sl : (Ty.sl e a).nid = true := rfl
theorem nid_pr : (Ty.pr a b).nid = true := rfl
theorem nid_mp : (Ty.mp a b).nid = true := rfl
theorem flat_sl : (Ty.sl e a).flat = false := rfl
theorem flat_rf : (Ty.rf a).flat = false := rfl
theorem flat_fn : (Ty.fn f a b).flat = false := rfl
theorem flat_ifc : (Ty.ifc e a).flat = false := rfl
theorem flat_mp : (Ty.mp a b).flat = false := rfl
theorem flat_int : (Ty.int k).flat = true := rfl
theorem flat_bool : Ty.bool.flat = true := rfl
theorem flat_str : Ty.str.flat = true := rfl
theorem flat_un : Ty.un.flat = true := rfl
theorem flat_pr : (Ty.pr a b).flat = (a.flat && b.flat) := rfl
theorem okH_int {h : Bool} : okH h (.int k) = true := rfl
theorem okH_bool {h : Bool} : okH h .bool = true := rfl
theorem okH_str {h : Bool} : okH h .str = true := rfl
theorem okH_sl {h : Bool} : okH h (.sl e a) = true := rfl
theorem okH_pr {h : Bool} : okH h (.pr a b) = true := rfl
theorem okH_mp {h : Bool} : okH h (.mp a b) = true := rfl
theorem okH_id {h : Bool} : okH h (.id e a) = h := rfl
theorem okH_rf {h : Bool} : okH h (.rf a) = true := rfl
variable {n : Nat} {l : List (Nat × HM)} {t : Ty}
theorem hH_nil : hasHeap [] = false := rfl
theorem hH_k : hasHeap ((n, .keep) :: l) = false := rfl
theorem hH_r : hasHeap ((n, .row e t) :: l) = false := rfl
theorem hH_o : hasHeap ((n, .own e t) :: l) = false := rfl
theorem hH_b : hasHeap ((n, .box) :: l) = false := rfl
theorem hH_i : hasHeap ((n, .ibx) :: l) = false := rfl
theorem hH_h : hasHeap ((n, .heap) :: l) = true := rfl
theorem key_own {j : Nat} : (PV.own j).key = some j := rfl
theorem key_ptr {j : Nat} {i : Int} {fs : List Nat} : (PV.ptr j i fs).key = some j := rfl
theorem key_vw {j l h : Nat} : (PV.vw j l h).key = some j := rfl
theorem key_one {j : Nat} : (PV.one e j).key = some j := rfl
theorem key_ro {x : t.den} : (PV.ro t x).key = none := rfl
theorem key_cel {x : t.den} : (PV.cel t x).key = none := rfl
theorem key_nil : PV.nil.key = none := rfl
theorem key_bot : PV.bot.key = none := rfl
theorem oddF_f {f : FS} {g : Nat → Option Ob} : oddF f false g = g := rfl
theorem oddF_t {f : FS} {g : Nat → Option Ob} : oddF f true g = fun k => if k % 2 = 1 then f.o k else g k := rfl
end
section
variable {o o2 : Option Ob} {K : KK} {k k' : IntKind} {a b : Int} {KT : TV → Prop} {t : Ty}
theorem aBin_i {op : BinOp} : aBin op [(.ro (.int k) a, o), (.ro (.int k') b, o2)] K = bin op k k' a b fun r => K (.ro r.t r.x) [] := rfl
theorem aBin_se {x y : ByteArray} : aBin .eql [(.ro .str x, o), (.ro .str y, o2)] K = K (.ro .bool (ByteArray.toList x == ByteArray.toList y)) [] := rfl
theorem aBin_sn {x y : ByteArray} : aBin .neq [(.ro .str x, o), (.ro .str y, o2)] K = K (.ro .bool (!(ByteArray.toList x == ByteArray.toList y))) [] := rfl
theorem bin_add : bin .add k k a b KT = KT ⟨.int k, wr k (a + b)⟩ := propext ⟨fun h => h.2, fun h => ⟨rfl, h⟩⟩
theorem bin_sub : bin .sub k k a b KT = KT ⟨.int k, wr k (a - b)⟩ := propext ⟨fun h => h.2, fun h => ⟨rfl, h⟩⟩
theorem bin_mul : bin .mul k k a b KT = KT ⟨.int k, wr k (a * b)⟩ := propext ⟨fun h => h.2, fun h => ⟨rfl, h⟩⟩
theorem bin_quo : bin .quo k k a b KT = (¬ b = 0 ∧ KT ⟨.int k, wr k (Int.tdiv a b)⟩) := propext ⟨fun h => h.2, fun h => ⟨rfl, h⟩⟩
theorem bin_rem : bin .rem k k a b KT = (¬ b = 0 ∧ KT ⟨.int k, Int.tmod a b⟩) := propext ⟨fun h => h.2, fun h => ⟨rfl, h⟩⟩
theorem bin_eql : bin .eql k k a b KT = KT ⟨.bool, decide (a = b)⟩ := propext ⟨fun h => h.2, fun h => ⟨rfl, h⟩⟩
theorem bin_neq : bin .neq k k a b KT = KT ⟨.bool, !decide (a = b)⟩ := propext ⟨fun h => h.2, fun h => ⟨rfl, h⟩⟩
theorem bin_lss : bin .lss k k a b KT = KT ⟨.bool, decide (a < b)⟩ := propext ⟨fun h => h.2, fun h => ⟨rfl, h⟩⟩
theorem bin_leq : bin .leq k k a b KT = KT ⟨.bool, decide (a ≤ b)⟩ := propext ⟨fun h => h.2, fun h => ⟨rfl, h⟩⟩
theorem bin_gtr : bin .gtr k k a b KT = KT ⟨.bool, decide (a > b)⟩ := propext ⟨fun h => h.2, fun h => ⟨rfl, h⟩⟩
theorem bin_geq : bin .geq k k a b KT = KT ⟨.bool, decide (a ≥ b)⟩ := propext ⟨fun h => h.2, fun h => ⟨rfl, h⟩⟩
theorem bin_and : bin .and k k a b KT = KT ⟨.int k, Go.bits .and k a b⟩ := propext ⟨fun h => h.2, fun h => ⟨rfl, h⟩⟩
theorem bin_or : bin .or k k a b KT = KT ⟨.int k, Go.bits .or k a b⟩ := propext ⟨fun h => h.2, fun h => ⟨rfl, h⟩⟩
theorem bin_xor : bin .xor k k a b KT = KT ⟨.int k, Go.bits .xor k a b⟩ := propext ⟨fun h => h.2, fun h => ⟨rfl, h⟩⟩
theorem bin_andNot : bin .andNot k k a b KT = KT ⟨.int k, Go.bits .andNot k a b⟩ := propext ⟨fun h => h.2, fun h => ⟨rfl, h⟩⟩
def shlT (k : IntKind) (a b : Int) : Int := wr k (a * 2 ^ (min b.toNat k.bits))
def shrT (k : IntKind) (a b : Int) : Int := Int.fdiv a (2 ^ (min b.toNat k.bits))
theorem bin_shl : bin .shl k k' a b KT = (0 ≤ b ∧ KT ⟨.int k, shlT k a b⟩) := rfl
theorem bin_shr : bin .shr k k' a b KT = (0 ≤ b ∧ KT ⟨.int k, shrT k a b⟩) := rfl
theorem aUn_i : aUn .neg [(.ro (.int k) a, o)] K = K (.ro (.int k) (wr k (0 - a))) [] := rfl
theorem aUn_b {x : Bool} : aUn .not [(.ro .bool x, o)] K = K (.ro .bool (!x)) [] := rfl
theorem aMax_i : aMax [(.ro (.int k) a, o), (.ro (.int k) b, o2)] K = K (.ro (.int k) (if b > a then b else a)) [] := propext ⟨fun h => h.2, fun h => ⟨rfl, h⟩⟩
theorem aMin_i : aMin [(.ro (.int k) a, o), (.ro (.int k) b, o2)] K = K (.ro (.int k) (if b < a then b else a)) [] := propext ⟨fun h => h.2, fun h => ⟨rfl, h⟩⟩
def mkS (key : Nat) (n c : Int) (K : KK) : Option Ty → Prop
 | some (.sl e t) => (n = c ∨ n = 0) ∧ 0 ≤ c ∧ c.toNat ≤ 281474976710656 / t.by ∧ K (.own key) [⟨e, t, List.replicate n.toNat t.zv, true⟩]
 | _ => False
@[congr] theorem mkS_congr {key : Nat} {x y : Option Ty} (h : w_ x = y) : mkS key a b K x = mkS key a b K y := by rw [w_1] at h; rw [h]
theorem mkS_s {key : Nat} {e : TypeId} : mkS key a b K (some (.sl e t)) = ((a = b ∨ a = 0) ∧ 0 ≤ b ∧ b.toNat ≤ 281474976710656 / t.by ∧ K (.own key) [⟨e, t, List.replicate a.toNat t.zv, true⟩]) := rfl
theorem aMake_i {TE : TypeId → Option Ty} {key : Nat} {T : TypeId} : aMake TE key T [(.ro (.int k) a, o), (.ro (.int k') b, o2)] K = mkS key a b K (TE T) := rfl
end
theorem sind {p : Nat → Prop} (h : ∀ k, (∀ j, j < k → p j) → p k) : ∀ k, p k := fun k => Nat.strongRecOn k h
theorem sinb {n : Nat} {p : Nat → Prop} (h : ∀ k, k ≤ n → (∀ j, j < k → p j) → p k) : ∀ k, k ≤ n → p k := by
 intro k; induction k using Nat.strongRecOn with
 | ind k ih => intro hk; exact h k hk fun j hj => ih j hj (by omega)
theorem bnf {α β : Type} {x : Option α} {f : α → Option β} {r : β} {P : Prop} (h : x.bind f = some r) (H : ∀ t, x = some t → f t = some r → P) : P := by
 obtain ⟨t, e, h⟩ := Option.bind_eq_some_iff.1 h; exact H t e h
section
variable {x y : Option Ty}
def tySl (k : TypeId → Ty → Prop) (x : Option Ty) : Prop := match x with
 | some (.sl e t) => k e t
 | _ => False
def tyMp (k : Ty → Ty → Prop) (x : Option Ty) : Prop := match x with
 | some (.mp a b) => k a b
 | _ => False
def tyPr (k : Ty → Ty → Prop) (x : Option Ty) : Prop := match x with
 | some (.pr a b) => k a b
 | _ => False
def tyIn (k : IntKind → Prop) (x : Option Ty) : Prop := match x with
 | some (.int j) => k j
 | _ => False
def tySm (k : Ty → Prop) (x : Option Ty) : Prop := match x with
 | some t => k t
 | none => False
@[congr] theorem tySl_congr {k : TypeId → Ty → Prop} (h : w_ x = y) : tySl k x = tySl k y := by rw [w_1] at h; rw [h]
@[congr] theorem tyMp_congr {k : Ty → Ty → Prop} (h : w_ x = y) : tyMp k x = tyMp k y := by rw [w_1] at h; rw [h]
@[congr] theorem tyPr_congr {k : Ty → Ty → Prop} (h : w_ x = y) : tyPr k x = tyPr k y := by rw [w_1] at h; rw [h]
@[congr] theorem tyIn_congr {k : IntKind → Prop} (h : w_ x = y) : tyIn k x = tyIn k y := by rw [w_1] at h; rw [h]
@[congr] theorem tySm_congr {k : Ty → Prop} (h : w_ x = y) : tySm k x = tySm k y := by rw [w_1] at h; rw [h]
theorem tySl_s {k : TypeId → Ty → Prop} {e : TypeId} {t : Ty} : tySl k (some (.sl e t)) = k e t := rfl
theorem tyMp_s {k : Ty → Ty → Prop} {a b : Ty} : tyMp k (some (.mp a b)) = k a b := rfl
theorem tyPr_s {k : Ty → Ty → Prop} {a b : Ty} : tyPr k (some (.pr a b)) = k a b := rfl
theorem tyIn_s {k : IntKind → Prop} {j : IntKind} : tyIn k (some (.int j)) = k j := rfl
theorem tySm_s {k : Ty → Prop} {t : Ty} : tySm k (some t) = k t := rfl
end
section
variable {TE : TypeId → Option Ty} {T e e' : TypeId} {o o2 o3 : Option Ob} {K : KK} {k k' k2 : IntKind} {a b c : Int} {t t' s : Ty} {v : t.den} {xs : List t.den} {j l h n : Nat} {m : Bool} {al : List Arg} {i : Int} {fs : List Nat} {key : Nat}
theorem aPick_b {c : Bool} {u w : Arg} : aPick [(.ro .bool c, o), u, w] K = K (if c = true then u.1 else w.1) [] := rfl
theorem aSli3_r {lo : Bool} : aSli3 TE T lo ((.ro (.sl e t) xs, o) :: al) K = (TE T = some (.sl e t) ∧ roSl3 e t xs lo al K) := rfl
theorem aSli3_o {lo : Bool} : aSli3 TE T lo ((.own j, some ⟨e, t, xs, m⟩) :: al) K = (m = false ∧ TE T = some (.sl e t) ∧ roSl3 e t xs lo al K) := rfl
theorem roSl_0 : roSl e t xs false false [] K = K (.ro (.sl e t) xs) [] := rfl
theorem roSl_l : roSl e t xs true false [(.ro (.int k) a, o)] K = (0 ≤ a ∧ a ≤ (xs.length : Int) ∧ K (.ro (.sl e t) (xs.drop a.toNat)) []) := rfl
theorem roSl_h : roSl e t xs false true [(.ro (.int k) a, o)] K = (0 ≤ a ∧ a ≤ (xs.length : Int) ∧ K (.ro (.sl e t) (xs.take a.toNat)) []) := rfl
theorem roSl_b : roSl e t xs true true [(.ro (.int k) a, o), (.ro (.int k') b, o2)] K = (0 ≤ a ∧ a ≤ b ∧ b ≤ (xs.length : Int) ∧ K (.ro (.sl e t) ((xs.take b.toNat).drop a.toNat)) []) := rfl
theorem roSl3_2 : roSl3 e t xs false [(.ro (.int k) a, o), (.ro (.int k') b, o2)] K = (0 ≤ a ∧ a ≤ b ∧ b ≤ (xs.length : Int) ∧ K (.ro (.sl e t) (xs.take a.toNat)) []) := propext ⟨fun h => h.2, fun h => ⟨rfl, h⟩⟩
theorem roSl3_3 : roSl3 e t xs true [(.ro (.int k) a, o), (.ro (.int k') b, o2), (.ro (.int k2) c, o3)] K = (0 ≤ a ∧ a ≤ b ∧ b ≤ c ∧ c ≤ (xs.length : Int) ∧ K (.ro (.sl e t) ((xs.take b.toNat).drop a.toNat)) []) := propext ⟨fun h => h.2, fun h => ⟨rfl, h⟩⟩
theorem vwSl_0 : vwSl j n l false false [] K = K (.vw j l (l + n)) [] := rfl
theorem vwSl_l : vwSl j n l true false [(.ro (.int k) a, o)] K = (0 ≤ a ∧ a ≤ (n : Int) ∧ K (.vw j (l + a.toNat) (l + n)) []) := rfl
theorem vwSl_h : vwSl j n l false true [(.ro (.int k) a, o)] K = (0 ≤ a ∧ a ≤ (n : Int) ∧ K (.vw j l (l + a.toNat)) []) := rfl
theorem vwSl_b : vwSl j n l true true [(.ro (.int k) a, o), (.ro (.int k') b, o2)] K = (0 ≤ a ∧ a ≤ b ∧ b ≤ (n : Int) ∧ K (.vw j (l + a.toNat) (l + b.toNat)) []) := rfl
theorem aFldA_c : aFldA TE T n [(.cel t v, o)] K = (TE T = some t ∧ (t.off [n]).isSome = true ∧ K (.cel (t.pj [n] v).t (t.pj [n] v).x) []) := rfl
theorem aFldA_r : aFldA TE T n [(.ro (.rf t) v, o)] K = (TE T = some t ∧ (t.off [n]).isSome = true ∧ K (.cel (t.pj [n] v).t (t.pj [n] v).x) []) := rfl
def offK (TE : TypeId → Option Ty) (T : TypeId) (n j : Nat) (i : Int) (fs : List Nat) (K : KK) (x : Option (Nat × Ty)) : Prop := match x with
 | some q => TE T = some q.2 ∧ (q.2.off [n]).isSome = true ∧ K (.ptr j i (fs ++ [n])) []
 | none => False
@[congr] theorem offK_congr {x y : Option (Nat × Ty)} (h : w_ x = y) : offK TE T n j i fs K x = offK TE T n j i fs K y := by rw [w_1] at h; rw [h]
theorem offK_s {p : Nat} : offK TE T n j i fs K (some (p, t)) = (TE T = some t ∧ (t.off [n]).isSome = true ∧ K (.ptr j i (fs ++ [n])) []) := rfl
theorem offK_m {p : Nat} {x : Option (Nat × Ty)} : offK TE T n j i fs K (x.map fun q => (p + q.1, q.2)) = offK TE T n j i fs K x := by cases x <;> rfl
@[congr] theorem arK_congr {k : Nat} {jj : Int} {x y : Option (Nat × Ty)} (h : w_ x = y) : arK TE T k i jj fs K x = arK TE T k i jj fs K y := by rw [w_1] at h; rw [h]
theorem aIdxA_p {kk2 : IntKind} {jj : Int} {o2 : Option Ob} : aIdxA TE T [(.ptr j i fs, some ⟨e, t, xs, m⟩), (.ro (.int kk2) jj, o2)] K = arK TE T j i jj fs K (t.off fs) := rfl
def arQ (TE : TypeId → Option Ty) (T : TypeId) (k : Nat) (i : Int) (fs : List Nat) (K : KK) (b : Ty) (n : Nat) : Prop := TE T = some (.ar b) ∧ (b.off [n]).isSome = true ∧ K (.ptr k i (fs ++ [0, n])) []
theorem arK_0 {k p : Nat} {b : Ty} : arK TE T k i 0 fs K (some (p, .ar b)) = arQ TE T k i fs K b 0 := propext ⟨fun h => ⟨h.1, h.2.2⟩, fun h => ⟨h.1, by decide, h.2⟩⟩
theorem arK_1 {k p : Nat} {b : Ty} : arK TE T k i 1 fs K (some (p, .ar b)) = arQ TE T k i fs K b 1 := propext ⟨fun h => ⟨h.1, h.2.2⟩, fun h => ⟨h.1, by decide, h.2⟩⟩
theorem arK_2 {k p : Nat} {b : Ty} : arK TE T k i 2 fs K (some (p, .ar b)) = arQ TE T k i fs K b 2 := propext ⟨fun h => ⟨h.1, h.2.2⟩, fun h => ⟨h.1, by decide, h.2⟩⟩
theorem arQ_ {k n : Nat} {b : Ty} : arQ TE T k i fs K b n = (TE T = some (.ar b) ∧ (b.off [n]).isSome = true ∧ K (.ptr k i (fs ++ [0, n])) []) := rfl
theorem aFldA_p : aFldA TE T n [(.ptr j i fs, some ⟨e, t, xs, m⟩)] K = offK TE T n j i fs K (t.off fs) := rfl
theorem aFld_r : aFld TE T n [(.ro t v, o)] K = (TE T = some t ∧ (t.off [n]).isSome = true ∧ K (.ro (t.pj [n] v).t (t.pj [n] v).x) []) := rfl
def btT (s : ByteArray) (i : Int) : Int := ((((ByteArray.data s).getD i.toNat 0).toNat : Nat) : Int)
theorem aIdx_s {s : ByteArray} : aIdx TE T [(.ro .str s, o), (.ro (.int k) a, o2)] K = (TE T = some .str ∧ 0 ≤ a ∧ a < ((ByteArray.size s : Nat) : Int) ∧ K (.ro (.int .u8) (btT s a)) []) := rfl
def tyAl (k1 : TypeId → Ty → Prop) (k2 : Ty → Ty → Prop) (x : Option Ty) : Prop := match x with
 | some (.sl e t) => k1 e t
 | some (.mp a b) => k2 a b
 | _ => False
@[congr] theorem tyAl_congr {k1 : TypeId → Ty → Prop} {k2 : Ty → Ty → Prop} {x y : Option Ty} (h : w_ x = y) : tyAl k1 k2 x = tyAl k1 k2 y := by rw [w_1] at h; rw [h]
theorem tyAl_s {k1 : TypeId → Ty → Prop} {k2 : Ty → Ty → Prop} : tyAl k1 k2 (some (.sl e t)) = k1 e t := rfl
theorem tyAl_m {k1 : TypeId → Ty → Prop} {k2 : Ty → Ty → Prop} : tyAl k1 k2 (some (.mp s t)) = k2 s t := rfl
theorem elT_i : elT e (.int k) = .sl e (.int k) := rfl
theorem elT_b : elT e .bool = .sl e .bool := rfl
theorem elT_t : elT e .str = .sl e .str := rfl
theorem elT_s : elT e (.sl e' t) = .sl e (.sl e' t) := rfl
theorem elT_a : elT e (.ar s) = .sl e (.ar s) := rfl
theorem elT_p : elT e (.pr s t) = .sl e (.pr s t) := rfl
theorem elT_m : elT e (.mp s t) = .mp s t := rfl
theorem elR_i : elR (.int k) = true := rfl
theorem elR_b : elR .bool = true := rfl
theorem elR_t : elR .str = true := rfl
theorem elR_s : elR (.sl e' t) = true := rfl
theorem elR_a : elR (.ar s) = (Ty.ar s).row := rfl
theorem elR_p : elR (.pr s t) = (Ty.pr s t).row := rfl
theorem elR_m : elR (.mp s t) = true := rfl
theorem fAlI_s {f : FS} {d : Option Nat} {K : KF} : fAlI TE key T f d K = tyAl (fun e t => K ((((f.new (key + 2) ⟨e, t, [], true⟩).adopt (key + 2)).new key ⟨T, .id e t, [od f.h], true⟩).put d (.ptr key 0 []))) (fun s t => K (((⟨f.g, f.o, f.h + 1⟩ : FS).new key ⟨T, .id 0 (.mp s t), [od f.h], true⟩).put d (.ptr key 0 []))) (TE T) := rfl
theorem aAlloc_0 : aAlloc TE key T [] K = tySm (fun t => (0 < t.sz ∧ t.row = true) ∧ K (.ptr key 0 []) [⟨T, t, [t.zv], true⟩]) (TE T) := rfl
theorem aBox_1 {u : Arg} : aBox TE key T [u] K = tySm (fun t => 0 < t.sz ∧ shd t u fun x => K (.ptr key 0 []) [⟨T, t, [x], true⟩]) (TE T) := rfl
theorem lst_0 {K : List t.den → Prop} : lst t [] K = K [] := rfl
theorem lst_c {K : List t.den → Prop} {u : Arg} : lst t (u :: al) K = shd t u fun x => lst t al fun xs => K (x :: xs) := rfl
def bldK (k1 : Nat → TypeId → Ty → Prop) (k0 : Prop) (x : Option (Nat × TypeId × Ty)) : Prop := match x with
 | some (j, e, t) => k1 j e t
 | none => k0
@[congr] theorem bldK_congr {k1 : Nat → TypeId → Ty → Prop} {k0 : Prop} {x y : Option (Nat × TypeId × Ty)} (h : w_ x = y) : bldK k1 k0 x = bldK k1 k0 y := by rw [w_1] at h; rw [h]
theorem bldK_s {k1 : Nat → TypeId → Ty → Prop} {k0 : Prop} : bldK k1 k0 (some (j, e, t)) = k1 j e t := rfl
theorem bldK_n {k1 : Nat → TypeId → Ty → Prop} {k0 : Prop} : bldK k1 k0 none = k0 := rfl
theorem aBldS_d {ix : List Nat} : aBldS TE key T n ix al K = bldK (fun j e' t' => tySl (fun e t2 => (ix = [0] ∧ n = 1 ∧ t'.row = true ∧ t2 = .sl e' t') ∧ K (.one e j) []) (TE T))
  (tySl (fun e t => ix = List.range n ∧ al.length = n ∧ n * t.sz ≤ 16777216 ∧ lst t al fun xs => K (.own key) [⟨e, t, xs, true⟩]) (TE T)) (one1 al) := by
 unfold aBldS bldK tySl
 rcases one1 al with _ | ⟨j, e', t'⟩ <;> simp only <;> (rcases TE T with _ | t) <;> (try rfl) <;> cases t <;> rfl
def bldQ (is : List Nat) (u : Arg) (al : List Arg) (i : Nat) (v : t.den) (K : t.den → Prop) (x : Option (Nat × Ty)) : Prop := match x with
 | some q => shd q.2 u fun y => t.st [i] v ⟨q.2, y⟩ fun x' => bld t is al x' K
 | none => False
@[congr] theorem bldQ_congr {is : List Nat} {u : Arg} {i : Nat} {K : t.den → Prop} {x y : Option (Nat × Ty)} (h : w_ x = y) : bldQ is u al i v K x = bldQ is u al i v K y := by rw [w_1] at h; rw [h]
theorem bldQ_s {is : List Nat} {u : Arg} {i p : Nat} {K : t.den → Prop} : bldQ is u al i v K (some (p, s)) = shd s u fun y => t.st [i] v ⟨s, y⟩ fun x' => bld t is al x' K := rfl
theorem bldQ_m {is : List Nat} {u : Arg} {i p : Nat} {K : t.den → Prop} {x : Option (Nat × Ty)} : bldQ is u al i v K (x.map fun q => (p + q.1, q.2)) = bldQ is u al i v K x := by cases x <;> rfl
theorem bld_0 {K : t.den → Prop} : bld t [] [] v K = K v := rfl
theorem bld_c {is : List Nat} {u : Arg} {i : Nat} {K : t.den → Prop} : bld t (i :: is) (u :: al) v K = bldQ is u al i v K (t.off [i]) := rfl
theorem aBld_d {ix : List Nat} : aBld TE T ix al K = tyPr (fun a b => bld (.pr a b) ix al (Ty.pr a b).zv fun x => K (.ro (.pr a b) x) []) (TE T) := by
 unfold aBld tyPr
 rcases TE T with _ | t <;> (try rfl) <;> cases t <;> rfl
def extK (K : KK) (x : Option PV) : Prop := match x with
 | some q => K q []
 | none => False
@[congr] theorem extK_congr {x y : Option PV} (h : w_ x = y) : extK K x = extK K y := by rw [w_1] at h; rw [h]
theorem extK_s {p : PV} : extK K (some p) = K p [] := rfl
theorem aExt_1 {p : PV} : aExt n [(p, o)] K = extK K (p.nth n) := rfl
theorem pn_0 {p q : PV} : (PV.pair p q).nth 0 = some p := rfl
theorem pn_s {p q : PV} : (PV.pair p q).nth (n + 1) = q.nth n := rfl
theorem aNilC_p {b : Ob} : aNilC [(.ptr j i fs, some b)] K = K (.ptr j i fs) [] := rfl
theorem aNilC_c : aNilC [(.cel t v, o)] K = K (.cel t v) [] := rfl
theorem aNilC_r : aNilC [(.ro (.rf t) v, o)] K = K (.ro (.rf t) v) [] := rfl
theorem aNilC_f {g : FuncId} {a c : Ty} {z : (Ty.fn (.func g) a c).den} : aNilC [(.ro (.fn (.func g) a c) z, o)] K = K (.ro (.fn (.func g) a c) z) [] := rfl
theorem aIfc_1 {u : Arg} : aIfc TE T [u] K = tySm (fun t => shd t u fun y => K (.ro (.ifc T t) y) []) (TE T) := rfl
theorem aMap_a : aMap TE key T [] K = tyMp (fun k1 t => K (.own key) [⟨0, .mp k1 t, [], true⟩]) (TE T) := rfl
theorem aMap_b : aMap TE key T [(.ro (.int k) a, o)] K = tyMp (fun k1 t => K (.own key) [⟨0, .mp k1 t, [], true⟩]) (TE T) := rfl
theorem aConv_k {S : TypeId} : aConv TE S T [(.ro (.int k) a, o)] K = (TE S = some (.int k) ∧ tyIn (fun k' => K (.ro (.int k') (wr k' a)) []) (TE T)) := rfl
theorem aLen_z : aLen TE T [(.nil, o)] K = tySl (fun _ _ => K (.ro (.int .i64) (0 : Int)) []) (TE T) := rfl
end
section
variable {TE : TypeId → Option Ty} {T e e' : TypeId} {o : Option Ob} {s t : Ty} {v : t.den} {xs : List t.den} {j l h : Nat} {m : Bool} {i : Int} {fs : List Nat}
section
variable {K : s.den → Prop}
theorem shd_ro : shd s (.ro t v, o) K = (TV.mk t v).ofT s K := rfl
theorem shd_nil {K : (Ty.sl e t).den → Prop} : shd (.sl e t) (.nil, o) K = K [] := rfl
theorem shd_own : shd s (.own j, some ⟨e, t, xs, m⟩) K = (m = false ∧ (TV.mk (.sl e t) xs).ofT s K) := rfl
theorem shd_vw : shd s (.vw j l h, some ⟨e, t, xs, m⟩) K = (m = false ∧ (TV.mk (.sl e t) ((xs.take h).drop l)).ofT s K) := rfl
theorem shd_one : shd s (.one e' j, some ⟨e, t, xs, m⟩) K = (m = false ∧ (TV.mk (.sl e' (.sl e t)) [xs]).ofT s K) := rfl
theorem shd_cel : shd s (.cel t v, o) K = (TV.mk (.rf t) v).ofT s K := rfl
theorem shd_ptr : shd s (.ptr j i fs, some ⟨e, t, xs, m⟩) K = (m = false ∧ (TV.mk (.rf (t.pj fs (xs.getD i.toNat t.zv)).t) (t.pj fs (xs.getD i.toNat t.zv)).x).ofT s K) := rfl
theorem rdc_ro : rdc s (.ro t v, o) K = (TV.mk t v).ofT s K := rfl
theorem rdc_nil {K : (Ty.sl e t).den → Prop} : rdc (.sl e t) (.nil, o) K = K [] := rfl
theorem rdc_own : rdc s (.own j, some ⟨e, t, xs, m⟩) K = (t.row = true ∧ (TV.mk (.sl e t) xs).ofT s K) := rfl
theorem rdc_vw : rdc s (.vw j l h, some ⟨e, t, xs, m⟩) K = (t.row = true ∧ (TV.mk (.sl e t) ((xs.take h).drop l)).ofT s K) := rfl
theorem rdc_one : rdc s (.one e' j, some ⟨e, t, xs, m⟩) K = (m = false ∧ (TV.mk (.sl e' (.sl e t)) [xs]).ofT s K) := rfl
end
variable {K : TV → Prop}
theorem tvA_ro : tvA (.ro t v, o) K = K ⟨t, v⟩ := rfl
theorem tvA_own : tvA (.own j, some ⟨e, t, xs, m⟩) K = (m = false ∧ K ⟨.sl e t, xs⟩) := rfl
theorem tvA_vw : tvA (.vw j l h, some ⟨e, t, xs, m⟩) K = (m = false ∧ K ⟨.sl e t, (xs.take h).drop l⟩) := rfl
theorem tvA_one : tvA (.one e' j, some ⟨e, t, xs, m⟩) K = (m = false ∧ K ⟨.sl e' (.sl e t), [xs]⟩) := rfl
theorem tvA_cel : tvA (.cel t v, o) K = K ⟨.rf t, v⟩ := rfl
theorem tvA_ptr : tvA (.ptr j i fs, some ⟨e, t, xs, m⟩) K = (m = false ∧ K ⟨.rf (t.pj fs (xs.getD i.toNat t.zv)).t, (t.pj fs (xs.getD i.toNat t.zv)).x⟩) := rfl
theorem tvs_0 {K : List TV → Prop} : tvs [] K = K [] := rfl
theorem tvs_c {K : List TV → Prop} {u : Arg} {al : List Arg} : tvs (u :: al) K = tvA u fun y => tvs al fun ys => K (y :: ys) := rfl
theorem rd1_nil : rd1 TE T (.nil, o) K = tySl (fun e t => K ⟨.sl e t, []⟩) (TE T) := rfl
theorem rd1_ro : rd1 TE T (.ro t v, o) K = K ⟨t, v⟩ := rfl
theorem rd1_cel : rd1 TE T (.cel t v, o) K = K ⟨.rf t, v⟩ := rfl
theorem rd1_own : rd1 TE T (.own j, some ⟨e, t, xs, m⟩) K = (t.row = true ∧ K ⟨.sl e t, xs⟩) := rfl
theorem rd1_vw : rd1 TE T (.vw j l h, some ⟨e, t, xs, m⟩) K = (t.row = true ∧ K ⟨.sl e t, (xs.take h).drop l⟩) := rfl
theorem rd1_one : rd1 TE T (.one e' j, some ⟨e, t, xs, m⟩) K = (t.row = true ∧ K ⟨.sl e' (.sl e t), [xs]⟩) := rfl
theorem rd1_ptr : rd1 TE T (.ptr j i fs, some ⟨e, t, xs, m⟩) K = (t.row = true ∧ K ⟨.rf (t.pj fs (xs.getD i.toNat t.zv)).t, (t.pj fs (xs.getD i.toNat t.zv)).x⟩) := rfl
variable {f : FS}
theorem rds_0 {K : List TV → Prop} : rds TE f [] [] K = K [] := rfl
theorem rds_c {K : List TV → Prop} {x : Operand} {xs : List Operand} {Ts : List TypeId} : rds TE f (x :: xs) (T :: Ts) K = rd1 TE T (f.res x) fun y => rds TE f xs Ts fun l => K (y :: l) := rfl
def noO (x : Option Ob) : Prop := match x with
 | some o => o.mu = false
 | _ => True
@[congr] theorem noO_congr {x y : Option Ob} (h : w_ x = y) : noO x = noO y := by rw [w_1] at h; rw [h]
theorem noO_s : noO (some ⟨e, t, xs, m⟩) = (m = false) := rfl
theorem noO_n : noO none = True := rfl
theorem noOwn_0 : noOwn f [] = True := rfl
theorem noOwn_c {x : Operand} {l : List Operand} : noOwn f (x :: l) = (noO (f.res x).2 ∧ noOwn f l) := rfl
theorem flatR_0 : flatR [] = true := rfl
theorem flatR_t {l : List RV} : flatR ((true, ⟨.sl e t, xs⟩) :: l) = ((t.flat && t.row) && flatR l) := rfl
theorem flatR_f {u : TV} {l : List RV} : flatR ((false, u) :: l) = (u.t.flat && flatR l) := rfl
theorem obsOf_0 : obsOf [] = [] := rfl
theorem obsOf_t {l : List RV} : obsOf ((true, ⟨.sl e t, xs⟩) :: l) = ⟨e, t, xs, true⟩ :: obsOf l := rfl
theorem obsOf_f {u : TV} {l : List RV} : obsOf ((false, u) :: l) = obsOf l := rfl
theorem pvsOf_0 {key : Nat} : pvsOf key [] = [] := rfl
theorem pvsOf_t {key : Nat} {l : List RV} : pvsOf key ((true, ⟨.sl e t, xs⟩) :: l) = .own key :: pvsOf (key + 2) l := rfl
theorem pvsOf_f {key : Nat} {u : TV} {l : List RV} : pvsOf key ((false, u) :: l) = .ro u.t u.x :: pvsOf key l := rfl
theorem tupOf_0 : tupOf [] = .tnil := rfl
theorem tupOf_c {p : PV} {l : List PV} : tupOf (p :: l) = .pair p (tupOf l) := rfl
theorem pvOf_0 : pvOf [] = .tnil := rfl
theorem pvOf_1 {p : PV} : pvOf [p] = p := rfl
theorem pvOf_2 {p q : PV} {l : List PV} : pvOf (p :: q :: l) = tupOf (p :: q :: l) := rfl
theorem retK_r {res : List RS} {rs : List RV} {n : Nat} : retK TE res rs .ret n f = outs TE f res rs [] := rfl
theorem retK_n {res : List RS} {rs : List RV} {n : Nat} : retK TE res rs .normal n f = outs TE f res rs [] := rfl
def usK (us : List Nat) (x : Option Nat) : Prop := match x with
 | some k => us.contains k = false
 | _ => True
@[congr] theorem usK_congr {us : List Nat} {x y : Option Nat} (h : w_ x = y) : usK us x = usK us y := by rw [w_1] at h; rw [h]
theorem usK_s {us : List Nat} : usK us (some j) = (us.contains j = false) := rfl
theorem usK_n {us : List Nat} : usK us none = True := rfl
def outQ (k1 : List Nat → Prop) (us : List Nat) (j : Nat) (e : TypeId) (t : Ty) (xs : List t.den) (x : Option Ob) : Prop := match x with
 | some o => o.mu = true ∧ us.contains j = false ∧ (TV.mk (.sl o.e o.t) o.xs).ofT (.sl e t) (fun y => y = xs) ∧ k1 (j :: us)
 | none => False
@[congr] theorem outQ_congr {k1 : List Nat → Prop} {us : List Nat} {x y : Option Ob} (h : w_ x = y) : outQ k1 us j e t xs x = outQ k1 us j e t xs y := by rw [w_1] at h; rw [h]
theorem outQ_s {k1 : List Nat → Prop} {us : List Nat} {ys : List s.den} : outQ k1 us j e t xs (some ⟨e', s, ys, m⟩) = (m = true ∧ us.contains j = false ∧ (TV.mk (.sl e' s) ys).ofT (.sl e t) (fun y => y = xs) ∧ k1 (j :: us)) := rfl
def outP (f : FS) (k1 : List Nat → Prop) (us : List Nat) (e : TypeId) (t : Ty) (xs : List t.den) (p : PV) : Prop := match p with
 | .nil => t.row = true ∧ xs = [] ∧ k1 us
 | .own j => outQ k1 us j e t xs (f.o j)
 | _ => False
@[congr] theorem outP_congr {k1 : List Nat → Prop} {us : List Nat} {p q : PV} (h : w_ p = q) : outP f k1 us e t xs p = outP f k1 us e t xs q := by rw [w_1] at h; rw [h]
theorem outP_n {k1 : List Nat → Prop} {us : List Nat} : outP f k1 us e t xs .nil = (t.row = true ∧ xs = [] ∧ k1 us) := rfl
theorem outP_o {k1 : List Nat → Prop} {us : List Nat} : outP f k1 us e t xs (.own j) = outQ k1 us j e t xs (f.o j) := rfl
theorem outs_0 {us : List Nat} : outs TE f [] [] us = True := by unfold outs; rfl
theorem outs_f {s : Nat} {u : TV} {ss : List RS} {rs : List RV} {us : List Nat} : outs TE f ((s, none) :: ss) ((false, u) :: rs) us = (rdc u.t (f.res (.tmp s)) (fun y => y = u.x) ∧ usK us (f.g s).key ∧ outs TE (f.fzo [.tmp s]) ss rs us) := by rw [outs]; rfl
theorem outs_c {s : Nat} {u : TV} {ss : List RS} {rs : List RV} {us : List Nat} : outs TE f ((s, some T) :: ss) ((false, u) :: rs) us = (aLoad TE T [f.res (.tmp s)] (fun p _ => p = .ro u.t u.x) ∧ outs TE f ss rs us) := by rw [outs]
theorem outs_o {s : Nat} {ss : List RS} {rs : List RV} {us : List Nat} : outs TE f ((s, none) :: ss) ((true, ⟨.sl e t, xs⟩) :: rs) us = (t.nid = true ∧ outP f (outs TE f ss rs) us e t xs (f.g s)) := by
 rw [outs]; unfold outP outQ; cases f.g s <;> rfl
end
section
variable {TE : TypeId → Option Ty} {T e e' : TypeId} {o : Option Ob} {k : IntKind} {a : Int} {s t : Ty} {v : t.den} {xs : List t.den} {j l h : Nat} {m : Bool} {i : Int} {fs : List Nat} {f : FS} {d : Option Nat} {K : KF} {key : Nat} {x : Arg} {oo : Oper}
theorem fSto_p : fSto TE T x f d K (.ptr j i fs, some ⟨e, t, xs, m⟩) = ((m = true ∧ t.row = true) ∧ tySm (fun ft => shd ft x fun y => t.st fs (xs.getD i.toNat t.zv) ⟨ft, y⟩ fun x' => K ((f.set j ⟨e, t, xs.set i.toNat x', true⟩).put d .bot)) (TE T)) := rfl
theorem fApp_n : fApp TE key T x f d K (.nil, o) = tySl (fun e t => rdc (.sl e t) x fun ys => List.length ys ≤ 140737488355328 / t.by ∧ K ((f.new key ⟨e, t, ys, true⟩).put d (.own key))) (TE T) := rfl
theorem fApp_o : fApp TE key T x f d K (.own j, some ⟨e, t, xs, m⟩) = (m = true ∧ TE T = some (.sl e t) ∧ rdc (.sl e t) x fun ys => xs.length + List.length ys ≤ 140737488355328 / t.by ∧ K (((f.del j).new key ⟨e, t, xs ++ ys, true⟩).put d (.own key))) := rfl
theorem fCopy_o : fCopy TE T x f d K (.own j, some ⟨e, t, xs, m⟩) = (m = true ∧ TE T = some (.sl e t) ∧ rdc (.sl e t) x fun ys =>
   K ((f.set j ⟨e, t, List.take xs.length ys ++ xs.drop (List.length ys), true⟩).put d (.ro (.int .i64) ((Nat.min (List.length ys) xs.length : Nat) : Int)))) := rfl
theorem fMUp_o {y : Arg} {ys : List (s.den × t.den)} : fMUp TE T y x f d K (.own j, some ⟨e, .mp s t, ys, m⟩) = (TE T = some (.mp s t) ∧ shd s y fun a => shd t x fun b => K ((f.set j ⟨e, .mp s t, mset s a b ys, true⟩).put d .bot)) := rfl
theorem fCut_i {b : Ob} : fCut TE key T f d K j b (.ro (.int k) a, o) = (TE T = some (.sl b.e b.t) ∧ 0 ≤ a ∧ a ≤ (b.xs.length : Int) ∧ K (((f.del j).new key ⟨b.e, b.t, b.xs.take a.toNat, true⟩).put d (.own key))) := rfl
theorem fSli3_o : fSli3 TE key oo f K (.own j, o) = fEv TE key oo (f.frz j) K := rfl
theorem fSli3_r : fSli3 TE key oo f K (.ro t v, o) = fEv TE key oo f K := rfl
theorem fSli3_n : fSli3 TE key oo f K (.nil, o) = fEv TE key oo f K := rfl
theorem fSli3_v : fSli3 TE key oo f K (.vw j l h, o) = fEv TE key oo f K := rfl
theorem fSli_00 : fSli TE key oo T none none f K (.own j, some ⟨e, t, xs, true⟩) = (TE T = some (.sl e t) ∧ K (f.put oo.dst (.own j))) := rfl
theorem fSli_0h {u : Operand} : fSli TE key oo T none (some u) f K (.own j, some ⟨e, t, xs, true⟩) = fCut TE key T f oo.dst K j ⟨e, t, xs, true⟩ (f.res u) := rfl
theorem fSli_l {u : Operand} {hi : Option Operand} : fSli TE key oo T (some u) hi f K (.own j, some ⟨e, t, xs, m⟩) = fEv TE key oo f K := by cases m <;> cases hi <;> rfl
theorem fSli_f {lo hi : Option Operand} : fSli TE key oo T lo hi f K (.own j, some ⟨e, t, xs, false⟩) = fEv TE key oo f K := rfl
theorem fSli_r {lo hi : Option Operand} : fSli TE key oo T lo hi f K (.ro t v, o) = fEv TE key oo f K := rfl
theorem fSli_n {lo hi : Option Operand} : fSli TE key oo T lo hi f K (.nil, o) = fEv TE key oo f K := rfl
theorem fSli_v {lo hi : Option Operand} : fSli TE key oo T lo hi f K (.vw j l h, o) = fEv TE key oo f K := rfl
theorem fStI_o {ids : List Nat} {q : Nat} {e2 : TypeId} {t' : Ty} {ys : List t'.den} : fStI e e' t ids q i key f d K (.own j, some ⟨e2, t', ys, m⟩) = ((e2 = e' ∧ t' = t ∧ j ≠ q) ∧ if j % 2 = 1 then K ((f.set q ⟨e, .id e' t, List.set ids i.toNat j, true⟩).put d .bot)
   else K (((f.adopt j).set q ⟨e, .id e' t, List.set ids i.toNat (od f.h), true⟩).put d .bot)) := rfl
theorem fStI_n {ids : List Nat} {q : Nat} : fStI e e' t ids q i key f d K (.nil, o) = (t.row = true ∧ K ((((f.new key ⟨e', t, [], true⟩).adopt key).set q ⟨e, .id e' t, List.set ids i.toNat (od f.h), true⟩).put d .bot)) := rfl
theorem fStI_r {ids : List Nat} {q : Nat} {e2 : TypeId} {t2 : Ty} {ys : List t2.den} : fStI e e' t ids q i key f d K (.ro (.sl e2 t2) ys, o) = ((e2 = e' ∧ t2 = t ∧ t.row = true) ∧ K ((((f.new key ⟨e2, t2, ys, false⟩).adopt key).set q ⟨e, .id e' t, List.set ids i.toNat (od f.h), true⟩).put d .bot)) := rfl
theorem fApI_1 {ids : List Nat} {q : Nat} {e2 e3 : TypeId} {t' : Ty} {ys : List t'.den} : fApI e e' t ids q key f d K (.one e2 j, some ⟨e3, t', ys, m⟩) = ((e2 = e ∧ e3 = e' ∧ t' = t ∧ j % 2 = 0 ∧ j ≠ q ∧ List.length ids + 1 ≤ 5864062014805) ∧ K ((((f.adopt j).del q).new key ⟨e, .id e' t, ids ++ [od f.h], true⟩).put d (.own key))) := rfl
end
section
variable {a b t : Ty} {k : IntKind} {e : TypeId} {n : Nat} {fs : List Nat} {y : TV} {g : Fn}
theorem off_n : t.off [] = some (0, t) := by cases t <;> rfl
theorem off_0 : (Ty.pr a b).off (0 :: fs) = a.off fs := rfl
theorem off_a : (Ty.ar b).off (0 :: n :: fs) = b.off (n :: fs) := rfl
theorem off_s : (Ty.pr a b).off ((n + 1) :: fs) = (b.off (n :: fs)).map fun q => (a.sz + q.1, q.2) := rfl
theorem pj_i {x : (Ty.int k).den} : (Ty.int k).pj [] x = ⟨.int k, x⟩ := rfl
theorem pj_b {x : Ty.bool.den} : Ty.bool.pj [] x = ⟨.bool, x⟩ := rfl
theorem pj_st {x : Ty.str.den} : Ty.str.pj [] x = ⟨.str, x⟩ := rfl
theorem pj_sl {x : (Ty.sl e a).den} : (Ty.sl e a).pj [] x = ⟨.sl e a, x⟩ := rfl
theorem pj_pr {x : (Ty.pr a b).den} : (Ty.pr a b).pj [] x = ⟨.pr a b, x⟩ := rfl
theorem pj_un {x : Ty.un.den} : Ty.un.pj [] x = ⟨.un, x⟩ := rfl
theorem pj_rf {x : (Ty.rf a).den} : (Ty.rf a).pj [] x = ⟨.rf a, x⟩ := rfl
theorem pj_fn {x : (Ty.fn g a b).den} : (Ty.fn g a b).pj [] x = ⟨.fn g a b, x⟩ := rfl
theorem pj_if {x : (Ty.ifc e a).den} : (Ty.ifc e a).pj [] x = ⟨.ifc e a, x⟩ := rfl
theorem gd_0 {α : Type} {x d : α} {l : List α} : List.getD (x :: l) (Int.toNat 0) d = x := rfl
theorem ls_0 {α : Type} {x y : α} {l : List α} : List.set (x :: l) (Int.toNat 0) y = y :: l := rfl
theorem pj_0 {x : (Ty.pr a b).den} : (Ty.pr a b).pj (0 :: fs) x = a.pj fs x.1 := rfl
theorem pj_a {x : (Ty.ar b).den} : (Ty.ar b).pj (0 :: n :: fs) x = b.pj (n :: fs) x := rfl
theorem pj_ar {x : (Ty.ar b).den} : (Ty.ar b).pj [] x = ⟨.ar b, x⟩ := rfl
theorem pj_s {x : (Ty.pr a b).den} : (Ty.pr a b).pj ((n + 1) :: fs) x = b.pj (n :: fs) x.2 := rfl
theorem st_n {x : t.den} {K : t.den → Prop} : t.st [] x y K = y.ofT t K := by cases t <;> rfl
theorem st_0 {x : (Ty.pr a b).den} {K : (Ty.pr a b).den → Prop} : (Ty.pr a b).st (0 :: fs) x y K = a.st fs x.1 y fun z => K (z, x.2) := rfl
theorem st_a {x : (Ty.ar b).den} {K : (Ty.ar b).den → Prop} : (Ty.ar b).st (0 :: n :: fs) x y K = b.st (n :: fs) x y K := rfl
theorem st_s {x : (Ty.pr a b).den} {K : (Ty.pr a b).den → Prop} : (Ty.pr a b).st ((n + 1) :: fs) x y K = b.st (n :: fs) x.2 y fun z => K (x.1, z) := rfl
theorem sz_int : (Ty.int k).sz = 1 := rfl
theorem sz_bool : Ty.bool.sz = 1 := rfl
theorem sz_str : Ty.str.sz = 1 := rfl
theorem sz_sl : (Ty.sl e a).sz = 1 := rfl
theorem sz_pr : (Ty.pr a b).sz = a.sz + b.sz := rfl
theorem sz_ar : (Ty.ar b).sz = b.sz := rfl
theorem sz_un : Ty.un.sz = 0 := rfl
theorem sz_rf : (Ty.rf a).sz = 1 := rfl
theorem sz_fn : (Ty.fn g a b).sz = 1 := rfl
theorem sz_ifc : (Ty.ifc e a).sz = 1 := rfl
theorem zv_int : (Ty.int k).zv = (0 : Int) := rfl
theorem zv_bool : Ty.bool.zv = false := rfl
theorem zv_str : Ty.str.zv = ByteArray.empty := rfl
theorem zv_sl : (Ty.sl e a).zv = [] := rfl
theorem zv_pr : (Ty.pr a b).zv = (a.zv, b.zv) := rfl
theorem zv_ar : (Ty.ar b).zv = b.zv := rfl
theorem zv_un : Ty.un.zv = () := rfl
theorem by_8 : (Ty.int .i64).by = 8 := rfl
theorem by_u8 : (Ty.int .u64).by = 8 := rfl
theorem by_4 : (Ty.int .i32).by = 4 := rfl
theorem by_u4 : (Ty.int .u32).by = 4 := rfl
theorem by_1 : (Ty.int .i8).by = 1 := rfl
theorem by_u1 : (Ty.int .u8).by = 1 := rfl
theorem by_bool : Ty.bool.by = 1 := rfl
theorem by_str : Ty.str.by = 16 := rfl
theorem by_sl : (Ty.sl e a).by = 24 := rfl
theorem by_pr : (Ty.pr a b).by = (a.by + 7) / 8 * 8 + b.by := rfl
theorem by_ar : (Ty.ar b).by = b.by := rfl
theorem by_un : Ty.un.by = 0 := rfl
theorem tv_pr {x : (Ty.pr a b).den} : (Ty.pr a b).tvs x = ⟨a, x.1⟩ :: b.tvs x.2 := rfl
theorem tv_un : Ty.un.tvs () = [] := rfl
theorem tup_0 : tup [] = ⟨.un, ()⟩ := rfl
theorem tup_c {l : List TV} : tup (y :: l) = ⟨.pr y.t (tup l).t, (y.x, (tup l).x)⟩ := rfl
end
section
variable {f : FS} {e : TypeId} {t : Ty} {v : t.den} {xs : List t.den} {m : Bool} {j k N l h : Nat} {hp : Bool} {g : List (Nat × PV)} {o : List (Nat × Option Ob)} {od : List Nat} {i : Int} {fs : List Nat}
def roQ (x : Option Ob) : PV := match x with
 | some o => if o.mu = false then .ro (.sl o.e o.t) o.xs else .bot
 | none => .bot
@[congr] theorem roQ_congr {x y : Option Ob} (h : w_ x = y) : roQ x = roQ y := by rw [w_1] at h; rw [h]
theorem roQ_s : roQ (some ⟨e, t, xs, m⟩) = if m = false then .ro (.sl e t) xs else .bot := rfl
theorem roQ_n : roQ none = .bot := rfl
@[congr] theorem roOf_congr {p q : PV} (h : w_ p = q) : roOf f p = roOf f q := by rw [w_1] at h; rw [h]
def roQ1 (e : TypeId) (x : Option Ob) : PV := match x with
 | some o => if o.mu = false then .ro (.sl e (.sl o.e o.t)) [o.xs] else .bot
 | none => .bot
@[congr] theorem roQ1_congr {x y : Option Ob} (h : w_ x = y) : roQ1 e x = roQ1 e y := by rw [w_1] at h; rw [h]
theorem roQ1_s {e' : TypeId} : roQ1 e' (some ⟨e, t, xs, m⟩) = if m = false then .ro (.sl e' (.sl e t)) [xs] else .bot := rfl
theorem roOf_1 : roOf f (.one e j) = roQ1 e (f.o j) := rfl
theorem roOf_o : roOf f (.own j) = roQ (f.o j) := rfl
theorem roOf_r : roOf f (.ro t v) = .ro t v := rfl
theorem roOf_c : roOf f (.cel t v) = .cel t v := rfl
theorem roOf_n : roOf f .nil = .nil := rfl
theorem roOf_b : roOf f .bot = .bot := rfl
theorem roOf_t : roOf f .tnil = .tnil := rfl
theorem roOf_p : roOf f (.ptr j i fs) = .bot := rfl
theorem roOf_v : roOf f (.vw j l h) = .bot := rfl
theorem rowOf_n : rowOf e t .nil = .ro (.sl e t) [] := rfl
theorem rowOf_r {s : Ty} {v : s.den} : rowOf e t (.ro s v) = .ro s v := rfl
theorem rowOf_b : rowOf e t .bot = .bot := rfl
theorem cn1_keep : cn1 f hp N k .keep (g, o, od) = ((k, roOf f (f.g k)) :: g, o, od) := rfl
theorem cn1_row : cn1 f hp N k (.row e t) (g, o, od) = ((k, rowOf e t (roOf f (f.g k))) :: g, o, od) := rfl
def cnQ (p : PV) (k j : Nat) (hp : Bool) (c : CA) (x : Option Ob) : CA := match x with
 | some b => if (b.mu = true ∧ okH hp b.t = true) ∧ j % 2 = 0 ∧ c.2.2.contains j = false then ((k, p) :: c.1, (2 * k, some b) :: c.2.1, j :: c.2.2) else c
 | none => c
@[congr] theorem cnQ_congr {p : PV} {c : CA} {x y : Option Ob} (h : w_ x = y) : cnQ p k j hp c x = cnQ p k j hp c y := by rw [w_1] at h; rw [h]
theorem cnQ_s {p : PV} : cnQ p k j hp (g, o, od) (some ⟨e, t, xs, m⟩) = if (m = true ∧ okH hp t = true) ∧ j % 2 = 0 ∧ od.contains j = false then ((k, p) :: g, (2 * k, some ⟨e, t, xs, m⟩) :: o, j :: od) else (g, o, od) := rfl
def cnO (f : FS) (e : TypeId) (t : Ty) (k : Nat) (hp : Bool) (c : CA) (p : PV) : CA := match p with
 | .nil => if t.row = true then ((k, .own (2 * k)) :: c.1, (2 * k, some ⟨e, t, [], true⟩) :: c.2.1, c.2.2) else c
 | .own j => cnQ (.own (2 * k)) k j hp c (f.o j)
 | _ => c
@[congr] theorem cnO_congr {c : CA} {p q : PV} (h : w_ p = q) : cnO f e t k hp c p = cnO f e t k hp c q := by rw [w_1] at h; rw [h]
theorem cnO_n : cnO f e t k hp (g, o, od) .nil = if t.row = true then ((k, .own (2 * k)) :: g, (2 * k, some ⟨e, t, [], true⟩) :: o, od) else (g, o, od) := rfl
theorem cnO_o : cnO f e t k hp (g, o, od) (.own j) = cnQ (.own (2 * k)) k j hp (g, o, od) (f.o j) := rfl
theorem cnO_b : cnO f e t k hp (g, o, od) .bot = (g, o, od) := rfl
theorem cn1_own : cn1 f hp N k (.own e t) (g, o, od) = if k < N ∧ (lkp none o (2 * k)).isNone = true then cnO f e t k hp (g, o, od) (f.g k) else (g, o, od) := by
 unfold cn1 cnO cnQ; simp only; split
 ·cases f.g k <;> rfl
 ·rfl
def cnB (f : FS) (k : Nat) (hp : Bool) (c : CA) (p : PV) : CA := match p with
 | .ptr j i fs => cnQ (.ptr (2 * k) i fs) k j hp c (f.o j)
 | _ => c
@[congr] theorem cnB_congr {c : CA} {p q : PV} (h : w_ p = q) : cnB f k hp c p = cnB f k hp c q := by rw [w_1] at h; rw [h]
theorem cnB_p : cnB f k hp (g, o, od) (.ptr j i fs) = cnQ (.ptr (2 * k) i fs) k j hp (g, o, od) (f.o j) := rfl
theorem cnB_b : cnB f k hp (g, o, od) .bot = (g, o, od) := rfl
theorem cn1_box : cn1 f hp N k .box (g, o, od) = if k < N ∧ (lkp none o (2 * k)).isNone = true then cnB f k hp (g, o, od) (f.g k) else (g, o, od) := by
 unfold cn1 cnB cnQ; simp only; split
 ·cases f.g k <;> rfl
 ·rfl
theorem cn1_heap {c : CA} : cn1 f hp N k .heap c = c := rfl
@[congr] theorem ibxOf_congr {x y : Option Ob} (h : w_ x = y) : ibxOf x = ibxOf y := by rw [w_1] at h; rw [h]
def ibq (e e' : TypeId) (t : Ty) : List Nat → Option (TypeId × TypeId × Ty × Nat)
 | [q] => some (e, e', t, q)
 | _ => none
theorem ibxOf_s {e' : TypeId} {x : List Nat} : ibxOf (some ⟨e, .id e' t, x, true⟩) = ibq e e' t x := by unfold ibxOf; cases x with
 | nil => rfl
 | cons a l => cases l <;> rfl
theorem ibq_1 {e' : TypeId} {q : Nat} : ibq e e' t [q] = some (e, e', t, q) := rfl
theorem odn_0 : odn [] = 0 := rfl
theorem odn_c {q : Nat} {b : Option Ob} {l : List (Nat × Option Ob)} : odn ((q, b) :: l) = if q % 2 = 1 then odn l + 1 else odn l := rfl
theorem od_e {q : Nat} : TT.od q = 2 * q + 1 := rfl
def cnJ (e e' : TypeId) (t' : Ty) (x : Nat) (p : PV) (k j : Nat) (c : CA) (y : Option Ob) : CA := match y with
 | some b => if (b.mu = true ∧ okH false b.t = true) ∧ j % 2 = 0 ∧ x % 2 = 1 ∧ c.2.2.contains j = false ∧ c.2.2.contains x = false then ((k, p) :: c.1, (2 * k, some ⟨e, .id e' t', [TT.od (odn c.2.1)], true⟩) :: (TT.od (odn c.2.1), some b) :: c.2.1, j :: x :: c.2.2) else c
 | none => c
@[congr] theorem cnJ_congr {e' : TypeId} {t' : Ty} {q : Nat} {p : PV} {c : CA} {x y : Option Ob} (h : w_ x = y) : cnJ e e' t' q p k j c x = cnJ e e' t' q p k j c y := by rw [w_1] at h; rw [h]
theorem cnJ_s {e' e2 : TypeId} {t' : Ty} {q : Nat} {p : PV} : cnJ e e' t' q p k j (g, o, od) (some ⟨e2, t, xs, m⟩) = if (m = true ∧ okH false t = true) ∧ j % 2 = 0 ∧ q % 2 = 1 ∧ od.contains j = false ∧ od.contains q = false then ((k, p) :: g, (2 * k, some ⟨e, .id e' t', [TT.od (odn o)], true⟩) :: (TT.od (odn o), some ⟨e2, t, xs, m⟩) :: o, j :: q :: od) else (g, o, od) := rfl
def cnI (f : FS) (p : PV) (k j : Nat) (c : CA) (y : Option (TypeId × TypeId × Ty × Nat)) : CA := match y with
 | some (e, e', t', x) => cnJ e e' t' x p k j c (f.o x)
 | none => c
@[congr] theorem cnI_congr {p : PV} {c : CA} {x y : Option (TypeId × TypeId × Ty × Nat)} (h : w_ x = y) : cnI f p k j c x = cnI f p k j c y := by rw [w_1] at h; rw [h]
theorem cnI_s {p : PV} {c : CA} {e' : TypeId} {q : Nat} : cnI f p k j c (some (e, e', t, q)) = cnJ e e' t q p k j c (f.o q) := rfl
def cnK (f : FS) (k : Nat) (c : CA) (p : PV) : CA := match p with
 | .ptr j i fs => cnI f (.ptr (2 * k) i fs) k j c (ibxOf (f.o j))
 | _ => c
@[congr] theorem cnK_congr {c : CA} {p q : PV} (h : w_ p = q) : cnK f k c p = cnK f k c q := by rw [w_1] at h; rw [h]
theorem cnK_p {c : CA} : cnK f k c (.ptr j i fs) = cnI f (.ptr (2 * k) i fs) k j c (ibxOf (f.o j)) := rfl
theorem cnK_b {c : CA} : cnK f k c .bot = c := rfl
theorem cn1_ibx : cn1 f hp N k .ibx (g, o, od) = if hp = false ∧ k < N ∧ (lkp none o (2 * k)).isNone = true then cnK f k (g, o, od) (f.g k) else (g, o, od) := by
 unfold cn1 cnK; simp only; split
 ·cases f.g k <;> rfl
 ·rfl
theorem cnl_0 {c : CA} : cnl f hp N [] c = c := rfl
theorem cnl_c {c : CA} {u : HM} {l : List (Nat × HM)} : cnl f hp N ((k, u) :: l) c = cnl f hp N l (cn1 f hp N k u c) := rfl
end
def sel {α : Sort _} (b : Bool) (x y : α) : α := match b with
 | true => x
 | false => y
@[congr] theorem sel_congr {α : Sort _} {b c : Bool} {x y : α} (h : w_ b = c) : sel b x y = sel c x y := by rw [w_1] at h; rw [h]
theorem sel_t {α : Sort _} {x y : α} : sel true x y = x := rfl
theorem sel_f {α : Sort _} {x y : α} : sel false x y = y := rfl
theorem upd_s {α : Type} {g : Nat → α} {i j : Nat} {x : α} : upd g i x j = sel (j == i) x (g j) := by
 unfold upd; by_cases h : j = i
 ·subst h; rw [if_pos rfl, beq_self_eq_true]; rfl
 ·rw [if_neg h, beq_false_of_ne h]; rfl
theorem look_s {α : Type} {d x : α} {i k : Nat} {l : List (Nat × α)} : lkp d ((k, x) :: l) i = sel (i == k) x (lkp d l i) := by
 rw [look_cons]; by_cases h : i = k
 ·subst h; rw [if_pos rfl, beq_self_eq_true]; rfl
 ·rw [if_neg h, beq_false_of_ne h]; rfl
theorem ar_tnil {f : FS} : ar f .tnil = (.tnil, none) := rfl
theorem ar_bot {f : FS} : ar f .bot = (.bot, none) := rfl
theorem fz1_tnil {f : FS} : fz1 f .tnil = f := rfl
theorem cnO_t {f : FS} {e : TypeId} {t : Ty} {k : Nat} {hp : Bool} {c : CA} : cnO f e t k hp c .tnil = c := rfl
theorem cnB_t {f : FS} {k : Nat} {hp : Bool} {c : CA} : cnB f k hp c .tnil = c := rfl
end Go.TT
end
section
namespace Go.TT
open Go.RowKit
set_option linter.unusedVariables false
theorem Fl_ints {w : World} {S : Nat → Prop} {k : IntKind} : ∀ xs : List Int, Fl (Cs w S (.int k)) xs (xs.map (Value.int k))
 | [] => rfl
 | x :: xs => ⟨[.int k x], _, rfl, rfl, Fl_ints xs⟩
theorem reads_Vs {w : World} {k : IntKind} {e : TypeId} {A : Option Addr} {c : Nat} {xs : List Int} (h : 0 < xs.length → ∃ ad, A = some ad ∧ ∀ j, j < xs.length → w.cell? (ad.add j) = some (.int k (xs.getD j 0))) (hc : xs.length ≤ c) :
  Vs w (fun b => b < w.heap.size) (.sl e (.int k)) xs (.slice A xs.length c) := by
 refine Vs_sl.2 ⟨A, c, xs.map (Value.int k), rfl, hc, Fl_ints xs, ?_⟩
 rcases xs with _ | ⟨x, xs⟩
 ·exact .inl rfl
 ·obtain ⟨ad, e1, h1⟩ := h (by simp)
  have h0 := h1 0 (by simp)
  refine .inr ⟨ad, e1, ?_, fun j u hj => ?_⟩
  ·have := World.block_lt_of_cell? w _ h0
   exact this
  ·rw [List.getElem?_map] at hj
   obtain ⟨y, hy, rfl⟩ := Option.map_eq_some_iff.1 hj
   have hlt := (List.getElem?_eq_some_iff.1 hy).1
   rw [h1 j hlt, List.getD_eq_getElem?_getD, hy]; rfl
theorem Con.law {P : Program} {fn : FuncId} {al : List TV} {r : Bool} {w : World} {vals : List Value} (h : Con P fn al [(false, ⟨.bool, r⟩)]) (ha : Args w (fun b => b < w.heap.size) al vals) :
  Calls P fn vals.toArray w fun e w' => e = .returned (.bool r) ∧ Below w.heap.size w w' := by
 refine (h.2 w _ vals (fun _ h => h) ha).mono ?_
 rintro e w' ⟨vs, rfl, hb, S', h1, h2, hr⟩
 rcases vs with _ | ⟨v, vs⟩
 ·exact hr.elim
 ·obtain ⟨hv, hr⟩ := hr
  rcases vs with _ | ⟨_, _⟩
  ·have : v = .bool r := Vs_bool.1 hv
   subst this
   exact ⟨rfl, hb⟩
  ·exact hr.elim
theorem args_0 {w : World} {S : Nat → Prop} : Args w S [] [] := trivial
theorem args_c {w : World} {S : Nat → Prop} {tv : TV} {l : List TV} {v : Value} {vs : List Value} (h : Vs w S tv.t tv.x v) (h2 : Args w S l vs) : Args w S (tv :: l) (v :: vs) := ⟨h, h2⟩
section
variable {P : Program} {TE : TypeId → Option Ty} {N : Nat} {ps : List Nat} {nx : Nat} {f : FS} {Q : KE} {A B : Nat → FS → KE → Prop} {qs : List Nat} {h : List (Nat × HM)} {el : Nat → List TV} {D : Nat → Prop} {i m q : Nat} {g : FS} {X : FS → Prop}
@[congr] theorem rfV_congr {p p' : PV} {K : FuncId → List TV → Prop} (h : w_ p = p') : rfV p K = rfV p' K := by rw [w_1] at h; rw [h]
theorem rfV_f {K : FuncId → List TV → Prop} {g : FuncId} {a c : Ty} {z : (Ty.fn (.func g) a c).den} : rfV (.ro (.fn (.func g) a c) z) K = (a.tvs z.1 = [] ∧ K g (c.tvs z.2)) := rfl
theorem rfr_0 : rfr A B qs N h Q el D 0 i g = Q .normal (2 * N) g := rfl
theorem rfr_c : rfr A B qs N h Q el D (m + 1) i g = (D i ∧ A (2 * N) (puts g qs (el i)) (asgK B (rndK (rfr A B qs N h Q el D m (i + 1)) N h Q))) := rfl
theorem puts_0 {l : List TV} : puts f [] l = f := by cases l <;> rfl
theorem puts_c {y : TV} {l : List TV} : puts f (q :: qs) (y :: l) = puts (f.put (some q) (.ro y.t y.x)) qs l := rfl
theorem asgK_n : asgK B Q .normal nx f = B nx f Q := rfl
theorem rndK_n : rndK X N h Q .normal nx f = X (f.canon N h) := rfl
theorem rndK_r : rndK X N h Q .ret nx f = Q .ret (2 * N) (f.canon N h) := rfl
theorem rndK_e : rndK X N h Q (.exit i) nx f = Q (.exit i) (2 * N) (f.canon N h) := rfl
end
theorem lap_c {α : Type} {x : α} {l m : List α} : List.append (x :: l) m = x :: List.append l m := rfl
theorem lap_0 {α : Type} {m : List α} : List.append [] m = m := rfl
theorem ifc {c : Prop} [Decidable c] {α : Type} {a b x : α} {G : Prop} (h : (if c then a else b) = x) (t : c → a = x → G) (e : ¬ c → b = x → G) : G := by
 by_cases hc : c
 ·rw [if_pos hc] at h; exact t hc h
 ·rw [if_neg hc] at h; exact e hc h
end Go.TT
end
section
namespace Go.TT
open Go.RowKit
set_option linter.unusedVariables false
section
variable {N : Nat} {Q : KE} {A B : Nat → FS → KE → Prop} {qs : List Nat} {h : List (Nat × HM)} {el : Nat → List TV} {D : Nat → Prop} {M : Nat}
theorem rf_inds {σ : Type} (gs : σ → FS) (E : Nat → σ → Prop) {s0 : σ} (h0 : E 0 s0) (hstep : ∀ i s X, i < M → E i s → (∀ s', E (i + 1) s' → X (gs s')) → D i ∧ A (2 * N) (puts (gs s) qs (el i)) (asgK B (rndK X N h Q)))
  (hend : ∀ s, E M s → Q .normal (2 * N) (gs s)) : rfr A B qs N h Q el D M 0 (gs s0) := by
 have key : ∀ m i s, i + m = M → E i s → rfr A B qs N h Q el D m i (gs s) := by
  intro m
  induction m with
  | zero => intro i s e hi; rw [Nat.add_zero] at e; subst e; exact hend s hi
  | succ m ih => intro i s e hi; exact hstep i s _ (by omega) hi fun s' hs' => ih (i + 1) s' (by omega) hs'
 exact key M 0 s0 (Nat.zero_add _) h0
theorem rfG {P : Program} {TE : TypeId → Option Ty} {ps : List Nat} {nx : Nat} {f : FS} {v : Operand} {qs : Array Nat} {x y : Code} (h : List (Nat × HM)) (g : FS) (hg : f.canon N h = g) (hok : rfOk x y qs.toList N h = true)
  (hv : rfV (f.op v) fun gf al => ∃ M el D, Vis P gf al M el D ∧ (∀ i, (el i).length = qs.size) ∧ rfr (tw P TE N ps x) (tw P TE N ps y) qs.toList N h Q el D M 0 g) : tw P TE N ps (.rangeFunc v qs x y) nx f Q := ⟨h, hok, by rw [hg]; exact hv⟩
end
end Go.TT
end

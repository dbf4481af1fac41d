/- Machine side and arithmetic of the law, put together by a program of the session. No conditions. -/
import Derived.Test.YtalnaafmonmlmaaProg
import Derived.Below
import Derived.Deep.Draws
import Derived.Deep.AppendLies
import Derived.Maps.AppendAt
import Derived.OwnWalk
import Derived.Laws.BytesArg
import Derived.Laws.MakeOwn
import Derived.Laws.OwnMore
import Derived.Deep.OwnRows
import Derived.Tactics
import Derived.Lib.ConvBytes
import Derived.Laws.Slices
import Derived.WalkKit
import Derived.KernelRfl
import Derived.RowKit3
import Derived.Deep.LoopGhost
import Derived.Deep.QuietTactic
import Derived.BigQuiet
import Derived.WideLaws
import Derived.Deep.DeepCutAuto
import Derived.Deep.CutBlock
import Derived.Deep.RegionHeld3
import Derived.Laws.Rows
import Derived.Lib.AppendStr
import Derived.ArgAppend
import Derived.Laws.IdiomCopy
import Derived.OrdersHeld
import Derived.Laws.BitsLemmas
import Derived.RowKit
import Derived.Test.YtalnaafmonmlmaaKSums2
import Derived.Test.YtalnaafmonmlmaaKSums3
import Derived.Test.YtalnaafmonmlmaaKSums4
section
namespace Go.Proofs.Ytalnaafmonmlmaa.Q
open Go.RowKit Go.Proofs.YtalnaafmonmlmaaW.PrintWords Go.Proofs.YtalnaafmonmlmaaW.PrintLast Go.Proofs.YtalnaafmonmlmaaW.PrintMore
attribute [local go_sem] max2_int min2_int max_two min_two max_three min_three max_four min_four   -- for this text's walks alone
set_option linter.unusedVariables false
set_option linter.unusedSimpArgs false
def errW : Option Int → Value
  | none => .nilIface
  | some c => .iface 0 (.int .i64 c)
theorem errW_none : errW none = .nilIface := rfl
theorem errW_some (c : Int) : errW (some c) = .iface 0 (.int .i64 c) := rfl
theorem cut_cap {P : Program} (t e : TypeId) (kh : IntKind) {i : TypeInfo} (ht : P.underlying t = some (.slice e)) (hi : P.info? e = some i) (A : Option Addr) (n c : Nat) (j : Int) (h0 : 0 ≤ j) (hm : j ≤ n) (hc : n ≤ c) :
    ∀ W : World, (Instr.slice t (.slice A n c) none (some (.int kh j)) (some (.int kh j))).run P W = .ok (.slice A j.toNat j.toNat) W := by
  intro W
  have hel : P.elem t = e := by simp [Program.elem, ht]
  have hu : P.underlying t = some (.slice (P.elem t)) := by rw [hel]; exact ht
  have ha : (A.map fun x => x.add 0) = A := by cases A <;> simp [Addr.add]
  have e1 : (j.toNat : Int) = j := Int.toNat_of_nonneg h0
  have hb : (Instr.sliceBounds true n c none (some (.int kh j)) (some (.int kh j))).run P W = .ok (0, j.toNat, j.toNat) W := by
    simp [Instr.sliceBounds, run_sliceBound, h0, e1, show j ≤ (c : Int) by omega]
  rw [run_slice_any W t A n c hu, hb, hel]
  simp [sizeOf, typeInfo, hi, sliced, Result.andThen, ha]
theorem info3 : (Try.prog.info? 3).map (fun i => (i.zero, i.size, i.bytes)) = some (some (.int .i64 0), 1, 8) := by kernel_rfl
theorem info5 : (Try.prog.info? 5).map (fun i => (i.zero, i.size, i.bytes)) = some (some (.int .u8 0), 1, 1) := by kernel_rfl
theorem info107 : (Try.prog.info? 107).map (fun i => (i.zero, i.size, i.bytes)) = some (some (.agg #[(.int .i64 0), (.int .i64 0)]), 2, 16) := by kernel_rfl
def rd_L1 (xs : List (List Int)) (i : Int) : (List Int) := xs.getD i.toNat ([] : List Int)
theorem at_L1 {w : World} {A : Option Addr} {n : Nat} {xs : List (List Int)} (h : Kd.C (Kd.slice 3 (Kd.int .i64)) w A n xs) (i : Int) (h0 : 0 ≤ i) (h1 : i < n) : ∃ ad A0 c0, A = some ad ∧ w.cell? (ad.add i.toNat) = some (.slice A0 (rd_L1 xs i).length c0) ∧ (rd_L1 xs i).length ≤ c0 ∧ (Kd.int .i64).C w A0 (rd_L1 xs i).length (rd_L1 xs i) := by
  obtain ⟨ad, c, e, _, hK, hc0⟩ := Kd.C_get h ([] : List Int) i h0 h1
  have hc : ∀ j u, c[j]? = some u → w.cell? (ad.add (i.toNat * 1 + j)) = some u := hc0
  obtain ⟨A0, c0, rfl, l0, g0⟩ := hK
  exact ⟨ad, A0, c0, e, by have hq := hc 0 _ rfl; rwa [Nat.mul_one, Nat.add_zero] at hq, l0, g0⟩
structure S107 where
  f0 : Int
  f1 : Int
def z107 : S107 := ⟨(0 : Int), (0 : Int)⟩
def k107 : Kd S107 := Kd.iso (Kd.pair (Kd.int .i64) (Kd.int .i64)) (fun x : S107 => (x.f0, x.f1))
theorem k107_open {w : World} {x : S107} {cs : List Value} (h : k107.K w x cs) : cs = [.int .i64 x.f0, .int .i64 x.f1] := by
  obtain ⟨_, _, rfl, rfl, rfl⟩ := h
  exact rfl
theorem k107_mkM (w : World) (base : Nat) (ok : Nat → Prop) (x : S107)  : k107.M w base ok x [.int .i64 x.f0, .int .i64 x.f1] := ⟨[.int .i64 x.f0], [.int .i64 x.f1], rfl, rfl, rfl⟩
def rd_T107 (xs : List S107) (i : Int) : S107 := xs.getD i.toNat z107
theorem at_T107 {w : World} {A : Option Addr} {n : Nat} {xs : List S107} (h : Kd.C k107 w A n xs) (i : Int) (h0 : 0 ≤ i) (h1 : i < n) : ∃ ad , A = some ad ∧ w.cell? (ad.add (i.toNat * 2)) = some (.int .i64 (rd_T107 xs i).f0) ∧ w.cell? ⟨(ad.add (i.toNat * 2)).block, (ad.add (i.toNat * 2)).off + 1, none⟩ = some (.int .i64 (rd_T107 xs i).f1) := by
  obtain ⟨ad, c, e, _, hK, hc0⟩ := Kd.C_get h z107 i h0 h1
  have hc : ∀ j u, c[j]? = some u → w.cell? (ad.add (i.toNat * 2 + j)) = some u := hc0
  obtain rfl := k107_open hK
  exact ⟨ad, e, hc 0 _ rfl, by rw [← add_field _ _ 1 (by omega)]; exact hc 1 _ rfl⟩
end Go.Proofs.Ytalnaafmonmlmaa.Q
end
section
namespace Go.Proofs.YtalnaafmonmlmaaW.PrintWords
open Go.RowKit Go.Proofs.YtalnaafmonmlmaaW.PrintLast Go.Proofs.YtalnaafmonmlmaaW.PrintMore
set_option linter.unusedVariables false
class Rch (w W : World) : Prop where
  at_ : ∀ Q : World → Prop, (∀ x o, Q x → Q (x.alloc o)) → (∀ x n, Q x → Q (x.drewN n)) → (∀ x, Q x → Q x.drew) → Q w → Q W
instance Rch.refl (w : World) : Rch w w := ⟨fun _ _ _ _ h => h⟩
instance Rch.alloc (w W : World) (o : Obj) [h : Rch w W] : Rch w (W.alloc o) := ⟨fun Q a b c q => a _ _ (h.at_ Q a b c q)⟩
instance Rch.drewN (w W : World) (n : Nat) [h : Rch w W] : Rch w (W.drewN n) := ⟨fun Q a b c q => b _ _ (h.at_ Q a b c q)⟩
instance Rch.drew (w W : World) [h : Rch w W] : Rch w W.drew := ⟨fun Q a b c q => c _ (h.at_ Q a b c q)⟩
section
variable {α : Type} {d : Kd α} {e : Nat} {w W w2 : World} {base : Nat} {ok : Nat → Prop} {v : Value} {xs : List α} {A : Option Addr} {n : Nat} {g : Nat} {o : Obj} {w0 : World}
theorem zV (h : Kd.V d e w base ok v xs) [r : Rch w W] : Kd.V d e W base ok v xs := r.at_ (fun x => Kd.V d e x base ok v xs) (fun _ o q => Kd.V_alloc q o) (fun _ n q => Kd.V_drewN q n) (fun _ q => Kd.V_drew q) h
theorem zN (h : Kd.N d e w base ok v xs) [r : Rch w W] : Kd.N d e W base ok v xs := r.at_ (fun x => Kd.N d e x base ok v xs) (fun _ o q => Kd.N_alloc q o) (fun _ n q => Kd.N_drewN q n) (fun _ q => Kd.N_drew q) h
theorem zR (h : Kd.R d e w base ok v xs) [r : Rch w W] : Kd.R d e W base ok v xs := r.at_ (fun x => Kd.R d e x base ok v xs) (fun _ o q => Kd.R_alloc q o) (fun _ n q => Kd.R_drewN q n) (fun _ q => Kd.R_drew q) h
theorem zC (h : Kd.C d w A n xs) [r : Rch w W] : Kd.C d W A n xs := r.at_ (fun x => Kd.C d x A n xs) (fun _ o q => Kd.C_alloc q o) (fun _ n q => Kd.C_drewN q n) (fun _ q => Kd.C_drew q) h
theorem zK (h : w.heap[g]? = some o) [r : Rch w W] : W.heap[g]? = some o := r.at_ (fun x => x.heap[g]? = some o) (fun _ o q => blk_alloc q o) (fun _ n q => blk_drewN q n) (fun _ q => blk_drew q) h
theorem zB (h : Below w0.heap.size w0 w) [r : Rch w W] : Below w0.heap.size w0 W := r.at_ (fun x => Below w0.heap.size w0 x) (fun _ o q => below_alloc q o) (fun _ n q => pw_below_drewN q n) (fun _ q => below_drew1 q) h
theorem zS (h : Aside0 (Below w0.heap.size w0 w)) [r : Rch w W] : w0.heap.size ≤ W.heap.size := below_size (zB h.out)
theorem zVb (h : Aside0 (Kd.V d e w base ok v xs)) [r : Rch w W] (hb : Below W.heap.size W w2) : Aside0 (Kd.V d e w2 base ok v xs) := ⟨Kd.V_below (zV h.out) hb⟩
theorem zNb (h : Aside0 (Kd.N d e w base ok v xs)) [r : Rch w W] (hb : Below W.heap.size W w2) : Aside0 (Kd.N d e w2 base ok v xs) := ⟨Kd.N_below (zN h.out) hb⟩
theorem zRb (h : Aside0 (Kd.R d e w base ok v xs)) [r : Rch w W] (hb : Below W.heap.size W w2) : Aside0 (Kd.R d e w2 base ok v xs) := ⟨Kd.R_below (zR h.out) hb⟩
theorem zKb (h : Aside0 (w.heap[g]? = some o)) [r : Rch w W] (hb : Below W.heap.size W w2) : Aside0 (w2.heap[g]? = some o) := ⟨blk_below (zK h.out) hb⟩
theorem zBb (h : Aside0 (Below w0.heap.size w0 w)) [r : Rch w W] (hb : Below W.heap.size W w2) : Aside0 (Below w0.heap.size w0 w2) := ⟨below_step (zB h.out) hb⟩
end
section
variable {P : Program} {ops : Array Oper} {Q : Exit → Act → World → Prop}
theorem zG {rest : List Oper} {oi : Oper} {a : Act} {w : World} (N : Option Tmp) {f : FuncId} {fn : Func} {us : Array Operand} {ts : Array TypeId} (hf : P.funcs[f]? = some fn) (args : Array Value)
    (h : Calls P f args w fun e w' => ∃ v, e = .returned v ∧ wpList P ops Q rest (a.put N v) w')
    (hop : oi.op = .call { callee := .value (.func f), args := us, argTypes := ts } := by exact rfl)
    (hd : oi.dst = N := by exact rfl) (hg : oi.guard = none := by exact rfl) (hname : (fn.name == "runtime.NumGoroutine") = false := by kernel_rfl) (hb : fn.body.isSome = true := by exact rfl)
    (hargs : us.map a.eval = args := by (try simp only [List.map_toArray, List.map_cons, List.map_nil]); first | done | rfl | (simp only [List.length_drop, List.length_take]; rfl)) : wpList P ops Q (oi :: rest) a w := goesL_ N hd hg hf hname hb args hop hargs h
theorem zH {rest : List Oper} {oi : Oper} {a : Act} {w : World} (N : Option Tmp) {f : FuncId} {fn : Func} {us : Array Operand} {ts : Array TypeId} (hf : P.funcs[f]? = some fn) (args : Array Value) (hop : oi.op = .call { callee := .value (.func f), args := us, argTypes := ts }) (hargs : us.map a.eval = args)
    (h : Calls P f args w fun e w' => ∃ v, e = .returned v ∧ wpList P ops Q rest (a.put N v) w')
    (hd : oi.dst = N := by exact rfl) (hg : oi.guard = none := by exact rfl) (hname : (fn.name == "runtime.NumGoroutine") = false := by kernel_rfl) (hb : fn.body.isSome = true := by exact rfl) : wpList P ops Q (oi :: rest) a w := goesL_ N hd hg hf hname hb args hop hargs h
end
theorem zY {α β : Type} {e : α} {f : α → Option β} {r : β} (h : (some e).bind f = some r) : ∃ y, Aside0 (y = e) ∧ f y = some r := ⟨e, ⟨rfl⟩, h⟩
theorem zA {α : Type} (e : α) : ∃ y, Aside0 (y = e) := ⟨e, ⟨rfl⟩⟩
theorem zc {w : World} {g : Nat} {t : TypeId} {cs : Array Value} (h : Aside0 (w.heap[g]? = some (.cells cs t (0, 0)))) (i : Nat) {v : Value} (hv : cs[i]? = some v := by exact rfl) : w.cell? ⟨g, i, none⟩ = some v := (blk_cell h.out i).trans hv
theorem zg {w W X : World} (h : Aside0 (Below w.heap.size w W)) {g : Nat} (hg : g = X.heap.size) [r : Rch W X] : Aside0 (w.heap.size ≤ g) := ⟨by rw [hg]; exact zS h⟩
theorem zI {k : IntKind} {w : World} {A : Option Addr} {n : Nat} {xs : List Int} (h : (Kd.int k).C w A n xs) (i : Int) (h0 : 0 ≤ i) (h1 : i < n) : (0 ≤ i) = True ∧ (i < (n : Int)) = True ∧ ∃ ad, A = some ad ∧ w.cell? (ad.add i.toNat) = some (.int k (rd xs i)) := ⟨eq_true h0, eq_true h1, Kd.at_int h i h0 h1⟩
section
variable {P : Program} {ops : Array Oper} {rest : List Oper} {o : Oper} {a : Act} {Q : Exit → Act → World → Prop} {md : Region.Mode} {S : World → Prop} {ds : List Nat}
theorem zP (i : Nat) (n : Tmp) {oi : Oper} {v : Value} {fuel : Nat} {l : Array Bool} {a' : Act} {w : World} (h : wpAnyLast P md ops Q S ds fuel (l.setIfInBounds i true) a' w)
    (hi : ops[i]? = some oi := by exact rfl) (hN : oi.dst = some n := by exact rfl) (hc : anyB md ops l (l.setIfInBounds i true) i = true := by exact any_of HT_.out (by kernel_rfl))
    (hQ : ∀ c a w, Q (.panic c) (a.put oi.dst v) w → Q (.panic c) a w := by exact fun _ _ _ h => h)
    (hy : Yields P ops oi v a := by (refine Or.inl ⟨by rfl, ?_⟩; intro w'; go_simp; with_reducible rfl))
    (ha : a.put (some n) v = a' := by (simp only [Act.put, List.setIfInBounds_toArray, List.set_cons_zero, List.set_cons_succ, i64_w, i32_w]; rfl)) : wpAnyLast P md ops Q S ds (fuel + 1) l a w :=
  pure_ (l.setIfInBounds i true) hi hN hc hQ hy ha h
theorem zb (N : Tmp) (cs : Array Value) (t : TypeId) {W : World}
    (h : ∀ g, g = W.heap.size → ∀ w1, w1.heap[g]? = some (.cells cs t (0, 0)) → Below W.heap.size W w1 → wpList P ops Q rest (a.put o.dst (.pointer (some ⟨g, 0, none⟩))) w1)
    (hd : o.dst = some N := by exact rfl) (hgd : o.guard = none := by exact rfl)
    (hrun : (execOp a.eval o).run P W = .ok (.value (.pointer (some ⟨W.heap.size, 0, none⟩))) (W.alloc (.cells cs t (0, 0))) := by go_simp <;> rfl) : wpList P ops Q (o :: rest) a W := box_event hgd hd hrun h
end
theorem zO {α β : Type} {x : Option α} {f : α → Option β} {r : β} (h : x.bind f = some r) : ∃ a, Aside0 (x = some a) ∧ f a = some r := by
  obtain ⟨a, h1, h2⟩ := Option.bind_eq_some_iff.mp h
  exact ⟨a, ⟨h1⟩, h2⟩
theorem zD {p : Prop} [Decidable p] (h : decide p = true := by first | (with_reducible assumption) | assumption) : p := of_decide_eq_true h
theorem zT {w W : World} (h : Below w.heap.size w W := by first | exact zB HB.out | (repeat (first | (with_reducible first | exact HB.out | apply below_alloc | apply pw_below_drewN | apply below_drew1 | refine below_set ?_ (Aside0.out (by assumption))) | exact HB.out))) : Below w.heap.size w W := h
theorem zL {p : Prop} (h : p := by first | exact Kd.V_nil _ _ _ _ _ | exact Kd.R_V (Kd.R_nil _ _ _ _ _)) : p := h
theorem zQ {p : Prop} (h : p := by first | rfl | (simp [errW_none, errW_some] <;> rfl) | (simp [*, errW_none, errW_some] <;> rfl)) : p := h
theorem zX {p : Prop} (h : p := by first | rfl | (simp; done) | (simp [*]; done)) : p := h
theorem zE {a b : Int} (h : a = b) : (a == b) = true ∧ (a != b) = false := ⟨beq_iff_eq.mpr h, bne_eq_false_iff_eq.mpr h⟩
theorem zU {a b : Int} (h : ¬ a = b) : (a == b) = false ∧ (a != b) = true := ⟨beq_eq_false_iff_ne.mpr h, bne_iff_ne.mpr h⟩
end Go.Proofs.YtalnaafmonmlmaaW.PrintWords
end
section
namespace Go.Proofs.Ytalnaafmonmlmaa.Q
open Go.RowKit Go.Proofs.YtalnaafmonmlmaaW.PrintWords Go.Proofs.YtalnaafmonmlmaaW.PrintLast Go.Proofs.YtalnaafmonmlmaaW.PrintMore
attribute [local go_sem] max2_int min2_int max_two min_two max_three min_three max_four min_four
set_option linter.unusedVariables false
set_option linter.unusedSimpArgs false
set_option maxHeartbeats 8000000
set_option maxRecDepth 100000
def galoisref04_Mod.f (a0 : Int) (a1 : Int) : Option (Int) := if a1 = 0 then (none) else (some (Int.tmod (wrap64 ((Int.tmod a0 a1) + a1)) a1))
theorem galoisref04_Mod.calls (a0 : Int) (a1 : Int) (r : Int) (w : World) (h : galoisref04_Mod.f a0 a1 = some r) :
  Calls Try.prog 113 #[.int .i64 a0, .int .i64 a1] w fun e w' => e = .returned (.int .i64 r) ∧ Drawn0 w w' := by
 have H := h; clear h; unfold galoisref04_Mod.f at H
 by_cases c3 : a1 = 0
 ·rw [if_pos c3] at H
  exact absurd H (by simp)
 rw [if_neg c3] at H
 obtain ⟨c3b0, c3b1⟩ := zU c3
 obtain rfl := Option.some.inj H
 go_enter Try.func113, Try.ntmps113
 go_wp2
 go_ret
 exact ⟨by first | rfl | (simp; done) | (simp [*]; done), by repeat (first | exact Drawn0.refl _ | apply Drawn0.step)⟩
end Go.Proofs.Ytalnaafmonmlmaa.Q
end
section
namespace Go.Proofs.Ytalnaafmonmlmaa.Q
open Go.RowKit Go.Proofs.YtalnaafmonmlmaaW.PrintWords Go.Proofs.YtalnaafmonmlmaaW.PrintLast Go.Proofs.YtalnaafmonmlmaaW.PrintMore
attribute [local go_sem] max2_int min2_int max_two min_two max_three min_three max_four min_four
set_option linter.unusedVariables false
set_option linter.unusedSimpArgs false
set_option maxHeartbeats 8000000
set_option maxRecDepth 100000
def fp_Mod.f (a0 : Int) (a1 : Int) : Option (Int) := if a0 = 0 then (none) else (if (Int.tmod a1 a0) < 0 then (some (wrap64 ((Int.tmod a1 a0) + a0))) else (some (Int.tmod a1 a0)))
theorem fp_Mod.calls (a0 : Int) (a1 : Int) (r : Int) (w : World) (h : fp_Mod.f a0 a1 = some r) :
  Calls Try.prog 119 #[.int .i64 a0, .int .i64 a1] w fun e w' => e = .returned (.int .i64 r) ∧ Drawn0 w w' := by
 have H := h; clear h; unfold fp_Mod.f at H
 by_cases c3 : a0 = 0
 ·rw [if_pos c3] at H
  exact absurd H (by simp)
 rw [if_neg c3] at H
 obtain ⟨c3b0, c3b1⟩ := zU c3
 by_cases c4 : (Int.tmod a1 a0) < 0
 ·rw [if_pos c4] at H
  have c4b0 := decide_eq_true c4; clear c4
  obtain rfl := Option.some.inj H
  go_enter Try.func119, Try.ntmps119
  go_wp2
  go_ret
  exact ⟨by first | rfl | (simp; done) | (simp [*]; done), by repeat (first | exact Drawn0.refl _ | apply Drawn0.step)⟩
 rw [if_neg c4] at H
 have c4b0 := decide_eq_false c4; clear c4
 obtain rfl := Option.some.inj H
 go_enter Try.func119, Try.ntmps119
 go_wp2
 go_ret
 exact ⟨by first | rfl | (simp; done) | (simp [*]; done), by repeat (first | exact Drawn0.refl _ | apply Drawn0.step)⟩
end Go.Proofs.Ytalnaafmonmlmaa.Q
end
section
namespace Go.Proofs.Ytalnaafmonmlmaa.Q
open Go.RowKit Go.Proofs.YtalnaafmonmlmaaW.PrintWords Go.Proofs.YtalnaafmonmlmaaW.PrintLast Go.Proofs.YtalnaafmonmlmaaW.PrintMore
attribute [local go_sem] max2_int min2_int max_two min_two max_three min_three max_four min_four
set_option linter.unusedVariables false
set_option linter.unusedSimpArgs false
set_option maxHeartbeats 8000000
set_option maxRecDepth 100000
def galoisref09_Trim.l0 : Nat → List Int → Option (List Int)
 | 0, _ => none
 | k + 1, x0 => if (x0.length : Int) > 0 then (if 0 ≤ (wrap64 ((x0.length : Int) - 1)) then (if (wrap64 ((x0.length : Int) - 1)) < (x0.length : Int) then (if (rd x0 (wrap64 ((x0.length : Int) - 1))) = 0 then (if (wrap64 ((x0.length : Int) - 1)) ≤ (x0.length : Int) then (galoisref09_Trim.l0 k (x0.take ((wrap64 ((x0.length : Int) - 1)) : Int).toNat)) else (none)) else (some x0)) else (none)) else (none)) else (some x0)
def galoisref09_Trim.f (k : Nat) (l0 : List Int) : Option (List Int) := galoisref09_Trim.l0 k l0
theorem galoisref09_Trim.mono_l : ∀ k, (∀ y0, LeO (galoisref09_Trim.l0 k y0) (galoisref09_Trim.l0 (k + 1) y0))
 | 0 => fun _ r h => by simp [galoisref09_Trim.l0] at h
 | k + 1 => by
  have ih0 := galoisref09_Trim.mono_l k
  intro y0
  unfold galoisref09_Trim.l0
  with_reducible repeat' first | exact ih0 _ | exact LeO.refl _ | exact LeO.none _ | refine LeO.ite ?_ ?_ | refine LeO.bind ?_ (fun _ => ?_)
theorem galoisref09_Trim.mono : ∀ a0 k, LeO (galoisref09_Trim.f k a0) (galoisref09_Trim.f (k + 1) a0) := by
 intro a0 k
 have ih0 := galoisref09_Trim.mono_l k
 unfold galoisref09_Trim.f
 with_reducible repeat' first | exact ih0 _ | exact LeO.refl _ | exact LeO.none _ | refine LeO.ite ?_ ?_ | refine LeO.bind ?_ (fun _ => ?_)
theorem galoisref09_Trim.calls (k : Nat) (P0_ : Nat → Prop) (A0 : Option Addr) (c0 : Nat) (l0 : List Int) (r : List Int) (w : World) (hs0 : Kd.V (Kd.int .i64) 3 w w.heap.size (fun k_ => P0_ k_) (.slice A0 l0.length c0) l0) (h : galoisref09_Trim.f k l0 = some r) :
  Calls Try.prog 41 #[.slice A0 l0.length c0] w fun e w' => ∃ v0_ : Value, e = .returned (v0_) ∧ Kd.V (Kd.int .i64) 3 w' w.heap.size (fun k_ => (P0_ k_ ∨ w.heap.size ≤ k_)) v0_ r ∧ Below w.heap.size w w' := by
 have HO0 := Aside0.mk (show Kd.V (Kd.int .i64) 3 w w.heap.size (fun k_ => (P0_ k_ ∨ w.heap.size ≤ k_)) (.slice A0 l0.length c0) l0 from Kd.V_mono hs0 (fun k_ hk => .inl hk))
 have HB := Aside0.mk (Below.refl w.heap.size w)
 have H := h; clear h; unfold galoisref09_Trim.f at H
 have H' := Aside0.mk H
 clear H
 go_enter Try.func41, Try.ntmps41
 go_wp2
 go_loopg [0] k (fun kq v0 w' => ∃ (x0_1 : List Int), Aside0 (galoisref09_Trim.l0 kq x0_1 = some r) ∧ Aside0 (kq ≤ k) ∧ Aside0 (Kd.V (Kd.int .i64) 3 w' w.heap.size (fun k_ => (P0_ k_ ∨ w.heap.size ≤ k_)) v0 x0_1) ∧ Aside0 (Below w.heap.size w w'))
 case atStart => exact ⟨(l0), H', ⟨Nat.le_refl _⟩, ⟨zV HO0.out⟩, ⟨zT⟩⟩
 case round =>
  clear H'
  obtain ⟨x0_1, HA, HK1, HO_0, HB⟩ := hrel
  cases gk with
  | zero => exact absurd HA.out (by simp [galoisref09_Trim.l0])
  | succ k1 =>
   have H := HA.out
   clear HA
   simp only [galoisref09_Trim.l0] at H
   by_cases c2 : (x0_1.length : Int) > 0
   rotate_left
   ·rw [if_neg c2] at H
    have c2b0 : decide (0 < (x0_1.length : Int)) = false := decide_eq_false c2
    have c2b1 : decide (0 < x0_1.length) = false := decide_eq_false (by omega)
    clear c2
    obtain rfl := Option.some.inj H
    obtain ⟨Ao12, co12, eo12⟩ := Kd.V_slice HO_0.out
    subst eo12
    go_wp2
    go_ret
    exact ⟨_, zQ, zV HO_0.out, zT⟩
   rw [if_pos c2] at H
   have c2b0 : decide (0 < (x0_1.length : Int)) = true := decide_eq_true c2
   have c2b1 : decide (0 < x0_1.length) = true := decide_eq_true (by omega)
   clear c2
   obtain ⟨ji3, hji3⟩ : ∃ j_ : Int, (wrap64 ((x0_1.length : Int) - 1)) = j_ := ⟨_, rfl⟩
   first | rw [hji3] at H | simp only [hji3] at H
   have hji3w : (IntKind.i64.wrap ((x0_1.length : Int) - 1)) = ji3 := (i64_w _).trans hji3
   by_cases c4 : 0 ≤ (ji3)
   rotate_left
   ·rw [if_neg c4] at H
    exact absurd H (by simp)
   rw [if_pos c4] at H
   have c4b0 := decide_eq_true c4; clear c4
   by_cases c5 : (ji3) < (x0_1.length : Int)
   rotate_left
   ·rw [if_neg c5] at H
    exact absurd H (by simp)
   rw [if_pos c5] at H
   have c5b0 := decide_eq_true c5; clear c5
   by_cases c6 : (rd x0_1 (ji3)) = 0
   rotate_left
   ·rw [if_neg c6] at H
    obtain ⟨c6b0, c6b1⟩ := zU c6
    obtain rfl := Option.some.inj H
    obtain ⟨Ao11, co11, eo11⟩ := Kd.V_slice HO_0.out
    subst eo11
    obtain ⟨p101, q101, ad101, e101, hx101_0⟩ := zI ((Kd.V_reads' HO_0.out).2.2) ((ji3)) zD zD
    cases e101
    go_wp2
    go_ret
    exact ⟨_, by first | rfl | (simp [errW_none, errW_some] <;> rfl) | (simp only [← hji3]; first | rfl | (simp [errW_none, errW_some] <;> rfl)) | (simp [*, errW_none, errW_some] <;> rfl), zV HO_0.out, zT⟩
   rw [if_pos c6] at H
   obtain ⟨c6b0, c6b1⟩ := zE c6; clear c6
   have c7b0 := eq_true (zD : 0 ≤ (ji3))
   by_cases c8 : (ji3) ≤ (x0_1.length : Int)
   rotate_left
   ·rw [if_neg c8] at H
    exact absurd H (by simp)
   rw [if_pos c8] at H
   have c8b0 := eq_true c8; have c8b1 := decide_eq_true c8; clear c8
   obtain ⟨y102, Ny102⟩ := zA ((x0_1.take ((ji3) : Int).toNat) : List Int); rw [← Ny102.out] at H
   have H' := Aside0.mk H
   clear H
   obtain ⟨Ao9, co9, eo9⟩ := Kd.V_slice HO_0.out
   subst eo9
   obtain ⟨p101, q101, ad101, e101, hx101_0⟩ := zI ((Kd.V_reads' HO_0.out).2.2) ((ji3)) zD zD
   cases e101
   have q10 : ((ji3) : Int) ≤ ((x0_1.length : Int) : Int) := zD
   obtain ⟨i010, hi010, _, hsz10, _⟩ := info_parts info3
   have hroom10 : x0_1.length ≤ co9 := (Kd.V_reads' HO_0.out).2.1
   have hC10 : Kd.F (Kd.int .i64) _ _ (some ad101) x0_1.length x0_1 := (Kd.V_at (base := w.heap.size) HO_0.out).2.2
   have hcut10 := cut_to (P := Try.prog) 25 3 .i64 Try.underlying25 hi010 (some ad101) x0_1.length co9 (ji3) zD q10 hroom10
   have hr10 := Kd.F_take (m := ((ji3) : Int).toNat) hC10 (by omega)
   have hy10 : y102.length = ((ji3) : Int).toNat := (by rw [Ny102.out, List.length_take]; omega)
   rw [← Ny102.out] at hr10
   rw [← hy10] at hcut10
   have HO106 := Aside0.mk (show Kd.V (Kd.int .i64) 3 _ w.heap.size _ (.slice (some ad101) y102.length co9) y102 from Kd.V_mk (by omega) hr10)
   have HC106 := Aside0.mk (show y102.length ≤ co9 from by omega)
   clear hr10 hC10 hroom10 hi010 hsz10
   have KY10 := Aside0.mk hy10
   clear hy10
   replace q10 := eq_true q10
   go_wp2
   go_roundg k1
   case measure => have := HK1.out; omega
   case rel => exact ⟨(y102), H', ⟨by have := HK1.out; omega⟩, ⟨zV HO106.out⟩, ⟨zT⟩⟩
end Go.Proofs.Ytalnaafmonmlmaa.Q
end
section
namespace Go.Proofs.Ytalnaafmonmlmaa.Q
open Go.RowKit Go.Proofs.YtalnaafmonmlmaaW.PrintWords Go.Proofs.YtalnaafmonmlmaaW.PrintLast Go.Proofs.YtalnaafmonmlmaaW.PrintMore
attribute [local go_sem] max2_int min2_int max_two min_two max_three min_three max_four min_four
set_option linter.unusedVariables false
set_option linter.unusedSimpArgs false
set_option maxHeartbeats 8000000
set_option maxRecDepth 100000
def galoisref09_Copy.f (l0 : List Int) : Option (List Int) := (some (([] : List Int) : List Int)).bind fun y101 => (if y101.length + l0.length < 17592186044416 then (some (y101 ++ l0)) else (none))
theorem galoisref09_Copy.calls (A0 : Option Addr) (c0 : Nat) (l0 : List Int) (r : List Int) (w : World) (hr0 : Kd.C (Kd.int .i64) w A0 l0.length l0) (hc0 : l0.length ≤ c0) (h : galoisref09_Copy.f l0 = some r) :
  Calls Try.prog 47 #[.slice A0 l0.length c0] w fun e w' => ∃ v0_ : Value, e = .returned (v0_) ∧ Kd.R (Kd.int .i64) 3 w' w.heap.size (fun _ => True) v0_ r ∧ Below w.heap.size w w' := by
 have HR0 := Aside0.mk hr0
 have HC0 := Aside0.mk hc0
 clear hr0 hc0
 have HB := Aside0.mk (Below.refl w.heap.size w)
 have H := h; clear h; unfold galoisref09_Copy.f at H
 obtain ⟨y101, Ny101, H⟩ := zY H
 by_cases c2 : y101.length + l0.length < 17592186044416
 rotate_left
 ·rw [if_neg c2] at H
  exact absurd H (by simp)
 rw [if_pos c2] at H
 have LMc2 := Aside0.mk c2
 clear c2
 obtain ⟨y104, Ny104⟩ := zA ((y101 ++ l0) : List Int); rw [← Ny104.out] at H
 obtain rfl := Option.some.inj H
 go_enter Try.func47, Try.ntmps47
 go_wp2_with (first | ((with_reducible refine gate_dst (N := 3) rfl ?_); refine Kd.R_lit (Kd.int .i64) _ 3 ?hg (N := 3) ?hd (xs := ([] : List Int)) (inner := []) (ok := fun _ => True) (okp := fun _ => True) ?hr ?hp (fun _ hk => hk) trivial (Below.refl _ _) (Nat.le_refl _) (by simp) ?_; (case hd => rfl); (case hg => rfl); (case hr => go_simp <;> rfl); (case hp => exact (Reps.none _ _)); intro v102 w3 ho4 hb hg_ hnew_; clear hg_ hnew_; (first | rw [← Ny101.out] at ho4 | (simp only [Int.reduceToNat] at ho4; rw [← Ny101.out] at ho4)); have HO103 := Aside0.mk (Kd.R_lower ho4 (zS HB)); replace HB := zBb HB hb; clear hb ho4) | ((with_reducible refine gate_builtin (b := .append) (xs := #[.tmp 3, .tmp 4]) rfl ?_); at_builtin; refine Kd.R_append_rows (Kd.int .i64) (w0 := w) w.heap.size rfl (.tmp 3) (.tmp 4) 25 3 (.int .i64 0) 8 rfl Try.underlying25 info3 rfl (by decide) (by omega) v102 y101 l0 _ _ _ (fun _ => True) (fun _ => False) rfl rfl ?aO ?aR (fun _ _ h => h) (fun _ h => h.elim) ?aF ?aB ?aS ?aL ?_; (case aR => exact zC (Kd.C_below HR0.out HB.out)); (case aB => exact (zT)); (case aF => exact (fun _ _ => trivial)); (case aO => exact (zR HO103.out)); (case aS => exact (zS HB)); (case aL => have := LMc2.out; omega); intro v105 w5 ho hb hg hat; rw [← Ny104.out] at ho; replace HB := Aside0.mk (hb); have HO106 := Aside0.mk (ho); clear HO103; clear ho hb hg hat))
 go_ret
 exact ⟨_, zQ, zR HO106.out, zT⟩
end Go.Proofs.Ytalnaafmonmlmaa.Q
end
section
namespace Go.Proofs.Ytalnaafmonmlmaa.Q
open Go.RowKit Go.Proofs.YtalnaafmonmlmaaW.PrintWords Go.Proofs.YtalnaafmonmlmaaW.PrintLast Go.Proofs.YtalnaafmonmlmaaW.PrintMore
attribute [local go_sem] max2_int min2_int max_two min_two max_three min_three max_four min_four
set_option linter.unusedVariables false
set_option linter.unusedSimpArgs false
set_option maxHeartbeats 8000000
set_option maxRecDepth 100000
def fp_Trim.l0 : Nat → List Int → Int → Option (List Int)
 | 0, _, _ => none
 | k + 1, x0, x3 => if x3 > 0 then (if 0 ≤ (wrap64 (x3 - 1)) then (if (wrap64 (x3 - 1)) < (x0.length : Int) then (if (rd x0 (wrap64 (x3 - 1))) = 0 then (fp_Trim.l0 k x0 (wrap64 (x3 - 1))) else (if 0 ≤ x3 then (if x3 ≤ (x0.length : Int) then (some (x0.take (x3 : Int).toNat)) else (none)) else (none))) else (none)) else (none)) else (if 0 ≤ x3 then (if x3 ≤ (x0.length : Int) then (some (x0.take (x3 : Int).toNat)) else (none)) else (none))
def fp_Trim.f (k : Nat) (l0 : List Int) : Option (List Int) := fp_Trim.l0 k l0 (l0.length : Int)
theorem fp_Trim.mono_l : ∀ k, (∀ y0 y1, LeO (fp_Trim.l0 k y0 y1) (fp_Trim.l0 (k + 1) y0 y1))
 | 0 => fun _ _ r h => by simp [fp_Trim.l0] at h
 | k + 1 => by
  have ih0 := fp_Trim.mono_l k
  intro y0 y1
  unfold fp_Trim.l0
  with_reducible repeat' first | exact ih0 _ _ | exact LeO.refl _ | exact LeO.none _ | refine LeO.ite ?_ ?_ | refine LeO.bind ?_ (fun _ => ?_)
theorem fp_Trim.mono : ∀ a0 k, LeO (fp_Trim.f k a0) (fp_Trim.f (k + 1) a0) := by
 intro a0 k
 have ih0 := fp_Trim.mono_l k
 unfold fp_Trim.f
 with_reducible repeat' first | exact ih0 _ _ | exact LeO.refl _ | exact LeO.none _ | refine LeO.ite ?_ ?_ | refine LeO.bind ?_ (fun _ => ?_)
theorem fp_Trim.calls (k : Nat) (P0_ : Nat → Prop) (A0 : Option Addr) (c0 : Nat) (l0 : List Int) (r : List Int) (w : World) (hs0 : Kd.V (Kd.int .i64) 3 w w.heap.size (fun k_ => P0_ k_) (.slice A0 l0.length c0) l0) (h : fp_Trim.f k l0 = some r) :
  Calls Try.prog 92 #[.slice A0 l0.length c0] w fun e w' => ∃ v0_ : Value, e = .returned (v0_) ∧ Kd.V (Kd.int .i64) 3 w' w.heap.size (fun k_ => (P0_ k_ ∨ w.heap.size ≤ k_)) v0_ r ∧ Below w.heap.size w w' := by
 have HO0 := Aside0.mk (show Kd.V (Kd.int .i64) 3 w w.heap.size (fun k_ => (P0_ k_ ∨ w.heap.size ≤ k_)) (.slice A0 l0.length c0) l0 from Kd.V_mono hs0 (fun k_ hk => .inl hk))
 have HB := Aside0.mk (Below.refl w.heap.size w)
 have H := h; clear h; unfold fp_Trim.f at H
 have H' := Aside0.mk H
 clear H
 go_enter Try.func92, Try.ntmps92
 go_wp2
 go_loopg [3] k (fun kq v3 w' => ∃ (x3_1 : Int), v3 = .int .i64 x3_1 ∧ Aside0 (fp_Trim.l0 kq l0 x3_1 = some r) ∧ Aside0 (kq ≤ k) ∧ Aside0 (Kd.V (Kd.int .i64) 3 w' w.heap.size (fun k_ => (P0_ k_ ∨ w.heap.size ≤ k_)) (.slice A0 l0.length c0) l0) ∧ Aside0 (Below w.heap.size w w'))
 case atStart => exact ⟨((l0.length : Int)), zX, H', ⟨Nat.le_refl _⟩, ⟨zV HO0.out⟩, ⟨zT⟩⟩
 case round =>
  clear H'
  obtain ⟨x3_1, rfl, HA, HK1, HO_0, HB⟩ := hrel
  cases gk with
  | zero => exact absurd HA.out (by simp [fp_Trim.l0])
  | succ k1 =>
   have H := HA.out
   clear HA
   simp only [fp_Trim.l0] at H
   by_cases c2 : x3_1 > 0
   rotate_left
   ·rw [if_neg c2] at H
    have c2b0 := decide_eq_false c2; clear c2
    by_cases c10 : 0 ≤ x3_1
    rotate_left
    ·rw [if_neg c10] at H
     exact absurd H (by simp)
    rw [if_pos c10] at H
    have c10b0 := eq_true c10; have c10b1 := decide_eq_true c10; clear c10
    by_cases c11 : x3_1 ≤ (l0.length : Int)
    rotate_left
    ·rw [if_neg c11] at H
     exact absurd H (by simp)
    rw [if_pos c11] at H
    have c11b0 := eq_true c11; have c11b1 := decide_eq_true c11; clear c11
    obtain ⟨y107, hy107⟩ : ∃ y_ : List Int, y_ = (l0.take (x3_1 : Int).toNat) := ⟨_, rfl⟩
    replace H : (some y107) = some r := by first | (rw [hy107]; with_reducible exact H) | (have H2_ := (Option.bind_some _ _).symm.trans H; rw [hy107]; with_reducible exact H2_) | (have H2_ := (Option.bind_some _ _).symm.trans H; with_reducible exact H2_) | with_reducible exact H | (rw [hy107]; exact H) | exact H
    have Ny107 := Aside0.mk hy107
    clear hy107
    obtain rfl := Option.some.inj H
    have q12 : (x3_1 : Int) ≤ ((l0.length : Int) : Int) := zD
    obtain ⟨i012, hi012, _, hsz12, _⟩ := info_parts info3
    have hroom12 : l0.length ≤ c0 := (Kd.V_reads' HO_0.out).2.1
    have hC12 : Kd.F (Kd.int .i64) _ _ A0 l0.length l0 := (Kd.V_at (base := w.heap.size) HO_0.out).2.2
    have hcut12 := cut_cap (P := Try.prog) 25 3 .i64 Try.underlying25 hi012 A0 l0.length c0 x3_1 zD q12 hroom12
    have hr12 := Kd.F_take (m := (x3_1 : Int).toNat) hC12 (by omega)
    have hy12 : y107.length = (x3_1 : Int).toNat := (by rw [Ny107.out, List.length_take]; omega)
    rw [← Ny107.out] at hr12
    rw [← hy12] at hcut12
    have HO111 := Aside0.mk (show Kd.V (Kd.int .i64) 3 _ w.heap.size _ (.slice A0 y107.length y107.length) y107 from Kd.V_mk (by omega) hr12)
    have HC111 := Aside0.mk (show y107.length ≤ y107.length from by omega)
    clear hr12 hC12 hroom12 hi012 hsz12
    have KY12 := Aside0.mk hy12
    clear hy12
    replace q12 := eq_true q12
    go_wp2
    go_ret
    exact ⟨_, zQ, zV HO111.out, zT⟩
   rw [if_pos c2] at H
   have c2b0 := decide_eq_true c2; clear c2
   obtain ⟨ji3, hji3⟩ : ∃ j_ : Int, (wrap64 (x3_1 - 1)) = j_ := ⟨_, rfl⟩
   first | rw [hji3] at H | simp only [hji3] at H
   have hji3w : (IntKind.i64.wrap (x3_1 - 1)) = ji3 := (i64_w _).trans hji3
   by_cases c4 : 0 ≤ (ji3)
   rotate_left
   ·rw [if_neg c4] at H
    exact absurd H (by simp)
   rw [if_pos c4] at H
   have c4b0 := decide_eq_true c4; clear c4
   by_cases c5 : (ji3) < (l0.length : Int)
   rotate_left
   ·rw [if_neg c5] at H
    exact absurd H (by simp)
   rw [if_pos c5] at H
   have c5b0 := decide_eq_true c5; clear c5
   by_cases c6 : (rd l0 (ji3)) = 0
   ·rw [if_pos c6] at H
    obtain ⟨c6b0, c6b1⟩ := zE c6; clear c6
    have H' := Aside0.mk H
    clear H
    obtain ⟨p101, q101, ad101, e101, hx101_0⟩ := zI ((Kd.V_reads' HO_0.out).2.2) ((ji3)) zD zD
    cases e101
    go_wp2
    go_roundg k1
    case measure => have := HK1.out; omega
    case rel => exact ⟨(ji3), (by first | rfl | (simp; done) | (simp only [← hji3] <;> (first | rfl | simp)) | (simp [*]; done)), H', ⟨by have := HK1.out; omega⟩, ⟨zV HO_0.out⟩, ⟨zT⟩⟩
   rw [if_neg c6] at H
   obtain ⟨c6b0, c6b1⟩ := zU c6
   by_cases c7 : 0 ≤ x3_1
   rotate_left
   ·rw [if_neg c7] at H
    exact absurd H (by simp)
   rw [if_pos c7] at H
   have c7b0 := eq_true c7; have c7b1 := decide_eq_true c7; clear c7
   by_cases c8 : x3_1 ≤ (l0.length : Int)
   rotate_left
   ·rw [if_neg c8] at H
    exact absurd H (by simp)
   rw [if_pos c8] at H
   have c8b0 := eq_true c8; have c8b1 := decide_eq_true c8; clear c8
   obtain ⟨y102, hy102⟩ : ∃ y_ : List Int, y_ = (l0.take (x3_1 : Int).toNat) := ⟨_, rfl⟩
   replace H : (some y102) = some r := by first | (rw [hy102]; with_reducible exact H) | (have H2_ := (Option.bind_some _ _).symm.trans H; rw [hy102]; with_reducible exact H2_) | (have H2_ := (Option.bind_some _ _).symm.trans H; with_reducible exact H2_) | with_reducible exact H | (rw [hy102]; exact H) | exact H
   have Ny102 := Aside0.mk hy102
   clear hy102
   obtain rfl := Option.some.inj H
   obtain ⟨p101, q101, ad101, e101, hx101_0⟩ := zI ((Kd.V_reads' HO_0.out).2.2) ((ji3)) zD zD
   cases e101
   have q9 : (x3_1 : Int) ≤ ((l0.length : Int) : Int) := zD
   obtain ⟨i09, hi09, _, hsz9, _⟩ := info_parts info3
   have hroom9 : l0.length ≤ c0 := (Kd.V_reads' HO_0.out).2.1
   have hC9 : Kd.F (Kd.int .i64) _ _ (some ad101) l0.length l0 := (Kd.V_at (base := w.heap.size) HO_0.out).2.2
   have hcut9 := cut_cap (P := Try.prog) 25 3 .i64 Try.underlying25 hi09 (some ad101) l0.length c0 x3_1 zD q9 hroom9
   have hr9 := Kd.F_take (m := (x3_1 : Int).toNat) hC9 (by omega)
   have hy9 : y102.length = (x3_1 : Int).toNat := (by rw [Ny102.out, List.length_take]; omega)
   rw [← Ny102.out] at hr9
   rw [← hy9] at hcut9
   have HO106 := Aside0.mk (show Kd.V (Kd.int .i64) 3 _ w.heap.size _ (.slice (some ad101) y102.length y102.length) y102 from Kd.V_mk (by omega) hr9)
   have HC106 := Aside0.mk (show y102.length ≤ y102.length from by omega)
   clear hr9 hC9 hroom9 hi09 hsz9
   have KY9 := Aside0.mk hy9
   clear hy9
   replace q9 := eq_true q9
   go_wp2
   go_ret
   exact ⟨_, by first | rfl | (simp [errW_none, errW_some] <;> rfl) | (simp only [← hji3]; first | rfl | (simp [errW_none, errW_some] <;> rfl)) | (simp [*, errW_none, errW_some] <;> rfl), zV HO106.out, zT⟩
end Go.Proofs.Ytalnaafmonmlmaa.Q
end
section
namespace Go.Proofs.Ytalnaafmonmlmaa.Q
open Go.RowKit Go.Proofs.YtalnaafmonmlmaaW.PrintWords Go.Proofs.YtalnaafmonmlmaaW.PrintLast Go.Proofs.YtalnaafmonmlmaaW.PrintMore
attribute [local go_sem] max2_int min2_int max_two min_two max_three min_three max_four min_four
set_option linter.unusedVariables false
set_option linter.unusedSimpArgs false
set_option maxHeartbeats 8000000
set_option maxRecDepth 100000
def fp_Scale.l0 : Nat → Int → Int → List Int → List Int → Int → Int → Option (List Int)
 | 0, _, _, _, _, _, _ => none
 | k + 1, x0, x2, x7, x13, x14, x15 => if x15 < x14 then (if 0 ≤ x15 then (if x15 < (x13.length : Int) then (if x0 = 0 then (none) else (if x15 < (x7.length : Int) then (fp_Scale.l0 k x0 x2 (x7.set (x15 : Int).toNat (Int.tmod (wrap64 ((rd x13 x15) * x2)) x0)) x13 x14 (wrap64 (x15 + 1))) else (none))) else (none)) else (none)) else ((fp_Trim.f k x7).bind fun t106 => (some t106))
def fp_Scale.f (k : Nat) (a0 : Int) (l1 : List Int) (a2 : Int) : Option (List Int) := if 0 ≤ (l1.length : Int) then (if ((l1.length : Int) : Int).toNat ≤ 35184372088832 then (fp_Scale.l0 k a0 a2 (List.replicate ((l1.length : Int) : Int).toNat 0) l1 (l1.length : Int) 0) else (none)) else (none)
theorem fp_Scale.mono_l : ∀ k, (∀ y0 y1 y2 y3 y4 y5, LeO (fp_Scale.l0 k y0 y1 y2 y3 y4 y5) (fp_Scale.l0 (k + 1) y0 y1 y2 y3 y4 y5))
 | 0 => fun _ _ _ _ _ _ r h => by simp [fp_Scale.l0] at h
 | k + 1 => by
  have ih0 := fp_Scale.mono_l k
  intro y0 y1 y2 y3 y4 y5
  unfold fp_Scale.l0
  with_reducible repeat' first | exact ih0 _ _ _ _ _ _ | exact fp_Trim.mono _ _ | exact LeO.refl _ | exact LeO.none _ | refine LeO.ite ?_ ?_ | refine LeO.bind ?_ (fun _ => ?_)
theorem fp_Scale.mono : ∀ a0 a1 a2 k, LeO (fp_Scale.f k a0 a1 a2) (fp_Scale.f (k + 1) a0 a1 a2) := by
 intro a0 a1 a2 k
 have ih0 := fp_Scale.mono_l k
 unfold fp_Scale.f
 with_reducible repeat' first | exact ih0 _ _ _ _ _ _ | exact fp_Trim.mono _ _ | exact LeO.refl _ | exact LeO.none _ | refine LeO.ite ?_ ?_ | refine LeO.bind ?_ (fun _ => ?_)
theorem fp_Scale.calls (k : Nat) (a0 : Int) (A1 : Option Addr) (c1 : Nat) (l1 : List Int) (a2 : Int) (r : List Int) (w : World) (hr1 : Kd.C (Kd.int .i64) w A1 l1.length l1) (hc1 : l1.length ≤ c1) (h : fp_Scale.f k a0 l1 a2 = some r) :
  Calls Try.prog 57 #[.int .i64 a0, .slice A1 l1.length c1, .int .i64 a2] w fun e w' => ∃ v0_ : Value, e = .returned (v0_) ∧ Kd.V (Kd.int .i64) 3 w' w.heap.size (fun k_ => (w.heap.size ≤ k_)) v0_ r ∧ Below w.heap.size w w' := by
 have HR1 := Aside0.mk hr1
 have HC1 := Aside0.mk hc1
 clear hr1 hc1
 have HB := Aside0.mk (Below.refl w.heap.size w)
 have H := h; clear h; unfold fp_Scale.f at H
 by_cases c4 : 0 ≤ (l1.length : Int)
 rotate_left
 ·rw [if_neg c4] at H
  exact absurd H (by simp)
 rw [if_pos c4] at H
 have c4b0 := eq_true c4; have c4b1 := decide_eq_true c4; clear c4
 by_cases c5 : ((l1.length : Int) : Int).toNat ≤ 35184372088832
 rotate_left
 ·rw [if_neg c5] at H
  exact absurd H (by simp)
 rw [if_pos c5] at H
 have c5b0 := eq_true c5; have c5b1 := decide_eq_true c5; clear c5
 obtain ⟨y101, Ny101⟩ := zA ((List.replicate ((l1.length : Int) : Int).toNat 0) : List Int); rw [← Ny101.out] at H
 have H' := Aside0.mk H
 clear H
 go_enter Try.func57, Try.ntmps57
 go_wp2_with (first | ((with_reducible refine gate_dst (N := 12) rfl ?_); refine Kd.R_make (Kd.int .i64) _ 3 rfl (N := 12) rfl 25 _ _ rfl (l1.length : Int) rfl rfl Try.underlying25 (.int .i64 0) 8 info3 rfl (by decide) (by omega) 0 (ok := fun _ => True) (okp := fun _ => True) rfl (fun _ hk => hk) trivial zD (Nat.le_trans (Nat.mul_le_mul_right _ (zD : (l1.length : Int).toNat ≤ 35184372088832)) (by omega)) (Below.refl _ _) (Nat.le_refl _) ?_; intro v102 w6 ho7 hb hg_ hnew_; clear hg_ hnew_; (first | rw [← Ny101.out] at ho7 | (simp only [Int.reduceToNat] at ho7; rw [← Ny101.out] at ho7)); have HO103 := Aside0.mk (Kd.R_lower (Kd.R_newM (M := fun k_ => (w.heap.size ≤ k_)) ho7 (zS HB) (fun k_ h_ => h_)) (zS HB)); replace HB := zBb HB hb; clear hb ho7))
 go_loopg [15] k (fun kq v15 w' => ∃ (x7_1 : List Int) (x15_1 : Int), v15 = .int .i64 x15_1 ∧ Aside0 (fp_Scale.l0 kq a0 a2 x7_1 l1 (l1.length : Int) x15_1 = some r) ∧ Aside0 (kq ≤ k) ∧ Aside0 (Kd.R (Kd.int .i64) 3 w' w.heap.size (fun k_ => (w.heap.size ≤ k_)) v102 x7_1) ∧ Aside0 (Below w.heap.size w w'))
 case atStart => exact ⟨(y101), (0), zX, H', ⟨Nat.le_refl _⟩, ⟨zR (Kd.R_mono HO103.out (fun _ hk => hk.1))⟩, ⟨zT⟩⟩
 case round =>
  clear H'
  try clear c1; try clear p2; try clear c4; try clear c4b0; try clear c4b1; try clear c5; try clear c5b0; try clear c5b1
  obtain ⟨x7_1, x15_1, rfl, HA, HK1, HO_7, HB⟩ := hrel
  cases gk with
  | zero => exact absurd HA.out (by simp [fp_Scale.l0])
  | succ k1 =>
   have H := HA.out
   clear HA
   simp only [fp_Scale.l0] at H
   by_cases c8 : x15_1 < (l1.length : Int)
   rotate_left
   ·rw [if_neg c8] at H
    have c8b0 := decide_eq_false c8; clear c8
    obtain ⟨t106, A16, H⟩ := zO H
    obtain rfl := Option.some.inj H
    obtain ⟨Ao17, co17, eo17⟩ := Kd.R_slice HO_7.out
    subst eo17
    go_wp2_with (first | ((with_reducible refine gate_callee (f := 92) rfl ?_); refine zG (some 30) Try.func92 #[.slice Ao17 x7_1.length co17] ?_; (with_reducible refine (fp_Trim.calls k1 (fun k_ => some k_ = (.slice Ao17 x7_1.length co17 : Value).ownBlock) _ _ x7_1 t106 _ ?side1 A16.out).mono ?_); (case side1 => exact Kd.R_V (Kd.R_tight rfl (HO_7.out))); rintro e w18 ⟨v107, rfl, ho0, hb⟩; refine ⟨_, rfl, ?_⟩; have HO108 := Aside0.mk (Kd.V_lower (Kd.V_mono (ok' := fun k_ => (w.heap.size ≤ k_)) ho0 (fun k_ hk_ => Or.elim hk_ (fun hs_ => ((HO_7.out).1 k_ hs_.symm)) (fun hn_ => (Nat.le_trans (zS HB) hn_)))) (zS HB)); replace HO_7 := zRb HO_7 hb; replace HB := zBb HB hb; (try clear hb); (try clear ho0)))
    go_ret
    exact ⟨_, zQ, zV HO108.out, zT⟩
   rw [if_pos c8] at H
   have c8b0 := decide_eq_true c8; clear c8
   by_cases c9 : 0 ≤ x15_1
   rotate_left
   ·rw [if_neg c9] at H
    exact absurd H (by simp)
   rw [if_pos c9] at H
   have c9b0 := decide_eq_true c9; clear c9
   by_cases c10 : x15_1 < (l1.length : Int)
   rotate_left
   ·rw [if_neg c10] at H
    exact absurd H (by simp)
   rw [if_pos c10] at H
   have c10b0 := decide_eq_true c10; clear c10
   by_cases c11 : a0 = 0
   ·rw [if_pos c11] at H
    exact absurd H (by simp)
   rw [if_neg c11] at H
   obtain ⟨c11b0, c11b1⟩ := zU c11
   by_cases c12 : x15_1 < (x7_1.length : Int)
   rotate_left
   ·rw [if_neg c12] at H
    exact absurd H (by simp)
   rw [if_pos c12] at H
   have c12b0 := decide_eq_true c12; clear c12
   obtain ⟨y105, Ny105⟩ := zA ((x7_1.set (x15_1 : Int).toNat (Int.tmod (wrap64 ((rd l1 x15_1) * a2)) a0)) : List Int); rw [← Ny105.out] at H
   have H' := Aside0.mk H
   clear H
   obtain ⟨p104, q104, ad104, e104, hx104_0⟩ := zI (HR1.out) (x15_1) zD zD
   cases e104
   replace hx104_0 := (HB.out.cell (World.block_lt_of_cell? w _ hx104_0)).trans hx104_0
   have p13 : 0 ≤ (x15_1 : Int) := zD
   have q13 : (x15_1 : Int) < ((x7_1.length : Int) : Int) := zD
   obtain ⟨go13, co13, eo13, gb13, gl13, cl13, HG13⟩ := Kd.R_form HO_7.out (by omega)
   (first | cases eo13 | (injection eo13 with ea_ en_ ec_; (first | subst ea_ | (injection ea_ with ea_; subst ea_)); subst ec_; clear en_))
   have GB13 := Aside0.mk gb13
   have GG13 := Aside0.mk HG13
   clear gb13 gl13 HG13
   obtain ⟨hx13_0, hf13_0⟩ := Kd.R_celln 0 HO_7.out (x15_1 : Int) p13 q13
   replace p13 := eq_true p13
   replace q13 := eq_true q13
   have HP14 := Kd.R_putg HO_7.out (x15_1 : Int) (Int.tmod (wrap64 ((rd l1 x15_1) * a2)) a0)
   go_wp2_with (first | ((with_reducible refine gate_store (t := 3) (p := 27) rfl ?_); refine store_event (t := 3) (p := 27) (v := ?vo_w15) (w1 := (wr.setCell ⟨go13, (x15_1 : Int).toNat, none⟩ (.int .i64 (Int.tmod (wrap64 ((rd l1 x15_1) * a2)) a0)))) ?hg ?ho ?hn ?hr ?_; (case ho => rfl); (case hg => rfl); (case hn => rfl); (case hr => go_simp <;> rfl); intro w15 hw; have hg : wr.grownBy w15 (some go13) := (by rw [hw]; exact HP14.2); have hp_ : Kd.R (Kd.int .i64) 3 w15 w.heap.size (fun k_ => (w.heap.size ≤ k_)) (.slice (some ⟨go13, 0, none⟩) x7_1.length co13) y105 := (by rw [hw, Ny105.out]; exact HP14.1); clear HP14; replace HO_7 := Aside0.mk (hp_); replace HB := Aside0.mk ((by rw [hw]; exact below_set (HB.out) GB13.out : Below w.heap.size w w15)); clear hg hw hp_))
   go_roundg k1
   case measure => have := HK1.out; omega
   case rel => exact ⟨(y105), (wrap64 (x15_1 + 1)), zX, H', ⟨by have := HK1.out; omega⟩, ⟨zR HO_7.out⟩, ⟨zT⟩⟩
end Go.Proofs.Ytalnaafmonmlmaa.Q
end
section
namespace Go.Proofs.Ytalnaafmonmlmaa.Q
open Go.RowKit Go.Proofs.YtalnaafmonmlmaaW.PrintWords Go.Proofs.YtalnaafmonmlmaaW.PrintLast Go.Proofs.YtalnaafmonmlmaaW.PrintMore
attribute [local go_sem] max2_int min2_int max_two min_two max_three min_three max_four min_four
set_option linter.unusedVariables false
set_option linter.unusedSimpArgs false
set_option maxHeartbeats 8000000
set_option maxRecDepth 100000
def fp_at.f (l0 : List Int) (a1 : Int) : Option (Int) := if a1 < (l0.length : Int) then (if 0 ≤ a1 then (some (rd l0 a1)) else (none)) else (some 0)
theorem fp_at.calls (A0 : Option Addr) (c0 : Nat) (l0 : List Int) (a1 : Int) (r : Int) (w : World) (hr0 : Kd.C (Kd.int .i64) w A0 l0.length l0) (hc0 : l0.length ≤ c0) (h : fp_at.f l0 a1 = some r) :
  Calls Try.prog 95 #[.slice A0 l0.length c0, .int .i64 a1] w fun e w' => e = .returned (.int .i64 r) ∧ Drawn0 w w' := by
 have HR0 := Aside0.mk hr0
 have HC0 := Aside0.mk hc0
 clear hr0 hc0
 have H := h; clear h; unfold fp_at.f at H
 by_cases c3 : a1 < (l0.length : Int)
 rotate_left
 ·rw [if_neg c3] at H
  have c3b0 := decide_eq_false c3; clear c3
  obtain rfl := Option.some.inj H
  go_enter Try.func95, Try.ntmps95
  go_wp2
  go_ret
  exact ⟨by first | rfl | (simp; done) | (simp [*]; done), by repeat (first | exact Drawn0.refl _ | apply Drawn0.step)⟩
 rw [if_pos c3] at H
 have c3b0 := decide_eq_true c3; clear c3
 by_cases c4 : 0 ≤ a1
 rotate_left
 ·rw [if_neg c4] at H
  exact absurd H (by simp)
 rw [if_pos c4] at H
 have c4b0 := decide_eq_true c4; clear c4
 obtain rfl := Option.some.inj H
 obtain ⟨p101, q101, ad101, e101, hx101_0⟩ := zI (HR0.out) (a1) zD zD
 cases e101
 go_enter Try.func95, Try.ntmps95
 go_wp2
 go_ret
 exact ⟨by first | rfl | (simp; done) | (simp [*]; done), by repeat (first | exact Drawn0.refl _ | apply Drawn0.step)⟩
end Go.Proofs.Ytalnaafmonmlmaa.Q
end
section
namespace Go.Proofs.Ytalnaafmonmlmaa.Q
open Go.RowKit Go.Proofs.YtalnaafmonmlmaaW.PrintWords Go.Proofs.YtalnaafmonmlmaaW.PrintLast Go.Proofs.YtalnaafmonmlmaaW.PrintMore
attribute [local go_sem] max2_int min2_int max_two min_two max_three min_three max_four min_four
set_option linter.unusedVariables false
set_option linter.unusedSimpArgs false
set_option maxHeartbeats 8000000
set_option maxRecDepth 100000
def fp_Add.l0 : Nat → Int → List Int → List Int → List Int → Int → Int → Option (List Int)
 | 0, _, _, _, _, _, _ => none
 | k + 1, x0, x1, x2, x7, x16, x17 => if x17 < x16 then ((fp_at.f x1 x17).bind fun t104 => ((fp_at.f x2 x17).bind fun t105 => (if x0 = 0 then (none) else (if 0 ≤ x17 then (if x17 < (x7.length : Int) then (fp_Add.l0 k x0 x1 x2 (x7.set (x17 : Int).toNat (Int.tmod (wrap64 (t104 + t105)) x0)) x16 (wrap64 (x17 + 1))) else (none)) else (none))))) else ((fp_Trim.f k x7).bind fun t107 => (some t107))
def fp_Add.f (k : Nat) (a0 : Int) (l1 : List Int) (l2 : List Int) : Option (List Int) := if 0 ≤ (mx (l1.length : Int) (l2.length : Int)) then (if (mx (l1.length : Int) (l2.length : Int) : Int).toNat ≤ 35184372088832 then ((some (List.replicate (mx (l1.length : Int) (l2.length : Int) : Int).toNat 0 : List Int)).bind fun y101 => (fp_Add.l0 k a0 l1 l2 y101 (y101.length : Int) 0)) else (none)) else (none)
theorem fp_Add.mono_l : ∀ k, (∀ y0 y1 y2 y3 y4 y5, LeO (fp_Add.l0 k y0 y1 y2 y3 y4 y5) (fp_Add.l0 (k + 1) y0 y1 y2 y3 y4 y5))
 | 0 => fun _ _ _ _ _ _ r h => by simp [fp_Add.l0] at h
 | k + 1 => by
  have ih0 := fp_Add.mono_l k
  intro y0 y1 y2 y3 y4 y5
  unfold fp_Add.l0
  with_reducible repeat' first | exact ih0 _ _ _ _ _ _ | exact fp_Trim.mono _ _ | exact LeO.refl _ | exact LeO.none _ | refine LeO.ite ?_ ?_ | refine LeO.bind ?_ (fun _ => ?_)
theorem fp_Add.mono : ∀ a0 a1 a2 k, LeO (fp_Add.f k a0 a1 a2) (fp_Add.f (k + 1) a0 a1 a2) := by
 intro a0 a1 a2 k
 have ih0 := fp_Add.mono_l k
 unfold fp_Add.f
 with_reducible repeat' first | exact ih0 _ _ _ _ _ _ | exact fp_Trim.mono _ _ | exact LeO.refl _ | exact LeO.none _ | refine LeO.ite ?_ ?_ | refine LeO.bind ?_ (fun _ => ?_)
theorem fp_Add.calls (k : Nat) (a0 : Int) (A1 : Option Addr) (c1 : Nat) (l1 : List Int) (A2 : Option Addr) (c2 : Nat) (l2 : List Int) (r : List Int) (w : World) (hr1 : Kd.C (Kd.int .i64) w A1 l1.length l1) (hc1 : l1.length ≤ c1) (hr2 : Kd.C (Kd.int .i64) w A2 l2.length l2) (hc2 : l2.length ≤ c2) (h : fp_Add.f k a0 l1 l2 = some r) :
  Calls Try.prog 60 #[.int .i64 a0, .slice A1 l1.length c1, .slice A2 l2.length c2] w fun e w' => ∃ v0_ : Value, e = .returned (v0_) ∧ Kd.V (Kd.int .i64) 3 w' w.heap.size (fun k_ => (w.heap.size ≤ k_)) v0_ r ∧ Below w.heap.size w w' := by
 have HR1 := Aside0.mk hr1
 have HC1 := Aside0.mk hc1
 clear hr1 hc1
 have HR2 := Aside0.mk hr2
 have HC2 := Aside0.mk hc2
 clear hr2 hc2
 have HB := Aside0.mk (Below.refl w.heap.size w)
 have H := h; clear h; unfold fp_Add.f at H
 obtain ⟨ji4, hji4⟩ : ∃ j_ : Int, (mx (l1.length : Int) (l2.length : Int)) = j_ := ⟨_, rfl⟩
 first | rw [hji4] at H | simp only [hji4] at H
 (try (have hji4l : 0 ≤ ji4 := by (rw [← hji4]; unfold mx; (repeat' split) <;> omega)))
 (try (have hji4m : 0 ≤ ji4 := by omega))
 have hji4_ : (if (l1.length : Int) < (l2.length : Int) then (l2.length : Int) else (l1.length : Int)) = ji4 := hji4
 (try (have hji4_n := hji4_; simp only [Int.ofNat_lt] at hji4_n))
 by_cases c5 : 0 ≤ (ji4)
 rotate_left
 ·rw [if_neg c5] at H
  exact absurd H (by simp)
 rw [if_pos c5] at H
 have c5b0 := eq_true c5; have c5b1 := decide_eq_true c5; clear c5
 by_cases c6 : (ji4 : Int).toNat ≤ 35184372088832
 rotate_left
 ·rw [if_neg c6] at H
  exact absurd H (by simp)
 rw [if_pos c6] at H
 have c6b0 := eq_true c6; have c6b1 := decide_eq_true c6; clear c6
 obtain ⟨y101, Ny101, H⟩ := zY H
 have H' := Aside0.mk H
 clear H
 go_enter Try.func60, Try.ntmps60
 go_wp2_with (first | ((with_reducible refine gate_dst (N := 14) rfl ?_); refine Kd.R_make (Kd.int .i64) _ 3 rfl (N := 14) rfl 25 _ _ rfl ji4 rfl rfl Try.underlying25 (.int .i64 0) 8 info3 rfl (by decide) (by omega) 0 (ok := fun _ => True) (okp := fun _ => True) rfl (fun _ hk => hk) trivial zD (Nat.le_trans (Nat.mul_le_mul_right _ (zD : ji4.toNat ≤ 35184372088832)) (by omega)) (Below.refl _ _) (Nat.le_refl _) ?_; intro v102 w7 ho8 hb hg_ hnew_; clear hg_ hnew_; (first | rw [← Ny101.out] at ho8 | (simp only [Int.reduceToNat] at ho8; rw [← Ny101.out] at ho8)); have HO103 := Aside0.mk (Kd.R_lower (Kd.R_newM (M := fun k_ => (w.heap.size ≤ k_)) ho8 (zS HB) (fun k_ h_ => h_)) (zS HB)); replace HB := zBb HB hb; clear hb ho8; obtain ⟨Ao9, co9, eo9⟩ := Kd.R_slice HO103.out; subst eo9))
 go_loopg [17] k (fun kq v17 w' => ∃ (x7_1 : List Int) (x17_1 : Int), v17 = .int .i64 x17_1 ∧ Aside0 (fp_Add.l0 kq a0 l1 l2 x7_1 (y101.length : Int) x17_1 = some r) ∧ Aside0 (kq ≤ k) ∧ Aside0 (Kd.R (Kd.int .i64) 3 w' w.heap.size (fun k_ => (w.heap.size ≤ k_)) (.slice Ao9 y101.length co9) x7_1) ∧ Aside0 (Below w.heap.size w w'))
 case atStart => exact ⟨(y101), (0), zX, H', ⟨Nat.le_refl _⟩, ⟨zR (Kd.R_mono HO103.out (fun _ hk => hk.1))⟩, ⟨zT⟩⟩
 case round =>
  clear H'
  try clear c1; try clear c2; try clear p2; try clear c5; try clear c5b0; try clear c5b1; try clear c6; try clear c6b0; try clear c6b1
  obtain ⟨x7_1, x17_1, rfl, HA, HK1, HO_7, HB⟩ := hrel
  have hl7_1 := (Kd.R_reads' HO_7.out).1
  rw [hl7_1] at HO_7
  (try simp only [hl7_1])
  cases gk with
  | zero => exact absurd HA.out (by simp [fp_Add.l0])
  | succ k1 =>
   have H := HA.out
   clear HA
   simp only [fp_Add.l0] at H
   by_cases c10 : x17_1 < (y101.length : Int)
   rotate_left
   ·rw [if_neg c10] at H
    have c10b0 : decide (x17_1 < (y101.length : Int)) = false := decide_eq_false c10
    (try (have c10b0_hl7_1 := c10b0; simp only [hl7_1] at c10b0_hl7_1))
    clear c10
    obtain ⟨t107, A19, H⟩ := zO H
    obtain rfl := Option.some.inj H
    go_wp2_with (first | ((with_reducible refine gate_callee (f := 92) rfl ?_); refine zG (some 34) Try.func92 #[.slice Ao9 x7_1.length co9] ?_; (with_reducible refine (fp_Trim.calls k1 (fun k_ => some k_ = (.slice Ao9 x7_1.length co9 : Value).ownBlock) _ _ x7_1 t107 _ ?side1 A19.out).mono ?_); (case side1 => exact Kd.R_V (Kd.R_tight rfl (HO_7.out))); rintro e w20 ⟨v108, rfl, ho0, hb⟩; refine ⟨_, rfl, ?_⟩; have HO109 := Aside0.mk (Kd.V_lower (Kd.V_mono (ok' := fun k_ => (w.heap.size ≤ k_)) ho0 (fun k_ hk_ => Or.elim hk_ (fun hs_ => ((HO_7.out).1 k_ hs_.symm)) (fun hn_ => (Nat.le_trans (zS HB) hn_)))) (zS HB)); replace HO_7 := zRb HO_7 hb; replace HB := zBb HB hb; (try clear hb); (try clear ho0)))
    go_ret
    exact ⟨_, by first | rfl | (simp [errW_none, errW_some] <;> rfl) | (simp only [← hji4]; first | rfl | (simp [errW_none, errW_some] <;> rfl)) | (simp [*, errW_none, errW_some] <;> rfl), zV HO109.out, zT⟩
   rw [if_pos c10] at H
   have c10b0 : decide (x17_1 < (y101.length : Int)) = true := decide_eq_true c10
   (try (have c10b0_hl7_1 := c10b0; simp only [hl7_1] at c10b0_hl7_1))
   clear c10
   obtain ⟨t104, A11, H⟩ := zO H
   obtain ⟨t105, A12, H⟩ := zO H
   by_cases c13 : a0 = 0
   ·rw [if_pos c13] at H
    exact absurd H (by simp)
   rw [if_neg c13] at H
   obtain ⟨c13b0, c13b1⟩ := zU c13
   by_cases c14 : 0 ≤ x17_1
   rotate_left
   ·rw [if_neg c14] at H
    exact absurd H (by simp)
   rw [if_pos c14] at H
   have c14b0 := decide_eq_true c14; clear c14
   by_cases c15 : x17_1 < (x7_1.length : Int)
   rotate_left
   ·rw [if_neg c15] at H
    exact absurd H (by simp)
   rw [if_pos c15] at H
   have c15b0 : decide (x17_1 < (x7_1.length : Int)) = true := decide_eq_true c15
   (try (have c15b0_hl7_1 := c15b0; simp only [hl7_1] at c15b0_hl7_1))
   clear c15
   obtain ⟨y106, Ny106⟩ := zA ((x7_1.set (x17_1 : Int).toNat (Int.tmod (wrap64 (t104 + t105)) a0)) : List Int); rw [← Ny106.out] at H
   have H' := Aside0.mk H
   clear H
   go_wp2_with (first | ((with_reducible refine gate_callee (f := 95) rfl ?_); refine zG (some 24) Try.func95 #[.slice A1 l1.length c1, .int .i64 x17_1] ?_; (with_reducible refine (fp_at.calls _ _ l1 x17_1 t104 _ ?side1 ?side2 A11.out).mono ?_); (case side1 => exact zC (Kd.C_below HR1.out HB.out)); (case side2 => exact HC1.out); rintro e w' ⟨rfl, ⟨nd, rfl⟩⟩; refine ⟨_, rfl, ?_⟩; (try (rw [drewN_self wr]; generalize hq_ : World.drewN wr _ = wr; have n0_ : Aside0 (Kd.R (Kd.int .i64) 3 wr w.heap.size (fun k_ => (w.heap.size ≤ k_)) (.slice Ao9 x7_1.length co9) x7_1) := ⟨by rw [← hq_]; exact (zR HO_7.out)⟩; have n1_ : Aside0 (Below w.heap.size w wr) := ⟨by rw [← hq_]; exact (zT)⟩; clear HO_7 HB hq_; have HO_7 := n0_; have HB := n1_; clear n0_ n1_))) | ((with_reducible refine gate_callee (f := 95) rfl ?_); refine zG (some 27) Try.func95 #[.slice A2 l2.length c2, .int .i64 x17_1] ?_; (with_reducible refine (fp_at.calls _ _ l2 x17_1 t105 _ ?side1 ?side2 A12.out).mono ?_); (case side1 => exact zC (Kd.C_below HR2.out HB.out)); (case side2 => exact HC2.out); rintro e w' ⟨rfl, ⟨nd, rfl⟩⟩; refine ⟨_, rfl, ?_⟩; (try (rw [drewN_self wr]; generalize hq_ : World.drewN wr _ = wr; have n0_ : Aside0 (Kd.R (Kd.int .i64) 3 wr w.heap.size (fun k_ => (w.heap.size ≤ k_)) (.slice Ao9 x7_1.length co9) x7_1) := ⟨by rw [← hq_]; exact (zR HO_7.out)⟩; have n1_ : Aside0 (Below w.heap.size w wr) := ⟨by rw [← hq_]; exact (zT)⟩; clear HO_7 HB hq_; have HO_7 := n0_; have HB := n1_; clear n0_ n1_)); have p16 : 0 ≤ (x17_1 : Int) := zD; have q16 : (x17_1 : Int) < ((x7_1.length : Int) : Int) := zD; obtain ⟨go16, co16, eo16, gb16, gl16, cl16, HG16⟩ := Kd.R_form HO_7.out (by omega); (first | cases eo16 | (injection eo16 with ea_ en_ ec_; (first | subst ea_ | (injection ea_ with ea_; subst ea_)); subst ec_; clear en_)); have GB16 := Aside0.mk gb16; have GG16 := Aside0.mk HG16; clear gb16 gl16 HG16; obtain ⟨hx16_0, hf16_0⟩ := Kd.R_celln 0 HO_7.out (x17_1 : Int) p16 q16; replace p16 := eq_true p16; replace q16 := eq_true q16; obtain ⟨hy17_, hz17_⟩ := Kd.R_celln 0 HO_7.out (x17_1 : Int) zD zD; have HP17 := Kd.R_putg HO_7.out (x17_1 : Int) (Int.tmod (wrap64 (t104 + t105)) a0)) | ((with_reducible refine gate_store (t := 3) (p := 31) rfl ?_); refine store_event (t := 3) (p := 31) (v := ?vo_w18) (w1 := (wr.setCell ⟨go16, (x17_1 : Int).toNat, none⟩ (.int .i64 (Int.tmod (wrap64 (t104 + t105)) a0)))) ?hg ?ho ?hn ?hr ?_; (case ho => rfl); (case hg => rfl); (case hn => rfl); (case hr => go_simp <;> rfl); intro w18 hw; have hg : wr.grownBy w18 (some go16) := (by rw [hw]; exact HP17.2); have hp_ : Kd.R (Kd.int .i64) 3 w18 w.heap.size (fun k_ => (w.heap.size ≤ k_)) (.slice (some ⟨go16, 0, none⟩) x7_1.length co9) y106 := (by rw [hw, Ny106.out]; exact HP17.1); clear HP17; replace HO_7 := Aside0.mk (hp_); replace HB := Aside0.mk ((by rw [hw]; exact below_set (HB.out) GB16.out : Below w.heap.size w w18)); clear hg hw hp_))
   (try simp only [← hl7_1])
   (first | go_roundg k1 | (simp only [show ∀ g_ : Nat, ({ block := g_, off := (ji4).toNat } : Addr) = ({ block := g_, off := 0 } : Addr).add (ji4).toNat from fun g_ => by simp [Addr.add]]; go_roundg k1))
   case measure => have := HK1.out; omega
   case rel => exact ⟨(y106), (wrap64 (x17_1 + 1)), zX, H', ⟨by have := HK1.out; omega⟩, ⟨by (try simp only [hl7_1]); (with_reducible repeat (first | apply Kd.R_alloc | apply Kd.R_drewN | apply Kd.R_drew)); exact HO_7.out⟩, ⟨zT⟩⟩
end Go.Proofs.Ytalnaafmonmlmaa.Q
end
section
namespace Go.Proofs.Ytalnaafmonmlmaa.Q
open Go.RowKit Go.Proofs.YtalnaafmonmlmaaW.PrintWords Go.Proofs.YtalnaafmonmlmaaW.PrintLast Go.Proofs.YtalnaafmonmlmaaW.PrintMore
attribute [local go_sem] max2_int min2_int max_two min_two max_three min_three max_four min_four
set_option linter.unusedVariables false
set_option linter.unusedSimpArgs false
set_option maxHeartbeats 8000000
set_option maxRecDepth 100000
def fp_Sub.l0 : Nat → Int → List Int → List Int → List Int → Int → Int → Option (List Int)
 | 0, _, _, _, _, _, _ => none
 | k + 1, x0, x1, x2, x7, x16, x17 => if x17 < x16 then ((fp_at.f x1 x17).bind fun t104 => ((fp_at.f x2 x17).bind fun t105 => (if x0 = 0 then (none) else (if 0 ≤ x17 then (if x17 < (x7.length : Int) then (fp_Sub.l0 k x0 x1 x2 (x7.set (x17 : Int).toNat (Int.tmod (wrap64 ((wrap64 (t104 + x0)) - t105)) x0)) x16 (wrap64 (x17 + 1))) else (none)) else (none))))) else ((fp_Trim.f k x7).bind fun t107 => (some t107))
def fp_Sub.f (k : Nat) (a0 : Int) (l1 : List Int) (l2 : List Int) : Option (List Int) := if 0 ≤ (mx (l1.length : Int) (l2.length : Int)) then (if (mx (l1.length : Int) (l2.length : Int) : Int).toNat ≤ 35184372088832 then ((some (List.replicate (mx (l1.length : Int) (l2.length : Int) : Int).toNat 0 : List Int)).bind fun y101 => (fp_Sub.l0 k a0 l1 l2 y101 (y101.length : Int) 0)) else (none)) else (none)
theorem fp_Sub.mono_l : ∀ k, (∀ y0 y1 y2 y3 y4 y5, LeO (fp_Sub.l0 k y0 y1 y2 y3 y4 y5) (fp_Sub.l0 (k + 1) y0 y1 y2 y3 y4 y5))
 | 0 => fun _ _ _ _ _ _ r h => by simp [fp_Sub.l0] at h
 | k + 1 => by
  have ih0 := fp_Sub.mono_l k
  intro y0 y1 y2 y3 y4 y5
  unfold fp_Sub.l0
  with_reducible repeat' first | exact ih0 _ _ _ _ _ _ | exact fp_Trim.mono _ _ | exact LeO.refl _ | exact LeO.none _ | refine LeO.ite ?_ ?_ | refine LeO.bind ?_ (fun _ => ?_)
theorem fp_Sub.mono : ∀ a0 a1 a2 k, LeO (fp_Sub.f k a0 a1 a2) (fp_Sub.f (k + 1) a0 a1 a2) := by
 intro a0 a1 a2 k
 have ih0 := fp_Sub.mono_l k
 unfold fp_Sub.f
 with_reducible repeat' first | exact ih0 _ _ _ _ _ _ | exact fp_Trim.mono _ _ | exact LeO.refl _ | exact LeO.none _ | refine LeO.ite ?_ ?_ | refine LeO.bind ?_ (fun _ => ?_)
theorem fp_Sub.calls (k : Nat) (a0 : Int) (A1 : Option Addr) (c1 : Nat) (l1 : List Int) (A2 : Option Addr) (c2 : Nat) (l2 : List Int) (r : List Int) (w : World) (hr1 : Kd.C (Kd.int .i64) w A1 l1.length l1) (hc1 : l1.length ≤ c1) (hr2 : Kd.C (Kd.int .i64) w A2 l2.length l2) (hc2 : l2.length ≤ c2) (h : fp_Sub.f k a0 l1 l2 = some r) :
  Calls Try.prog 61 #[.int .i64 a0, .slice A1 l1.length c1, .slice A2 l2.length c2] w fun e w' => ∃ v0_ : Value, e = .returned (v0_) ∧ Kd.V (Kd.int .i64) 3 w' w.heap.size (fun k_ => (w.heap.size ≤ k_)) v0_ r ∧ Below w.heap.size w w' := by
 have HR1 := Aside0.mk hr1
 have HC1 := Aside0.mk hc1
 clear hr1 hc1
 have HR2 := Aside0.mk hr2
 have HC2 := Aside0.mk hc2
 clear hr2 hc2
 have HB := Aside0.mk (Below.refl w.heap.size w)
 have H := h; clear h; unfold fp_Sub.f at H
 obtain ⟨ji4, hji4⟩ : ∃ j_ : Int, (mx (l1.length : Int) (l2.length : Int)) = j_ := ⟨_, rfl⟩
 first | rw [hji4] at H | simp only [hji4] at H
 (try (have hji4l : 0 ≤ ji4 := by (rw [← hji4]; unfold mx; (repeat' split) <;> omega)))
 (try (have hji4m : 0 ≤ ji4 := by omega))
 have hji4_ : (if (l1.length : Int) < (l2.length : Int) then (l2.length : Int) else (l1.length : Int)) = ji4 := hji4
 (try (have hji4_n := hji4_; simp only [Int.ofNat_lt] at hji4_n))
 by_cases c5 : 0 ≤ (ji4)
 rotate_left
 ·rw [if_neg c5] at H
  exact absurd H (by simp)
 rw [if_pos c5] at H
 have c5b0 := eq_true c5; have c5b1 := decide_eq_true c5; clear c5
 by_cases c6 : (ji4 : Int).toNat ≤ 35184372088832
 rotate_left
 ·rw [if_neg c6] at H
  exact absurd H (by simp)
 rw [if_pos c6] at H
 have c6b0 := eq_true c6; have c6b1 := decide_eq_true c6; clear c6
 obtain ⟨y101, Ny101, H⟩ := zY H
 have H' := Aside0.mk H
 clear H
 go_enter Try.func61, Try.ntmps61
 go_wp2_with (first | ((with_reducible refine gate_dst (N := 14) rfl ?_); refine Kd.R_make (Kd.int .i64) _ 3 rfl (N := 14) rfl 25 _ _ rfl ji4 rfl rfl Try.underlying25 (.int .i64 0) 8 info3 rfl (by decide) (by omega) 0 (ok := fun _ => True) (okp := fun _ => True) rfl (fun _ hk => hk) trivial zD (Nat.le_trans (Nat.mul_le_mul_right _ (zD : ji4.toNat ≤ 35184372088832)) (by omega)) (Below.refl _ _) (Nat.le_refl _) ?_; intro v102 w7 ho8 hb hg_ hnew_; clear hg_ hnew_; (first | rw [← Ny101.out] at ho8 | (simp only [Int.reduceToNat] at ho8; rw [← Ny101.out] at ho8)); have HO103 := Aside0.mk (Kd.R_lower (Kd.R_newM (M := fun k_ => (w.heap.size ≤ k_)) ho8 (zS HB) (fun k_ h_ => h_)) (zS HB)); replace HB := zBb HB hb; clear hb ho8; obtain ⟨Ao9, co9, eo9⟩ := Kd.R_slice HO103.out; subst eo9))
 go_loopg [17] k (fun kq v17 w' => ∃ (x7_1 : List Int) (x17_1 : Int), v17 = .int .i64 x17_1 ∧ Aside0 (fp_Sub.l0 kq a0 l1 l2 x7_1 (y101.length : Int) x17_1 = some r) ∧ Aside0 (kq ≤ k) ∧ Aside0 (Kd.R (Kd.int .i64) 3 w' w.heap.size (fun k_ => (w.heap.size ≤ k_)) (.slice Ao9 y101.length co9) x7_1) ∧ Aside0 (Below w.heap.size w w'))
 case atStart => exact ⟨(y101), (0), zX, H', ⟨Nat.le_refl _⟩, ⟨zR (Kd.R_mono HO103.out (fun _ hk => hk.1))⟩, ⟨zT⟩⟩
 case round =>
  clear H'
  try clear c1; try clear c2; try clear p2; try clear c5; try clear c5b0; try clear c5b1; try clear c6; try clear c6b0; try clear c6b1
  obtain ⟨x7_1, x17_1, rfl, HA, HK1, HO_7, HB⟩ := hrel
  have hl7_1 := (Kd.R_reads' HO_7.out).1
  rw [hl7_1] at HO_7
  (try simp only [hl7_1])
  cases gk with
  | zero => exact absurd HA.out (by simp [fp_Sub.l0])
  | succ k1 =>
   have H := HA.out
   clear HA
   simp only [fp_Sub.l0] at H
   by_cases c10 : x17_1 < (y101.length : Int)
   rotate_left
   ·rw [if_neg c10] at H
    have c10b0 : decide (x17_1 < (y101.length : Int)) = false := decide_eq_false c10
    (try (have c10b0_hl7_1 := c10b0; simp only [hl7_1] at c10b0_hl7_1))
    clear c10
    obtain ⟨t107, A19, H⟩ := zO H
    obtain rfl := Option.some.inj H
    go_wp2_with (first | ((with_reducible refine gate_callee (f := 92) rfl ?_); refine zG (some 36) Try.func92 #[.slice Ao9 x7_1.length co9] ?_; (with_reducible refine (fp_Trim.calls k1 (fun k_ => some k_ = (.slice Ao9 x7_1.length co9 : Value).ownBlock) _ _ x7_1 t107 _ ?side1 A19.out).mono ?_); (case side1 => exact Kd.R_V (Kd.R_tight rfl (HO_7.out))); rintro e w20 ⟨v108, rfl, ho0, hb⟩; refine ⟨_, rfl, ?_⟩; have HO109 := Aside0.mk (Kd.V_lower (Kd.V_mono (ok' := fun k_ => (w.heap.size ≤ k_)) ho0 (fun k_ hk_ => Or.elim hk_ (fun hs_ => ((HO_7.out).1 k_ hs_.symm)) (fun hn_ => (Nat.le_trans (zS HB) hn_)))) (zS HB)); replace HO_7 := zRb HO_7 hb; replace HB := zBb HB hb; (try clear hb); (try clear ho0)))
    go_ret
    exact ⟨_, by first | rfl | (simp [errW_none, errW_some] <;> rfl) | (simp only [← hji4]; first | rfl | (simp [errW_none, errW_some] <;> rfl)) | (simp [*, errW_none, errW_some] <;> rfl), zV HO109.out, zT⟩
   rw [if_pos c10] at H
   have c10b0 : decide (x17_1 < (y101.length : Int)) = true := decide_eq_true c10
   (try (have c10b0_hl7_1 := c10b0; simp only [hl7_1] at c10b0_hl7_1))
   clear c10
   obtain ⟨t104, A11, H⟩ := zO H
   obtain ⟨t105, A12, H⟩ := zO H
   by_cases c13 : a0 = 0
   ·rw [if_pos c13] at H
    exact absurd H (by simp)
   rw [if_neg c13] at H
   obtain ⟨c13b0, c13b1⟩ := zU c13
   by_cases c14 : 0 ≤ x17_1
   rotate_left
   ·rw [if_neg c14] at H
    exact absurd H (by simp)
   rw [if_pos c14] at H
   have c14b0 := decide_eq_true c14; clear c14
   by_cases c15 : x17_1 < (x7_1.length : Int)
   rotate_left
   ·rw [if_neg c15] at H
    exact absurd H (by simp)
   rw [if_pos c15] at H
   have c15b0 : decide (x17_1 < (x7_1.length : Int)) = true := decide_eq_true c15
   (try (have c15b0_hl7_1 := c15b0; simp only [hl7_1] at c15b0_hl7_1))
   clear c15
   obtain ⟨y106, Ny106⟩ := zA ((x7_1.set (x17_1 : Int).toNat (Int.tmod (wrap64 ((wrap64 (t104 + a0)) - t105)) a0)) : List Int); rw [← Ny106.out] at H
   have H' := Aside0.mk H
   clear H
   go_wp2_with (first | ((with_reducible refine gate_callee (f := 95) rfl ?_); refine zG (some 24) Try.func95 #[.slice A1 l1.length c1, .int .i64 x17_1] ?_; (with_reducible refine (fp_at.calls _ _ l1 x17_1 t104 _ ?side1 ?side2 A11.out).mono ?_); (case side1 => exact zC (Kd.C_below HR1.out HB.out)); (case side2 => exact HC1.out); rintro e w' ⟨rfl, ⟨nd, rfl⟩⟩; refine ⟨_, rfl, ?_⟩; (try (rw [drewN_self wr]; generalize hq_ : World.drewN wr _ = wr; have n0_ : Aside0 (Kd.R (Kd.int .i64) 3 wr w.heap.size (fun k_ => (w.heap.size ≤ k_)) (.slice Ao9 x7_1.length co9) x7_1) := ⟨by rw [← hq_]; exact (zR HO_7.out)⟩; have n1_ : Aside0 (Below w.heap.size w wr) := ⟨by rw [← hq_]; exact (zT)⟩; clear HO_7 HB hq_; have HO_7 := n0_; have HB := n1_; clear n0_ n1_))) | ((with_reducible refine gate_callee (f := 95) rfl ?_); refine zG (some 29) Try.func95 #[.slice A2 l2.length c2, .int .i64 x17_1] ?_; (with_reducible refine (fp_at.calls _ _ l2 x17_1 t105 _ ?side1 ?side2 A12.out).mono ?_); (case side1 => exact zC (Kd.C_below HR2.out HB.out)); (case side2 => exact HC2.out); rintro e w' ⟨rfl, ⟨nd, rfl⟩⟩; refine ⟨_, rfl, ?_⟩; (try (rw [drewN_self wr]; generalize hq_ : World.drewN wr _ = wr; have n0_ : Aside0 (Kd.R (Kd.int .i64) 3 wr w.heap.size (fun k_ => (w.heap.size ≤ k_)) (.slice Ao9 x7_1.length co9) x7_1) := ⟨by rw [← hq_]; exact (zR HO_7.out)⟩; have n1_ : Aside0 (Below w.heap.size w wr) := ⟨by rw [← hq_]; exact (zT)⟩; clear HO_7 HB hq_; have HO_7 := n0_; have HB := n1_; clear n0_ n1_)); have p16 : 0 ≤ (x17_1 : Int) := zD; have q16 : (x17_1 : Int) < ((x7_1.length : Int) : Int) := zD; obtain ⟨go16, co16, eo16, gb16, gl16, cl16, HG16⟩ := Kd.R_form HO_7.out (by omega); (first | cases eo16 | (injection eo16 with ea_ en_ ec_; (first | subst ea_ | (injection ea_ with ea_; subst ea_)); subst ec_; clear en_)); have GB16 := Aside0.mk gb16; have GG16 := Aside0.mk HG16; clear gb16 gl16 HG16; obtain ⟨hx16_0, hf16_0⟩ := Kd.R_celln 0 HO_7.out (x17_1 : Int) p16 q16; replace p16 := eq_true p16; replace q16 := eq_true q16; obtain ⟨hy17_, hz17_⟩ := Kd.R_celln 0 HO_7.out (x17_1 : Int) zD zD; have HP17 := Kd.R_putg HO_7.out (x17_1 : Int) (Int.tmod (wrap64 ((wrap64 (t104 + a0)) - t105)) a0)) | ((with_reducible refine gate_store (t := 3) (p := 33) rfl ?_); refine store_event (t := 3) (p := 33) (v := ?vo_w18) (w1 := (wr.setCell ⟨go16, (x17_1 : Int).toNat, none⟩ (.int .i64 (Int.tmod (wrap64 ((wrap64 (t104 + a0)) - t105)) a0)))) ?hg ?ho ?hn ?hr ?_; (case ho => rfl); (case hg => rfl); (case hn => rfl); (case hr => go_simp <;> rfl); intro w18 hw; have hg : wr.grownBy w18 (some go16) := (by rw [hw]; exact HP17.2); have hp_ : Kd.R (Kd.int .i64) 3 w18 w.heap.size (fun k_ => (w.heap.size ≤ k_)) (.slice (some ⟨go16, 0, none⟩) x7_1.length co9) y106 := (by rw [hw, Ny106.out]; exact HP17.1); clear HP17; replace HO_7 := Aside0.mk (hp_); replace HB := Aside0.mk ((by rw [hw]; exact below_set (HB.out) GB16.out : Below w.heap.size w w18)); clear hg hw hp_))
   (try simp only [← hl7_1])
   (first | go_roundg k1 | (simp only [show ∀ g_ : Nat, ({ block := g_, off := (ji4).toNat } : Addr) = ({ block := g_, off := 0 } : Addr).add (ji4).toNat from fun g_ => by simp [Addr.add]]; go_roundg k1))
   case measure => have := HK1.out; omega
   case rel => exact ⟨(y106), (wrap64 (x17_1 + 1)), zX, H', ⟨by have := HK1.out; omega⟩, ⟨by (try simp only [hl7_1]); (with_reducible repeat (first | apply Kd.R_alloc | apply Kd.R_drewN | apply Kd.R_drew)); exact HO_7.out⟩, ⟨zT⟩⟩
end Go.Proofs.Ytalnaafmonmlmaa.Q
end
section
namespace Go.Proofs.Ytalnaafmonmlmaa.Q
open Go.RowKit Go.Proofs.YtalnaafmonmlmaaW.PrintWords Go.Proofs.YtalnaafmonmlmaaW.PrintLast Go.Proofs.YtalnaafmonmlmaaW.PrintMore
attribute [local go_sem] max2_int min2_int max_two min_two max_three min_three max_four min_four
set_option linter.unusedVariables false
set_option linter.unusedSimpArgs false
set_option maxHeartbeats 8000000
set_option maxRecDepth 100000
def galoisref09_Add.l0 : Nat → Int → List Int → List Int → List Int → Int → Option (List Int)
 | 0, _, _, _, _, _ => none
 | k + 1, x0, x1, x2, x7, x8 => if x8 < (x7.length : Int) then (if x8 < (x1.length : Int) then (if 0 ≤ x8 then ((some (x7.set (x8 : Int).toNat (wrap64 ((rd x7 x8) + (rd x1 x8))) : List Int)).bind fun y109 => (if x8 < (x2.length : Int) then ((some (y109.set (x8 : Int).toNat (wrap64 ((rd y109 x8) + (rd x2 x8))) : List Int)).bind fun y112 => (if x0 = 0 then (none) else (galoisref09_Add.l0 k x0 x1 x2 (y112.set (x8 : Int).toNat (Int.tmod (rd y112 x8) x0)) (wrap64 (x8 + 1))))) else (if x0 = 0 then (none) else (galoisref09_Add.l0 k x0 x1 x2 (y109.set (x8 : Int).toNat (Int.tmod (rd y109 x8) x0)) (wrap64 (x8 + 1)))))) else (none)) else (if x8 < (x2.length : Int) then (if 0 ≤ x8 then ((some (x7.set (x8 : Int).toNat (wrap64 ((rd x7 x8) + (rd x2 x8))) : List Int)).bind fun y119 => (if x0 = 0 then (none) else (galoisref09_Add.l0 k x0 x1 x2 (y119.set (x8 : Int).toNat (Int.tmod (rd y119 x8) x0)) (wrap64 (x8 + 1))))) else (none)) else (if 0 ≤ x8 then (if x0 = 0 then (none) else (galoisref09_Add.l0 k x0 x1 x2 (x7.set (x8 : Int).toNat (Int.tmod (rd x7 x8) x0)) (wrap64 (x8 + 1)))) else (none)))) else ((galoisref09_Trim.f k x7).bind fun t104 => (some t104))
def galoisref09_Add.f (k : Nat) (a0 : Int) (l1 : List Int) (l2 : List Int) : Option (List Int) := if 0 ≤ (mx (l1.length : Int) (l2.length : Int)) then (if (mx (l1.length : Int) (l2.length : Int) : Int).toNat ≤ 35184372088832 then (galoisref09_Add.l0 k a0 l1 l2 (List.replicate (mx (l1.length : Int) (l2.length : Int) : Int).toNat 0) 0) else (none)) else (none)
theorem galoisref09_Add.mono_l : ∀ k, (∀ y0 y1 y2 y3 y4, LeO (galoisref09_Add.l0 k y0 y1 y2 y3 y4) (galoisref09_Add.l0 (k + 1) y0 y1 y2 y3 y4))
 | 0 => fun _ _ _ _ _ r h => by simp [galoisref09_Add.l0] at h
 | k + 1 => by
  have ih0 := galoisref09_Add.mono_l k
  intro y0 y1 y2 y3 y4
  unfold galoisref09_Add.l0
  with_reducible repeat' first | exact ih0 _ _ _ _ _ | exact galoisref09_Trim.mono _ _ | exact LeO.refl _ | exact LeO.none _ | refine LeO.ite ?_ ?_ | refine LeO.bind ?_ (fun _ => ?_)
theorem galoisref09_Add.mono : ∀ a0 a1 a2 k, LeO (galoisref09_Add.f k a0 a1 a2) (galoisref09_Add.f (k + 1) a0 a1 a2) := by
 intro a0 a1 a2 k
 have ih0 := galoisref09_Add.mono_l k
 unfold galoisref09_Add.f
 with_reducible repeat' first | exact ih0 _ _ _ _ _ | exact galoisref09_Trim.mono _ _ | exact LeO.refl _ | exact LeO.none _ | refine LeO.ite ?_ ?_ | refine LeO.bind ?_ (fun _ => ?_)
def galoisref09_Add.T6 : Bool × List (List Nat × List Nat) := (true, [([], []), ([], []), ([], []), ([], []), ([2, 3], [2, 3]), ([4], [4]), ([], []), ([], []), ([6, 7], [6, 7]), ([8], [8]), ([5, 9], [5, 9]), ([0, 1, 0, 1, 2, 3, 4, 5, 6, 7, 8, 9, 10], [0, 1]), ([11, 10, 0, 1, 2, 3, 4, 5, 6, 7, 8, 9, 10], [10, 11])])
def galoisref09_Add.B6 : List Nat := [0, 0, 0, 0, 12, 28, 0, 0, 192, 448, 1020, 2047, 4095]
theorem galoisref09_Add.tab6 : rtab .any (opsOf Try.f64 6) = galoisref09_Add.T6 := by kernel_rfl
theorem galoisref09_Add.bits6 : waitsOk galoisref09_Add.T6.2 galoisref09_Add.B6 = true := by kernel_rfl
def galoisref09_Add.T8 : Bool × List (List Nat × List Nat) := (true, [([], []), ([], []), ([], []), ([], []), ([2, 3], [2, 3]), ([4], [4]), ([], []), ([], []), ([6, 7], [6, 7]), ([8], [8]), ([5, 9], [5, 9]), ([0, 1, 0, 1, 2, 3, 4, 5, 6, 7, 8, 9, 10], [0, 1]), ([11, 10, 0, 1, 2, 3, 4, 5, 6, 7, 8, 9, 10], [10, 11])])
def galoisref09_Add.B8 : List Nat := [0, 0, 0, 0, 12, 28, 0, 0, 192, 448, 1020, 2047, 4095]
theorem galoisref09_Add.tab8 : rtab .any (opsOf Try.f64 8) = galoisref09_Add.T8 := by kernel_rfl
theorem galoisref09_Add.bits8 : waitsOk galoisref09_Add.T8.2 galoisref09_Add.B8 = true := by kernel_rfl
theorem galoisref09_Add.calls (k : Nat) (a0 : Int) (A1 : Option Addr) (c1 : Nat) (l1 : List Int) (A2 : Option Addr) (c2 : Nat) (l2 : List Int) (r : List Int) (w : World) (hr1 : Kd.C (Kd.int .i64) w A1 l1.length l1) (hc1 : l1.length ≤ c1) (hr2 : Kd.C (Kd.int .i64) w A2 l2.length l2) (hc2 : l2.length ≤ c2) (h : galoisref09_Add.f k a0 l1 l2 = some r) :
  Calls Try.prog 64 #[.int .i64 a0, .slice A1 l1.length c1, .slice A2 l2.length c2] w fun e w' => ∃ v0_ : Value, e = .returned (v0_) ∧ Kd.V (Kd.int .i64) 3 w' w.heap.size (fun k_ => (w.heap.size ≤ k_)) v0_ r ∧ Below w.heap.size w w' := by
 have HR1 := Aside0.mk hr1
 have HC1 := Aside0.mk hc1
 clear hr1 hc1
 have HR2 := Aside0.mk hr2
 have HC2 := Aside0.mk hc2
 clear hr2 hc2
 have HB := Aside0.mk (Below.refl w.heap.size w)
 have H := h; clear h; unfold galoisref09_Add.f at H
 obtain ⟨ji4, hji4⟩ : ∃ j_ : Int, (mx (l1.length : Int) (l2.length : Int)) = j_ := ⟨_, rfl⟩
 first | rw [hji4] at H | simp only [hji4] at H
 (try (have hji4l : 0 ≤ ji4 := by (rw [← hji4]; unfold mx; (repeat' split) <;> omega)))
 (try (have hji4m : 0 ≤ ji4 := by omega))
 have hji4_ : (if (l1.length : Int) < (l2.length : Int) then (l2.length : Int) else (l1.length : Int)) = ji4 := hji4
 (try (have hji4_n := hji4_; simp only [Int.ofNat_lt] at hji4_n))
 by_cases c5 : 0 ≤ (ji4)
 rotate_left
 ·rw [if_neg c5] at H
  exact absurd H (by simp)
 rw [if_pos c5] at H
 have c5b0 := eq_true c5; have c5b1 := decide_eq_true c5; clear c5
 by_cases c6 : (ji4 : Int).toNat ≤ 35184372088832
 rotate_left
 ·rw [if_neg c6] at H
  exact absurd H (by simp)
 rw [if_pos c6] at H
 have c6b0 := eq_true c6; have c6b1 := decide_eq_true c6; clear c6
 obtain ⟨y101, Ny101⟩ := zA ((List.replicate (ji4 : Int).toNat 0) : List Int); rw [← Ny101.out] at H
 have H' := Aside0.mk H
 clear H
 go_enter Try.func64, Try.ntmps64
 go_wp2_with (first | ((with_reducible refine gate_dst (N := 14) rfl ?_); refine Kd.R_make (Kd.int .i64) _ 3 rfl (N := 14) rfl 25 _ _ rfl ji4 rfl rfl Try.underlying25 (.int .i64 0) 8 info3 rfl (by decide) (by omega) 0 (ok := fun _ => True) (okp := fun _ => True) rfl (fun _ hk => hk) trivial zD (Nat.le_trans (Nat.mul_le_mul_right _ (zD : ji4.toNat ≤ 35184372088832)) (by omega)) (Below.refl _ _) (Nat.le_refl _) ?_; intro v102 w7 ho8 hb hg_ hnew_; clear hg_ hnew_; (first | rw [← Ny101.out] at ho8 | (simp only [Int.reduceToNat] at ho8; rw [← Ny101.out] at ho8)); have HO103 := Aside0.mk (Kd.R_lower (Kd.R_newM (M := fun k_ => (w.heap.size ≤ k_)) ho8 (zS HB) (fun k_ h_ => h_)) (zS HB)); replace HB := zBb HB hb; clear hb ho8))
 go_loopg [8] k (fun kq v8 w' => ∃ (x7_1 : List Int) (x8_1 : Int), v8 = .int .i64 x8_1 ∧ Aside0 (galoisref09_Add.l0 kq a0 l1 l2 x7_1 x8_1 = some r) ∧ Aside0 (kq ≤ k) ∧ Aside0 (Kd.R (Kd.int .i64) 3 w' w.heap.size (fun k_ => (w.heap.size ≤ k_)) v102 x7_1) ∧ Aside0 (Below w.heap.size w w'))
 case atStart => exact ⟨(y101), (0), zX, H', ⟨Nat.le_refl _⟩, ⟨zR (Kd.R_mono HO103.out (fun _ hk => hk.1))⟩, ⟨zT⟩⟩
 case round =>
  clear H'
  try clear c1; try clear c2; try clear p2; try clear c5; try clear c5b0; try clear c5b1; try clear c6; try clear c6b0; try clear c6b1
  obtain ⟨x7_1, x8_1, rfl, HA, HK1, HO_7, HB⟩ := hrel
  cases gk with
  | zero => exact absurd HA.out (by simp [galoisref09_Add.l0])
  | succ k1 =>
   have H := HA.out
   clear HA
   simp only [galoisref09_Add.l0] at H
   by_cases c9 : x8_1 < (x7_1.length : Int)
   rotate_left
   ·rw [if_neg c9] at H
    have c9b0 := decide_eq_false c9; clear c9
    obtain ⟨t104, A51, H⟩ := zO H
    obtain rfl := Option.some.inj H
    obtain ⟨Ao52, co52, eo52⟩ := Kd.R_slice HO_7.out
    subst eo52
    go_wp2_with (first | ((with_reducible refine gate_callee (f := 41) rfl ?_); refine zG (some 63) Try.func41 #[.slice Ao52 x7_1.length co52] ?_; (with_reducible refine (galoisref09_Trim.calls k1 (fun k_ => some k_ = (.slice Ao52 x7_1.length co52 : Value).ownBlock) _ _ x7_1 t104 _ ?side1 A51.out).mono ?_); (case side1 => exact Kd.R_V (Kd.R_tight rfl (HO_7.out))); rintro e w53 ⟨v105, rfl, ho0, hb⟩; refine ⟨_, rfl, ?_⟩; have HO106 := Aside0.mk (Kd.V_lower (Kd.V_mono (ok' := fun k_ => (w.heap.size ≤ k_)) ho0 (fun k_ hk_ => Or.elim hk_ (fun hs_ => ((HO_7.out).1 k_ hs_.symm)) (fun hn_ => (Nat.le_trans (zS HB) hn_)))) (zS HB)); replace HO_7 := zRb HO_7 hb; replace HB := zBb HB hb; (try clear hb); (try clear ho0)))
    go_ret
    exact ⟨_, by first | rfl | (simp [errW_none, errW_some] <;> rfl) | (simp only [← hji4]; first | rfl | (simp [errW_none, errW_some] <;> rfl)) | (simp [*, errW_none, errW_some] <;> rfl), zV HO106.out, zT⟩
   rw [if_pos c9] at H
   have c9b0 := decide_eq_true c9; clear c9
   by_cases c10 : x8_1 < (l1.length : Int)
   rotate_left
   ·rw [if_neg c10] at H
    have c10b0 := decide_eq_false c10; clear c10
    by_cases c34 : x8_1 < (l2.length : Int)
    rotate_left
    ·rw [if_neg c34] at H
     have c34b0 := decide_eq_false c34; clear c34
     by_cases c45 : 0 ≤ x8_1
     rotate_left
     ·rw [if_neg c45] at H
      exact absurd H (by simp)
     rw [if_pos c45] at H
     have c45b0 := decide_eq_true c45; clear c45
     by_cases c46 : a0 = 0
     ·rw [if_pos c46] at H
      exact absurd H (by simp)
     rw [if_neg c46] at H
     obtain ⟨c46b0, c46b1⟩ := zU c46
     obtain ⟨y123, Ny123⟩ := zA ((x7_1.set (x8_1 : Int).toNat (Int.tmod (rd x7_1 x8_1) a0)) : List Int); rw [← Ny123.out] at H
     have H' := Aside0.mk H
     clear H
     obtain ⟨Ao48, co48, eo48⟩ := Kd.R_slice HO_7.out
     subst eo48
     obtain ⟨p122, q122, ad122, e122, hx122_0⟩ := zI ((Kd.R_reads' HO_7.out).2.2) (x8_1) zD zD
     cases e122
     have p47 : 0 ≤ (x8_1 : Int) := zD
     have q47 : (x8_1 : Int) < ((x7_1.length : Int) : Int) := zD
     obtain ⟨go47, co47, eo47, gb47, gl47, cl47, HG47⟩ := Kd.R_form HO_7.out (by omega)
     (first | cases eo47 | (injection eo47 with ea_ en_ ec_; (first | subst ea_ | (injection ea_ with ea_; subst ea_)); subst ec_; clear en_))
     have GB47 := Aside0.mk gb47
     have GG47 := Aside0.mk HG47
     clear gb47 gl47 HG47
     (first | simp only [add_plain] at hx122_0 | skip)
     obtain ⟨hx47_0, hf47_0⟩ := Kd.R_celln 0 HO_7.out (x8_1 : Int) p47 q47
     replace p47 := eq_true p47
     replace q47 := eq_true q47
     have HP49 := Kd.R_putg HO_7.out (x8_1 : Int) (Int.tmod (rd x7_1 x8_1) a0)
     go_wp2_with (first | ((with_reducible refine gate_store (t := 3) (p := 61) rfl ?_); refine store_event (t := 3) (p := 61) (v := ?vo_w50) (w1 := (wr.setCell ⟨go47, (x8_1 : Int).toNat, none⟩ (.int .i64 (Int.tmod (rd x7_1 x8_1) a0)))) ?hg ?ho ?hn ?hr ?_; (case ho => rfl); (case hg => rfl); (case hn => rfl); (case hr => go_simp <;> rfl); intro w50 hw; have hg : wr.grownBy w50 (some go47) := (by rw [hw]; exact HP49.2); have hp_ : Kd.R (Kd.int .i64) 3 w50 w.heap.size (fun k_ => (w.heap.size ≤ k_)) (.slice (some ⟨go47, 0, none⟩) x7_1.length co48) y123 := (by rw [hw, Ny123.out]; exact HP49.1); clear HP49; replace HO_7 := Aside0.mk (hp_); replace HB := Aside0.mk ((by rw [hw]; exact below_set (HB.out) GB47.out : Below w.heap.size w w50)); clear hg hw hp_))
     (first | go_roundg k1 | (simp only [show ∀ g_ : Nat, ({ block := g_, off := (ji4).toNat } : Addr) = ({ block := g_, off := 0 } : Addr).add (ji4).toNat from fun g_ => by simp [Addr.add]]; go_roundg k1))
     case measure => have := HK1.out; omega
     case rel => exact ⟨(y123), (wrap64 (x8_1 + 1)), zX, H', ⟨by have := HK1.out; omega⟩, ⟨zR HO_7.out⟩, ⟨zT⟩⟩
    rw [if_pos c34] at H
    have c34b0 := decide_eq_true c34; clear c34
    by_cases c35 : 0 ≤ x8_1
    rotate_left
    ·rw [if_neg c35] at H
     exact absurd H (by simp)
    rw [if_pos c35] at H
    have c35b0 := decide_eq_true c35; clear c35
    obtain ⟨y119, Ny119, H⟩ := zY H
    by_cases c37 : a0 = 0
    ·rw [if_pos c37] at H
     exact absurd H (by simp)
    rw [if_neg c37] at H
    obtain ⟨c37b0, c37b1⟩ := zU c37
    obtain ⟨y121, Ny121⟩ := zA ((y119.set (x8_1 : Int).toNat (Int.tmod (rd y119 x8_1) a0)) : List Int); rw [← Ny121.out] at H
    have H' := Aside0.mk H
    clear H
    obtain ⟨Ao39, co39, eo39⟩ := Kd.R_slice HO_7.out
    subst eo39
    try go_wp2
    replace HO_7 := Aside0.mk (Kd.R_drew HO_7.out)
    replace HB := Aside0.mk (below_drew1 HB.out)
    obtain ⟨p117, q117, ad117, e117, hx117_0⟩ := zI ((Kd.R_reads' HO_7.out).2.2) (x8_1) zD zD
    cases e117
    obtain ⟨p118, q118, ad118, e118, hx118_0⟩ := zI (HR2.out) (x8_1) zD zD
    have hw118_0 := hx118_0
    cases e118
    replace hx118_0 := (HB.out.cell (World.block_lt_of_cell? w _ hx118_0)).trans hx118_0
    have p36 : 0 ≤ (x8_1 : Int) := zD
    have q36 : (x8_1 : Int) < ((x7_1.length : Int) : Int) := zD
    obtain ⟨go36, co36, eo36, gb36, gl36, cl36, HG36⟩ := Kd.R_form HO_7.out (by omega)
    (first | cases eo36 | (injection eo36 with ea_ en_ ec_; (first | subst ea_ | (injection ea_ with ea_; subst ea_)); subst ec_; clear en_))
    have GB36 := Aside0.mk gb36
    have GG36 := Aside0.mk HG36
    clear gb36 gl36 HG36
    (first | simp only [add_plain] at hx117_0 | skip)
    obtain ⟨hx36_0, hf36_0⟩ := Kd.R_celln 0 HO_7.out (x8_1 : Int) p36 q36
    replace p36 := eq_true p36
    replace q36 := eq_true q36
    have HP41 := Kd.R_putn HO_7.out (x8_1 : Int) (wrap64 ((rd x7_1 x8_1) + (rd l2 x8_1)))
    rw [← Ny119.out] at HP41
    have HQ41 := Aside0.mk HP41
    clear HP41
    refine start_ (n := 13) (S := fun w' => w'.cell? ⟨go36, (x8_1).toNat, none⟩ = some (.int .i64 (rd x7_1 x8_1)) ∧ w'.cell? (ad118.add (x8_1).toNat) = some (.int .i64 (rd l2 x8_1))) (ds := [12]) #[false, false, false, false, false, false, false, false, false, false, false, false, false] (by kernel_rfl) rfl rfl ⟨hx117_0, ((HB.out.cell (World.block_lt_of_cell? w _ hw118_0)).trans hw118_0)⟩ (fun hHeld => ?_); refine with_tabW galoisref09_Add.tab8 galoisref09_Add.bits8 (fun HT_ HW_ => ?_)
    generalize wr.drew = w40 at HO_7 HB GG36 HQ41 hf36_0 hx117_0 hx118_0 hx36_0 hHeld ⊢
    refine zP 0 41 ?_; refine zP 1 42 ?_; refine zP 2 43 ?_; refine zP 3 44 ?_; refine zP 4 45 ?_; refine zP 6 47 ?_; refine zP 7 48 ?_; refine zP 8 49 ?_
    refine take_ (i := 5) (N := some 46) (v := ?_) (a' := ?_) #[true, true, true, true, true, true, true, true, true, false, false, false, false] rfl rfl (take_ofW HT_.out HW_.out (by kernel_rfl)) (fun _ _ _ h => h) (Or.inl ⟨by rfl, ?_⟩) hHeld ?_ ?_
    rotate_left
    ·rintro w' ⟨s0, s1⟩
     go_simp
     with_reducible rfl
    rotate_left
    ·simp only [Act.put, List.setIfInBounds_toArray, List.set_cons_zero, List.set_cons_succ, i64_w, i32_w]
     rfl
    refine take_ (i := 9) (N := some 50) (v := ?_) (a' := ?_) #[true, true, true, true, true, true, true, true, true, true, false, false, false] rfl rfl (take_ofW HT_.out HW_.out (by kernel_rfl)) (fun _ _ _ h => h) (Or.inl ⟨by rfl, ?_⟩) hHeld ?_ ?_
    rotate_left
    ·rintro w' ⟨s0, s1⟩
     go_simp
     with_reducible rfl
    rotate_left
    ·simp only [Act.put, List.setIfInBounds_toArray, List.set_cons_zero, List.set_cons_succ, i64_w, i32_w]
     rfl
    refine zP 10 51 ?_; refine zP 11 52 ?_
    refine last_ (i := 12) (N := none) #[true, true, true, true, true, true, true, true, true, true, true, true, true] rfl rfl (one_of HT_.out (by kernel_rfl)) (by decide) (fun K hK => ?_)
    refine skip_ (w1 := ?_) (by rfl) rfl ?_ ?_
    rotate_left
    ·go_simp
     rfl
    refine hK.out _ _ ?_
    clear hK K
    refine done_ (done_of HT_.out (by kernel_rfl)) ?_
    have n0_ : Aside0 (Kd.R (Kd.int .i64) 3 (w40.setCell ⟨go36, (x8_1 : Int).toNat, none⟩ (.int .i64 (wrap64 ((rd x7_1 x8_1) + (rd l2 x8_1))))) w.heap.size (fun k_ => (w.heap.size ≤ k_)) (.slice (some ⟨go36, 0, none⟩) x7_1.length co39) y119) := ⟨zR HQ41.out⟩
    have n1_ : Aside0 (Below w.heap.size w (w40.setCell ⟨go36, (x8_1 : Int).toNat, none⟩ (.int .i64 (wrap64 ((rd x7_1 x8_1) + (rd l2 x8_1)))))) := ⟨zT⟩
    (try clear HO_7)
    (try clear HB)
    generalize (w40.setCell ⟨go36, (x8_1 : Int).toNat, none⟩ (.int .i64 (wrap64 ((rd x7_1 x8_1) + (rd l2 x8_1))))) = w42 at n0_ n1_ ⊢
    have HO_7 := n0_
    have HB := n1_
    clear n0_ n1_
    have p120 : 0 ≤ (x8_1 : Int) := zD
    have q120 : x8_1 < (y119.length : Int) := (by have h_ : (x8_1 : Int) < ((x7_1.length : Int) : Int) := zD; first | (have e_ := (Kd.R_reads' HO_7.out).1; omega) | simpa only [Ny119.out, List.length_set] using h_)
    have ql120 : ((x8_1 : Int) < ((x7_1.length : Int) : Int)) = True := eq_true zD
    obtain ⟨ad120, e120, hx120_0⟩ := Kd.at_int (Kd.R_reads' HO_7.out).2.2 x8_1 p120 q120
    obtain rfl : (⟨go36, 0, none⟩ : Addr) = ad120 := (by injection e120)
    (first | simp only [add_plain] at hx120_0 | simp only [add_at] at hx120_0 | simp only [Addr.add, Nat.zero_add] at hx120_0 | skip)
    replace p120 := eq_true p120
    replace q120 := eq_true q120
    have p38 : 0 ≤ (x8_1 : Int) := zD
    have q38 : (x8_1 : Int) < ((x7_1.length : Int) : Int) := zD
    obtain ⟨hx38_0, hf38_0⟩ := Kd.R_celln 0 HO_7.out (x8_1 : Int) p38 q38
    replace p38 := eq_true p38
    replace q38 := eq_true q38
    obtain ⟨hy43_, hz43_⟩ := Kd.R_celln 0 HO_7.out (x8_1 : Int) zD zD
    have HP43 := Kd.R_putg HO_7.out (x8_1 : Int) (Int.tmod (rd y119 x8_1) a0)
    try go_wp2_with (first | ((with_reducible refine gate_store (t := 3) (p := 61) rfl ?_); refine store_event (t := 3) (p := 61) (v := ?vo_w44) (w1 := (w42.setCell ⟨go36, (x8_1 : Int).toNat, none⟩ (.int .i64 (Int.tmod (rd y119 x8_1) a0)))) ?hg ?ho ?hn ?hr ?_; (case ho => rfl); (case hg => rfl); (case hn => rfl); (case hr => go_simp <;> rfl); intro w44 hw; have hg : w42.grownBy w44 (some go36) := (by rw [hw]; exact HP43.2); have hp_ : Kd.R (Kd.int .i64) 3 w44 w.heap.size (fun k_ => (w.heap.size ≤ k_)) (.slice (some ⟨go36, 0, none⟩) x7_1.length co39) y121 := (by rw [hw, Ny121.out]; exact HP43.1); clear HP43; replace HO_7 := Aside0.mk (hp_); replace HB := Aside0.mk ((by rw [hw]; exact below_set (HB.out) GB36.out : Below w.heap.size w w44)); clear hg hw hp_))
    (first | go_roundg k1 | (simp only [show ∀ g_ : Nat, ({ block := g_, off := (ji4).toNat } : Addr) = ({ block := g_, off := 0 } : Addr).add (ji4).toNat from fun g_ => by simp [Addr.add]]; go_roundg k1))
    case measure => have := HK1.out; omega
    case rel => exact ⟨(y121), (wrap64 (x8_1 + 1)), zX, H', ⟨by have := HK1.out; omega⟩, ⟨zR HO_7.out⟩, ⟨zT⟩⟩
   rw [if_pos c10] at H
   have c10b0 := decide_eq_true c10; clear c10
   by_cases c11 : 0 ≤ x8_1
   rotate_left
   ·rw [if_neg c11] at H
    exact absurd H (by simp)
   rw [if_pos c11] at H
   have c11b0 := decide_eq_true c11; clear c11
   obtain ⟨y109, Ny109, H⟩ := zY H
   by_cases c13 : x8_1 < (l2.length : Int)
   rotate_left
   ·rw [if_neg c13] at H
    have c13b0 := decide_eq_false c13; clear c13
    by_cases c26 : a0 = 0
    ·rw [if_pos c26] at H
     exact absurd H (by simp)
    rw [if_neg c26] at H
    obtain ⟨c26b0, c26b1⟩ := zU c26
    obtain ⟨y116, Ny116⟩ := zA ((y109.set (x8_1 : Int).toNat (Int.tmod (rd y109 x8_1) a0)) : List Int); rw [← Ny116.out] at H
    have H' := Aside0.mk H
    clear H
    obtain ⟨Ao28, co28, eo28⟩ := Kd.R_slice HO_7.out
    subst eo28
    try go_wp2
    replace HO_7 := Aside0.mk (Kd.R_drew HO_7.out)
    replace HB := Aside0.mk (below_drew1 HB.out)
    obtain ⟨p107, q107, ad107, e107, hx107_0⟩ := zI ((Kd.R_reads' HO_7.out).2.2) (x8_1) zD zD
    cases e107
    obtain ⟨p108, q108, ad108, e108, hx108_0⟩ := zI (HR1.out) (x8_1) zD zD
    have hw108_0 := hx108_0
    cases e108
    replace hx108_0 := (HB.out.cell (World.block_lt_of_cell? w _ hx108_0)).trans hx108_0
    have p12 : 0 ≤ (x8_1 : Int) := zD
    have q12 : (x8_1 : Int) < ((x7_1.length : Int) : Int) := zD
    obtain ⟨go12, co12, eo12, gb12, gl12, cl12, HG12⟩ := Kd.R_form HO_7.out (by omega)
    (first | cases eo12 | (injection eo12 with ea_ en_ ec_; (first | subst ea_ | (injection ea_ with ea_; subst ea_)); subst ec_; clear en_))
    have GB12 := Aside0.mk gb12
    have GG12 := Aside0.mk HG12
    clear gb12 gl12 HG12
    (first | simp only [add_plain] at hx107_0 | skip)
    obtain ⟨hx12_0, hf12_0⟩ := Kd.R_celln 0 HO_7.out (x8_1 : Int) p12 q12
    replace p12 := eq_true p12
    replace q12 := eq_true q12
    have HP30 := Kd.R_putn HO_7.out (x8_1 : Int) (wrap64 ((rd x7_1 x8_1) + (rd l1 x8_1)))
    rw [← Ny109.out] at HP30
    have HQ30 := Aside0.mk HP30
    clear HP30
    refine start_ (n := 13) (S := fun w' => w'.cell? ⟨go12, (x8_1).toNat, none⟩ = some (.int .i64 (rd x7_1 x8_1)) ∧ w'.cell? (ad108.add (x8_1).toNat) = some (.int .i64 (rd l1 x8_1))) (ds := [12]) #[false, false, false, false, false, false, false, false, false, false, false, false, false] (by kernel_rfl) rfl rfl ⟨hx107_0, ((HB.out.cell (World.block_lt_of_cell? w _ hw108_0)).trans hw108_0)⟩ (fun hHeld => ?_); refine with_tabW galoisref09_Add.tab6 galoisref09_Add.bits6 (fun HT_ HW_ => ?_)
    generalize wr.drew = w29 at HO_7 HB GG12 HQ30 hf12_0 hx107_0 hx108_0 hx12_0 hHeld ⊢
    refine zP 0 25 ?_; refine zP 1 26 ?_; refine zP 2 27 ?_; refine zP 3 28 ?_; refine zP 4 29 ?_; refine zP 6 31 ?_; refine zP 7 32 ?_; refine zP 8 33 ?_
    refine take_ (i := 5) (N := some 30) (v := ?_) (a' := ?_) #[true, true, true, true, true, true, true, true, true, false, false, false, false] rfl rfl (take_ofW HT_.out HW_.out (by kernel_rfl)) (fun _ _ _ h => h) (Or.inl ⟨by rfl, ?_⟩) hHeld ?_ ?_
    rotate_left
    ·rintro w' ⟨s0, s1⟩
     go_simp
     with_reducible rfl
    rotate_left
    ·simp only [Act.put, List.setIfInBounds_toArray, List.set_cons_zero, List.set_cons_succ, i64_w, i32_w]
     rfl
    refine take_ (i := 9) (N := some 34) (v := ?_) (a' := ?_) #[true, true, true, true, true, true, true, true, true, true, false, false, false] rfl rfl (take_ofW HT_.out HW_.out (by kernel_rfl)) (fun _ _ _ h => h) (Or.inl ⟨by rfl, ?_⟩) hHeld ?_ ?_
    rotate_left
    ·rintro w' ⟨s0, s1⟩
     go_simp
     with_reducible rfl
    rotate_left
    ·simp only [Act.put, List.setIfInBounds_toArray, List.set_cons_zero, List.set_cons_succ, i64_w, i32_w]
     rfl
    refine zP 10 35 ?_; refine zP 11 36 ?_
    refine last_ (i := 12) (N := none) #[true, true, true, true, true, true, true, true, true, true, true, true, true] rfl rfl (one_of HT_.out (by kernel_rfl)) (by decide) (fun K hK => ?_)
    refine skip_ (w1 := ?_) (by rfl) rfl ?_ ?_
    rotate_left
    ·go_simp
     rfl
    refine hK.out _ _ ?_
    clear hK K
    refine done_ (done_of HT_.out (by kernel_rfl)) ?_
    have n0_ : Aside0 (Kd.R (Kd.int .i64) 3 (w29.setCell ⟨go12, (x8_1 : Int).toNat, none⟩ (.int .i64 (wrap64 ((rd x7_1 x8_1) + (rd l1 x8_1))))) w.heap.size (fun k_ => (w.heap.size ≤ k_)) (.slice (some ⟨go12, 0, none⟩) x7_1.length co28) y109) := ⟨zR HQ30.out⟩
    have n1_ : Aside0 (Below w.heap.size w (w29.setCell ⟨go12, (x8_1 : Int).toNat, none⟩ (.int .i64 (wrap64 ((rd x7_1 x8_1) + (rd l1 x8_1)))))) := ⟨zT⟩
    (try clear HO_7)
    (try clear HB)
    generalize (w29.setCell ⟨go12, (x8_1 : Int).toNat, none⟩ (.int .i64 (wrap64 ((rd x7_1 x8_1) + (rd l1 x8_1))))) = w31 at n0_ n1_ ⊢
    have HO_7 := n0_
    have HB := n1_
    clear n0_ n1_
    have p115 : 0 ≤ (x8_1 : Int) := zD
    have q115 : x8_1 < (y109.length : Int) := (by have h_ : (x8_1 : Int) < ((x7_1.length : Int) : Int) := zD; first | (have e_ := (Kd.R_reads' HO_7.out).1; omega) | simpa only [Ny109.out, List.length_set] using h_)
    have ql115 : ((x8_1 : Int) < ((x7_1.length : Int) : Int)) = True := eq_true zD
    obtain ⟨ad115, e115, hx115_0⟩ := Kd.at_int (Kd.R_reads' HO_7.out).2.2 x8_1 p115 q115
    obtain rfl : (⟨go12, 0, none⟩ : Addr) = ad115 := (by injection e115)
    (first | simp only [add_plain] at hx115_0 | simp only [add_at] at hx115_0 | simp only [Addr.add, Nat.zero_add] at hx115_0 | skip)
    replace p115 := eq_true p115
    replace q115 := eq_true q115
    have p27 : 0 ≤ (x8_1 : Int) := zD
    have q27 : (x8_1 : Int) < ((x7_1.length : Int) : Int) := zD
    obtain ⟨hx27_0, hf27_0⟩ := Kd.R_celln 0 HO_7.out (x8_1 : Int) p27 q27
    replace p27 := eq_true p27
    replace q27 := eq_true q27
    obtain ⟨hy32_, hz32_⟩ := Kd.R_celln 0 HO_7.out (x8_1 : Int) zD zD
    have HP32 := Kd.R_putg HO_7.out (x8_1 : Int) (Int.tmod (rd y109 x8_1) a0)
    try go_wp2_with (first | ((with_reducible refine gate_store (t := 3) (p := 61) rfl ?_); refine store_event (t := 3) (p := 61) (v := ?vo_w33) (w1 := (w31.setCell ⟨go12, (x8_1 : Int).toNat, none⟩ (.int .i64 (Int.tmod (rd y109 x8_1) a0)))) ?hg ?ho ?hn ?hr ?_; (case ho => rfl); (case hg => rfl); (case hn => rfl); (case hr => go_simp <;> rfl); intro w33 hw; have hg : w31.grownBy w33 (some go12) := (by rw [hw]; exact HP32.2); have hp_ : Kd.R (Kd.int .i64) 3 w33 w.heap.size (fun k_ => (w.heap.size ≤ k_)) (.slice (some ⟨go12, 0, none⟩) x7_1.length co28) y116 := (by rw [hw, Ny116.out]; exact HP32.1); clear HP32; replace HO_7 := Aside0.mk (hp_); replace HB := Aside0.mk ((by rw [hw]; exact below_set (HB.out) GB12.out : Below w.heap.size w w33)); clear hg hw hp_))
    (first | go_roundg k1 | (simp only [show ∀ g_ : Nat, ({ block := g_, off := (ji4).toNat } : Addr) = ({ block := g_, off := 0 } : Addr).add (ji4).toNat from fun g_ => by simp [Addr.add]]; go_roundg k1))
    case measure => have := HK1.out; omega
    case rel => exact ⟨(y116), (wrap64 (x8_1 + 1)), zX, H', ⟨by have := HK1.out; omega⟩, ⟨zR HO_7.out⟩, ⟨zT⟩⟩
   rw [if_pos c13] at H
   have c13b0 := decide_eq_true c13; clear c13
   obtain ⟨y112, Ny112, H⟩ := zY H
   by_cases c15 : a0 = 0
   ·rw [if_pos c15] at H
    exact absurd H (by simp)
   rw [if_neg c15] at H
   obtain ⟨c15b0, c15b1⟩ := zU c15
   obtain ⟨y114, Ny114⟩ := zA ((y112.set (x8_1 : Int).toNat (Int.tmod (rd y112 x8_1) a0)) : List Int); rw [← Ny114.out] at H
   have H' := Aside0.mk H
   clear H
   obtain ⟨Ao17, co17, eo17⟩ := Kd.R_slice HO_7.out
   subst eo17
   try go_wp2
   replace HO_7 := Aside0.mk (Kd.R_drew HO_7.out)
   replace HB := Aside0.mk (below_drew1 HB.out)
   obtain ⟨p107, q107, ad107, e107, hx107_0⟩ := zI ((Kd.R_reads' HO_7.out).2.2) (x8_1) zD zD
   cases e107
   obtain ⟨p108, q108, ad108, e108, hx108_0⟩ := zI (HR1.out) (x8_1) zD zD
   have hw108_0 := hx108_0
   cases e108
   replace hx108_0 := (HB.out.cell (World.block_lt_of_cell? w _ hx108_0)).trans hx108_0
   have p12 : 0 ≤ (x8_1 : Int) := zD
   have q12 : (x8_1 : Int) < ((x7_1.length : Int) : Int) := zD
   obtain ⟨go12, co12, eo12, gb12, gl12, cl12, HG12⟩ := Kd.R_form HO_7.out (by omega)
   (first | cases eo12 | (injection eo12 with ea_ en_ ec_; (first | subst ea_ | (injection ea_ with ea_; subst ea_)); subst ec_; clear en_))
   have GB12 := Aside0.mk gb12
   have GG12 := Aside0.mk HG12
   clear gb12 gl12 HG12
   (first | simp only [add_plain] at hx107_0 | skip)
   obtain ⟨hx12_0, hf12_0⟩ := Kd.R_celln 0 HO_7.out (x8_1 : Int) p12 q12
   replace p12 := eq_true p12
   replace q12 := eq_true q12
   have HP19 := Kd.R_putn HO_7.out (x8_1 : Int) (wrap64 ((rd x7_1 x8_1) + (rd l1 x8_1)))
   rw [← Ny109.out] at HP19
   have HQ19 := Aside0.mk HP19
   clear HP19
   refine start_ (n := 13) (S := fun w' => w'.cell? ⟨go12, (x8_1).toNat, none⟩ = some (.int .i64 (rd x7_1 x8_1)) ∧ w'.cell? (ad108.add (x8_1).toNat) = some (.int .i64 (rd l1 x8_1))) (ds := [12]) #[false, false, false, false, false, false, false, false, false, false, false, false, false] (by kernel_rfl) rfl rfl ⟨hx107_0, ((HB.out.cell (World.block_lt_of_cell? w _ hw108_0)).trans hw108_0)⟩ (fun hHeld => ?_); refine with_tabW galoisref09_Add.tab6 galoisref09_Add.bits6 (fun HT_ HW_ => ?_)
   generalize wr.drew = w18 at HO_7 HB GG12 HQ19 hf12_0 hx107_0 hx108_0 hx12_0 hHeld ⊢
   refine zP 0 25 ?_; refine zP 1 26 ?_; refine zP 2 27 ?_; refine zP 3 28 ?_; refine zP 4 29 ?_; refine zP 6 31 ?_; refine zP 7 32 ?_; refine zP 8 33 ?_
   refine take_ (i := 5) (N := some 30) (v := ?_) (a' := ?_) #[true, true, true, true, true, true, true, true, true, false, false, false, false] rfl rfl (take_ofW HT_.out HW_.out (by kernel_rfl)) (fun _ _ _ h => h) (Or.inl ⟨by rfl, ?_⟩) hHeld ?_ ?_
   rotate_left
   ·rintro w' ⟨s0, s1⟩
    go_simp
    with_reducible rfl
   rotate_left
   ·simp only [Act.put, List.setIfInBounds_toArray, List.set_cons_zero, List.set_cons_succ, i64_w, i32_w]
    rfl
   refine take_ (i := 9) (N := some 34) (v := ?_) (a' := ?_) #[true, true, true, true, true, true, true, true, true, true, false, false, false] rfl rfl (take_ofW HT_.out HW_.out (by kernel_rfl)) (fun _ _ _ h => h) (Or.inl ⟨by rfl, ?_⟩) hHeld ?_ ?_
   rotate_left
   ·rintro w' ⟨s0, s1⟩
    go_simp
    with_reducible rfl
   rotate_left
   ·simp only [Act.put, List.setIfInBounds_toArray, List.set_cons_zero, List.set_cons_succ, i64_w, i32_w]
    rfl
   refine zP 10 35 ?_; refine zP 11 36 ?_
   refine last_ (i := 12) (N := none) #[true, true, true, true, true, true, true, true, true, true, true, true, true] rfl rfl (one_of HT_.out (by kernel_rfl)) (by decide) (fun K hK => ?_)
   refine skip_ (w1 := ?_) (by rfl) rfl ?_ ?_
   rotate_left
   ·go_simp
    rfl
   refine hK.out _ _ ?_
   clear hK K
   refine done_ (done_of HT_.out (by kernel_rfl)) ?_
   try go_wp2
   have n0_ : Aside0 (Kd.R (Kd.int .i64) 3 (w18.setCell ⟨go12, (x8_1 : Int).toNat, none⟩ (.int .i64 (wrap64 ((rd x7_1 x8_1) + (rd l1 x8_1))))) w.heap.size (fun k_ => (w.heap.size ≤ k_)) (.slice (some ⟨go12, 0, none⟩) x7_1.length co17) y109) := ⟨zR HQ19.out⟩
   have n1_ : Aside0 (Below w.heap.size w (w18.setCell ⟨go12, (x8_1 : Int).toNat, none⟩ (.int .i64 (wrap64 ((rd x7_1 x8_1) + (rd l1 x8_1)))))) := ⟨zT⟩
   (try clear HO_7)
   (try clear HB)
   generalize (w18.setCell ⟨go12, (x8_1 : Int).toNat, none⟩ (.int .i64 (wrap64 ((rd x7_1 x8_1) + (rd l1 x8_1))))) = w20 at n0_ n1_ ⊢
   have HO_7 := n0_
   have HB := n1_
   clear n0_ n1_
   replace HO_7 := Aside0.mk (Kd.R_drew HO_7.out)
   replace HB := Aside0.mk (below_drew1 HB.out)
   have p110 : 0 ≤ (x8_1 : Int) := zD
   have q110 : x8_1 < (y109.length : Int) := (by have h_ : (x8_1 : Int) < ((x7_1.length : Int) : Int) := zD; first | (have e_ := (Kd.R_reads' HO_7.out).1; omega) | simpa only [Ny109.out, List.length_set] using h_)
   have ql110 : ((x8_1 : Int) < ((x7_1.length : Int) : Int)) = True := eq_true zD
   obtain ⟨ad110, e110, hx110_0⟩ := Kd.at_int (Kd.R_reads' HO_7.out).2.2 x8_1 p110 q110
   obtain rfl : (⟨go12, 0, none⟩ : Addr) = ad110 := (by injection e110)
   (first | simp only [add_plain] at hx110_0 | simp only [add_at] at hx110_0 | simp only [Addr.add, Nat.zero_add] at hx110_0 | skip)
   replace p110 := eq_true p110
   replace q110 := eq_true q110
   obtain ⟨p111, q111, ad111, e111, hx111_0⟩ := zI (HR2.out) (x8_1) zD zD
   have hw111_0 := hx111_0
   cases e111
   replace hx111_0 := (HB.out.cell (World.block_lt_of_cell? w _ hx111_0)).trans hx111_0
   have p14 : 0 ≤ (x8_1 : Int) := zD
   have q14 : (x8_1 : Int) < ((x7_1.length : Int) : Int) := zD
   obtain ⟨hx14_0, hf14_0⟩ := Kd.R_celln 0 HO_7.out (x8_1 : Int) p14 q14
   replace p14 := eq_true p14
   replace q14 := eq_true q14
   have HP22 := Kd.R_putn HO_7.out (x8_1 : Int) (wrap64 ((rd y109 x8_1) + (rd l2 x8_1)))
   rw [← Ny112.out] at HP22
   have HQ22 := Aside0.mk HP22
   clear HP22
   refine start_ (n := 13) (S := fun w' => w'.cell? ⟨go12, (x8_1).toNat, none⟩ = some (.int .i64 (rd y109 x8_1)) ∧ w'.cell? (ad111.add (x8_1).toNat) = some (.int .i64 (rd l2 x8_1))) (ds := [12]) #[false, false, false, false, false, false, false, false, false, false, false, false, false] (by kernel_rfl) rfl rfl ⟨hx110_0, ((HB.out.cell (World.block_lt_of_cell? w _ hw111_0)).trans hw111_0)⟩ (fun hHeld => ?_); refine with_tabW galoisref09_Add.tab8 galoisref09_Add.bits8 (fun HT_ HW_ => ?_)
   generalize w20.drew = w21 at HO_7 HB HQ19 HQ22 hf14_0 hx110_0 hx111_0 hx14_0 hHeld ⊢
   refine zP 0 41 ?_; refine zP 1 42 ?_; refine zP 2 43 ?_; refine zP 3 44 ?_; refine zP 4 45 ?_; refine zP 6 47 ?_; refine zP 7 48 ?_; refine zP 8 49 ?_
   refine take_ (i := 5) (N := some 46) (v := ?_) (a' := ?_) #[true, true, true, true, true, true, true, true, true, false, false, false, false] rfl rfl (take_ofW HT_.out HW_.out (by kernel_rfl)) (fun _ _ _ h => h) (Or.inl ⟨by rfl, ?_⟩) hHeld ?_ ?_
   rotate_left
   ·rintro w' ⟨s0, s1⟩
    go_simp
    with_reducible rfl
   rotate_left
   ·simp only [Act.put, List.setIfInBounds_toArray, List.set_cons_zero, List.set_cons_succ, i64_w, i32_w]
    rfl
   refine take_ (i := 9) (N := some 50) (v := ?_) (a' := ?_) #[true, true, true, true, true, true, true, true, true, true, false, false, false] rfl rfl (take_ofW HT_.out HW_.out (by kernel_rfl)) (fun _ _ _ h => h) (Or.inl ⟨by rfl, ?_⟩) hHeld ?_ ?_
   rotate_left
   ·rintro w' ⟨s0, s1⟩
    go_simp
    with_reducible rfl
   rotate_left
   ·simp only [Act.put, List.setIfInBounds_toArray, List.set_cons_zero, List.set_cons_succ, i64_w, i32_w]
    rfl
   refine zP 10 51 ?_; refine zP 11 52 ?_
   refine last_ (i := 12) (N := none) #[true, true, true, true, true, true, true, true, true, true, true, true, true] rfl rfl (one_of HT_.out (by kernel_rfl)) (by decide) (fun K hK => ?_)
   refine skip_ (w1 := ?_) (by rfl) rfl ?_ ?_
   rotate_left
   ·go_simp
    rfl
   refine hK.out _ _ ?_
   clear hK K
   refine done_ (done_of HT_.out (by kernel_rfl)) ?_
   have n0_ : Aside0 (Kd.R (Kd.int .i64) 3 (w21.setCell ⟨go12, (x8_1 : Int).toNat, none⟩ (.int .i64 (wrap64 ((rd y109 x8_1) + (rd l2 x8_1))))) w.heap.size (fun k_ => (w.heap.size ≤ k_)) (.slice (some ⟨go12, 0, none⟩) x7_1.length co17) y112) := ⟨zR HQ22.out⟩
   have n1_ : Aside0 (Below w.heap.size w (w21.setCell ⟨go12, (x8_1 : Int).toNat, none⟩ (.int .i64 (wrap64 ((rd y109 x8_1) + (rd l2 x8_1)))))) := ⟨zT⟩
   (try clear HO_7)
   (try clear HB)
   generalize (w21.setCell ⟨go12, (x8_1 : Int).toNat, none⟩ (.int .i64 (wrap64 ((rd y109 x8_1) + (rd l2 x8_1))))) = w23 at n0_ n1_ ⊢
   have HO_7 := n0_
   have HB := n1_
   clear n0_ n1_
   have p113 : 0 ≤ (x8_1 : Int) := zD
   have q113 : x8_1 < (y112.length : Int) := (by have h_ : (x8_1 : Int) < ((x7_1.length : Int) : Int) := zD; first | (have e_ := (Kd.R_reads' HO_7.out).1; omega) | simpa only [Ny109.out, Ny112.out, List.length_set] using h_)
   have ql113 : ((x8_1 : Int) < ((x7_1.length : Int) : Int)) = True := eq_true zD
   obtain ⟨ad113, e113, hx113_0⟩ := Kd.at_int (Kd.R_reads' HO_7.out).2.2 x8_1 p113 q113
   obtain rfl : (⟨go12, 0, none⟩ : Addr) = ad113 := (by injection e113)
   (first | simp only [add_plain] at hx113_0 | simp only [add_at] at hx113_0 | simp only [Addr.add, Nat.zero_add] at hx113_0 | skip)
   replace p113 := eq_true p113
   replace q113 := eq_true q113
   have p16 : 0 ≤ (x8_1 : Int) := zD
   have q16 : (x8_1 : Int) < ((x7_1.length : Int) : Int) := zD
   obtain ⟨hx16_0, hf16_0⟩ := Kd.R_celln 0 HO_7.out (x8_1 : Int) p16 q16
   replace p16 := eq_true p16
   replace q16 := eq_true q16
   obtain ⟨hy24_, hz24_⟩ := Kd.R_celln 0 HO_7.out (x8_1 : Int) zD zD
   have HP24 := Kd.R_putg HO_7.out (x8_1 : Int) (Int.tmod (rd y112 x8_1) a0)
   try go_wp2_with (first | ((with_reducible refine gate_store (t := 3) (p := 61) rfl ?_); refine store_event (t := 3) (p := 61) (v := ?vo_w25) (w1 := (w23.setCell ⟨go12, (x8_1 : Int).toNat, none⟩ (.int .i64 (Int.tmod (rd y112 x8_1) a0)))) ?hg ?ho ?hn ?hr ?_; (case ho => rfl); (case hg => rfl); (case hn => rfl); (case hr => go_simp <;> rfl); intro w25 hw; have hg : w23.grownBy w25 (some go12) := (by rw [hw]; exact HP24.2); have hp_ : Kd.R (Kd.int .i64) 3 w25 w.heap.size (fun k_ => (w.heap.size ≤ k_)) (.slice (some ⟨go12, 0, none⟩) x7_1.length co17) y114 := (by rw [hw, Ny114.out]; exact HP24.1); clear HP24; replace HO_7 := Aside0.mk (hp_); replace HB := Aside0.mk ((by rw [hw]; exact below_set (HB.out) GB12.out : Below w.heap.size w w25)); clear hg hw hp_))
   (first | go_roundg k1 | (simp only [show ∀ g_ : Nat, ({ block := g_, off := (ji4).toNat } : Addr) = ({ block := g_, off := 0 } : Addr).add (ji4).toNat from fun g_ => by simp [Addr.add]]; go_roundg k1))
   case measure => have := HK1.out; omega
   case rel => exact ⟨(y114), (wrap64 (x8_1 + 1)), zX, H', ⟨by have := HK1.out; omega⟩, ⟨zR HO_7.out⟩, ⟨zT⟩⟩
end Go.Proofs.Ytalnaafmonmlmaa.Q
end
section
namespace Go.Proofs.Ytalnaafmonmlmaa.Q
open Go.RowKit Go.Proofs.YtalnaafmonmlmaaW.PrintWords Go.Proofs.YtalnaafmonmlmaaW.PrintLast Go.Proofs.YtalnaafmonmlmaaW.PrintMore
attribute [local go_sem] max2_int min2_int max_two min_two max_three min_three max_four min_four
set_option linter.unusedVariables false
set_option linter.unusedSimpArgs false
set_option maxHeartbeats 8000000
set_option maxRecDepth 100000
def galoisref09_Scale.l0 : Nat → Int → Int → List Int → Int → Option (List Int)
 | 0, _, _, _, _ => none
 | k + 1, x0, x2, x7, x8 => if x8 < (x7.length : Int) then (if 0 ≤ x8 then (if x0 = 0 then (none) else (galoisref09_Scale.l0 k x0 x2 (x7.set (x8 : Int).toNat (Int.tmod (wrap64 ((rd x7 x8) * x2)) x0)) (wrap64 (x8 + 1)))) else (none)) else ((galoisref09_Trim.f k x7).bind fun t107 => (some t107))
def galoisref09_Scale.f (k : Nat) (a0 : Int) (l1 : List Int) (a2 : Int) : Option (List Int) := (galoisref04_Mod.f a2 a0).bind fun t101 => ((galoisref09_Copy.f l1).bind fun t102 => (galoisref09_Scale.l0 k a0 t101 t102 0))
theorem galoisref09_Scale.mono_l : ∀ k, (∀ y0 y1 y2 y3, LeO (galoisref09_Scale.l0 k y0 y1 y2 y3) (galoisref09_Scale.l0 (k + 1) y0 y1 y2 y3))
 | 0 => fun _ _ _ _ r h => by simp [galoisref09_Scale.l0] at h
 | k + 1 => by
  have ih0 := galoisref09_Scale.mono_l k
  intro y0 y1 y2 y3
  unfold galoisref09_Scale.l0
  with_reducible repeat' first | exact ih0 _ _ _ _ | exact galoisref09_Trim.mono _ _ | exact LeO.refl _ | exact LeO.none _ | refine LeO.ite ?_ ?_ | refine LeO.bind ?_ (fun _ => ?_)
theorem galoisref09_Scale.mono : ∀ a0 a1 a2 k, LeO (galoisref09_Scale.f k a0 a1 a2) (galoisref09_Scale.f (k + 1) a0 a1 a2) := by
 intro a0 a1 a2 k
 have ih0 := galoisref09_Scale.mono_l k
 unfold galoisref09_Scale.f
 with_reducible repeat' first | exact ih0 _ _ _ _ | exact galoisref09_Trim.mono _ _ | exact LeO.refl _ | exact LeO.none _ | refine LeO.ite ?_ ?_ | refine LeO.bind ?_ (fun _ => ?_)
theorem galoisref09_Scale.calls (k : Nat) (a0 : Int) (A1 : Option Addr) (c1 : Nat) (l1 : List Int) (a2 : Int) (r : List Int) (w : World) (hr1 : Kd.C (Kd.int .i64) w A1 l1.length l1) (hc1 : l1.length ≤ c1) (h : galoisref09_Scale.f k a0 l1 a2 = some r) :
  Calls Try.prog 96 #[.int .i64 a0, .slice A1 l1.length c1, .int .i64 a2] w fun e w' => ∃ v0_ : Value, e = .returned (v0_) ∧ Kd.V (Kd.int .i64) 3 w' w.heap.size (fun k_ => (w.heap.size ≤ k_)) v0_ r ∧ Below w.heap.size w w' := by
 have HR1 := Aside0.mk hr1
 have HC1 := Aside0.mk hc1
 clear hr1 hc1
 have HB := Aside0.mk (Below.refl w.heap.size w)
 have H := h; clear h; unfold galoisref09_Scale.f at H
 obtain ⟨t101, A4, H⟩ := zO H
 obtain ⟨t102, A5, H⟩ := zO H
 have H' := Aside0.mk H
 clear H
 go_enter Try.func96, Try.ntmps96
 go_wp2_with (first | ((with_reducible refine gate_callee (f := 113) rfl ?_); refine zG (some 11) Try.func113 #[.int .i64 a2, .int .i64 a0] ?_; (with_reducible refine (galoisref04_Mod.calls a2 a0 t101 _ A4.out).mono ?_); rintro e w' ⟨rfl, ⟨nd, rfl⟩⟩; refine ⟨_, rfl, ?_⟩) | ((with_reducible refine gate_callee (f := 47) rfl ?_); refine zG (some 13) Try.func47 #[.slice A1 l1.length c1] ?_; (with_reducible refine (galoisref09_Copy.calls _ _ l1 t102 _ ?side1 ?side2 A5.out).mono ?_); (case side1 => exact zC (HR1.out)); (case side2 => exact HC1.out); rintro e w6 ⟨v103, rfl, ho0, hb⟩; refine ⟨_, rfl, ?_⟩; have HO104 := Aside0.mk (Kd.R_lower (Kd.R_newM (M := fun k_ => (w.heap.size ≤ k_)) ho0 (zS HB) (fun k_ h_ => h_)) (zS HB)); replace HB := zBb HB hb; (try clear hb); (try clear ho0)))
 go_loopg [8] k (fun kq v8 w' => ∃ (x7_1 : List Int) (x8_1 : Int), v8 = .int .i64 x8_1 ∧ Aside0 (galoisref09_Scale.l0 kq a0 t101 x7_1 x8_1 = some r) ∧ Aside0 (kq ≤ k) ∧ Aside0 (Kd.R (Kd.int .i64) 3 w' w.heap.size (fun k_ => (w.heap.size ≤ k_)) v103 x7_1) ∧ Aside0 (Below w.heap.size w w'))
 case atStart => exact ⟨(t102), (0), zX, H', ⟨Nat.le_refl _⟩, ⟨zR (Kd.R_mono HO104.out (fun _ hk => hk.1))⟩, ⟨zT⟩⟩
 case round =>
  clear H'
  try clear c1; try clear p2; try clear c4
  obtain ⟨x7_1, x8_1, rfl, HA, HK1, HO_7, HB⟩ := hrel
  cases gk with
  | zero => exact absurd HA.out (by simp [galoisref09_Scale.l0])
  | succ k1 =>
   have H := HA.out
   clear HA
   simp only [galoisref09_Scale.l0] at H
   by_cases c7 : x8_1 < (x7_1.length : Int)
   rotate_left
   ·rw [if_neg c7] at H
    have c7b0 := decide_eq_false c7; clear c7
    obtain ⟨t107, A14, H⟩ := zO H
    obtain rfl := Option.some.inj H
    obtain ⟨Ao15, co15, eo15⟩ := Kd.R_slice HO_7.out
    subst eo15
    go_wp2_with (first | ((with_reducible refine gate_callee (f := 41) rfl ?_); refine zG (some 32) Try.func41 #[.slice Ao15 x7_1.length co15] ?_; (with_reducible refine (galoisref09_Trim.calls k1 (fun k_ => some k_ = (.slice Ao15 x7_1.length co15 : Value).ownBlock) _ _ x7_1 t107 _ ?side1 A14.out).mono ?_); (case side1 => exact Kd.R_V (Kd.R_tight rfl (HO_7.out))); rintro e w16 ⟨v108, rfl, ho0, hb⟩; refine ⟨_, rfl, ?_⟩; have HO109 := Aside0.mk (Kd.V_lower (Kd.V_mono (ok' := fun k_ => (w.heap.size ≤ k_)) ho0 (fun k_ hk_ => Or.elim hk_ (fun hs_ => ((HO_7.out).1 k_ hs_.symm)) (fun hn_ => (Nat.le_trans (zS HB) hn_)))) (zS HB)); replace HO_7 := zRb HO_7 hb; replace HB := zBb HB hb; (try clear hb); (try clear ho0)))
    go_ret
    exact ⟨_, zQ, zV HO109.out, zT⟩
   rw [if_pos c7] at H
   have c7b0 := decide_eq_true c7; clear c7
   by_cases c8 : 0 ≤ x8_1
   rotate_left
   ·rw [if_neg c8] at H
    exact absurd H (by simp)
   rw [if_pos c8] at H
   have c8b0 := decide_eq_true c8; clear c8
   by_cases c9 : a0 = 0
   ·rw [if_pos c9] at H
    exact absurd H (by simp)
   rw [if_neg c9] at H
   obtain ⟨c9b0, c9b1⟩ := zU c9
   obtain ⟨y106, Ny106⟩ := zA ((x7_1.set (x8_1 : Int).toNat (Int.tmod (wrap64 ((rd x7_1 x8_1) * t101)) a0)) : List Int); rw [← Ny106.out] at H
   have H' := Aside0.mk H
   clear H
   obtain ⟨Ao11, co11, eo11⟩ := Kd.R_slice HO_7.out
   subst eo11
   obtain ⟨p105, q105, ad105, e105, hx105_0⟩ := zI ((Kd.R_reads' HO_7.out).2.2) (x8_1) zD zD
   cases e105
   have p10 : 0 ≤ (x8_1 : Int) := zD
   have q10 : (x8_1 : Int) < ((x7_1.length : Int) : Int) := zD
   obtain ⟨go10, co10, eo10, gb10, gl10, cl10, HG10⟩ := Kd.R_form HO_7.out (by omega)
   (first | cases eo10 | (injection eo10 with ea_ en_ ec_; (first | subst ea_ | (injection ea_ with ea_; subst ea_)); subst ec_; clear en_))
   have GB10 := Aside0.mk gb10
   have GG10 := Aside0.mk HG10
   clear gb10 gl10 HG10
   (first | simp only [add_plain] at hx105_0 | skip)
   obtain ⟨hx10_0, hf10_0⟩ := Kd.R_celln 0 HO_7.out (x8_1 : Int) p10 q10
   replace p10 := eq_true p10
   replace q10 := eq_true q10
   have HP12 := Kd.R_putg HO_7.out (x8_1 : Int) (Int.tmod (wrap64 ((rd x7_1 x8_1) * t101)) a0)
   go_wp2_with (first | ((with_reducible refine gate_store (t := 3) (p := 30) rfl ?_); refine store_event (t := 3) (p := 30) (v := ?vo_w13) (w1 := (wr.setCell ⟨go10, (x8_1 : Int).toNat, none⟩ (.int .i64 (Int.tmod (wrap64 ((rd x7_1 x8_1) * t101)) a0)))) ?hg ?ho ?hn ?hr ?_; (case ho => rfl); (case hg => rfl); (case hn => rfl); (case hr => go_simp <;> rfl); intro w13 hw; have hg : wr.grownBy w13 (some go10) := (by rw [hw]; exact HP12.2); have hp_ : Kd.R (Kd.int .i64) 3 w13 w.heap.size (fun k_ => (w.heap.size ≤ k_)) (.slice (some ⟨go10, 0, none⟩) x7_1.length co11) y106 := (by rw [hw, Ny106.out]; exact HP12.1); clear HP12; replace HO_7 := Aside0.mk (hp_); replace HB := Aside0.mk ((by rw [hw]; exact below_set (HB.out) GB10.out : Below w.heap.size w w13)); clear hg hw hp_))
   go_roundg k1
   case measure => have := HK1.out; omega
   case rel => exact ⟨(y106), (wrap64 (x8_1 + 1)), zX, H', ⟨by have := HK1.out; omega⟩, ⟨zR HO_7.out⟩, ⟨zT⟩⟩
end Go.Proofs.Ytalnaafmonmlmaa.Q
end
section
namespace Go.Proofs.Ytalnaafmonmlmaa.Q
open Go.RowKit Go.Proofs.YtalnaafmonmlmaaW.PrintWords Go.Proofs.YtalnaafmonmlmaaW.PrintLast Go.Proofs.YtalnaafmonmlmaaW.PrintMore
attribute [local go_sem] max2_int min2_int max_two min_two max_three min_three max_four min_four
set_option linter.unusedVariables false
set_option linter.unusedSimpArgs false
set_option maxHeartbeats 8000000
set_option maxRecDepth 100000
def galoisref09_Sub.f (k : Nat) (a0 : Int) (l1 : List Int) (l2 : List Int) : Option (List Int) := (galoisref09_Scale.f k a0 l2 (-1)).bind fun t101 => ((galoisref09_Add.f k a0 l1 t101).bind fun t104 => (some t104))
theorem galoisref09_Sub.mono : ∀ a0 a1 a2 k, LeO (galoisref09_Sub.f k a0 a1 a2) (galoisref09_Sub.f (k + 1) a0 a1 a2) := by
 intro a0 a1 a2 k
 unfold galoisref09_Sub.f
 with_reducible repeat' first | exact galoisref09_Add.mono _ _ _ _ | exact galoisref09_Scale.mono _ _ _ _ | exact LeO.refl _ | exact LeO.none _ | refine LeO.ite ?_ ?_ | refine LeO.bind ?_ (fun _ => ?_)
theorem galoisref09_Sub.calls (k : Nat) (a0 : Int) (A1 : Option Addr) (c1 : Nat) (l1 : List Int) (A2 : Option Addr) (c2 : Nat) (l2 : List Int) (r : List Int) (w : World) (hr1 : Kd.C (Kd.int .i64) w A1 l1.length l1) (hc1 : l1.length ≤ c1) (hr2 : Kd.C (Kd.int .i64) w A2 l2.length l2) (hc2 : l2.length ≤ c2) (h : galoisref09_Sub.f k a0 l1 l2 = some r) :
  Calls Try.prog 65 #[.int .i64 a0, .slice A1 l1.length c1, .slice A2 l2.length c2] w fun e w' => ∃ v0_ : Value, e = .returned (v0_) ∧ Kd.V (Kd.int .i64) 3 w' w.heap.size (fun k_ => (w.heap.size ≤ k_)) v0_ r ∧ Below w.heap.size w w' := by
 have HR1 := Aside0.mk hr1
 have HC1 := Aside0.mk hc1
 clear hr1 hc1
 have HR2 := Aside0.mk hr2
 have HC2 := Aside0.mk hc2
 clear hr2 hc2
 have HB := Aside0.mk (Below.refl w.heap.size w)
 have H := h; clear h; unfold galoisref09_Sub.f at H
 obtain ⟨t101, A4, H⟩ := zO H
 obtain ⟨t104, A5, H⟩ := zO H
 obtain rfl := Option.some.inj H
 go_enter Try.func65, Try.ntmps65
 go_wp2_with (first | ((with_reducible refine gate_callee (f := 96) rfl ?_); refine zG (some 11) Try.func96 #[.int .i64 a0, .slice A2 l2.length c2, .int .i64 (-1)] ?_; (with_reducible refine (galoisref09_Scale.calls k a0 _ _ l2 (-1) t101 _ ?side1 ?side2 A4.out).mono ?_); (case side1 => exact zC (HR2.out)); (case side2 => exact HC2.out); rintro e w6 ⟨v102, rfl, ho0, hb⟩; refine ⟨_, rfl, ?_⟩; have HO103 := Aside0.mk (Kd.V_lower (Kd.V_mono (ok' := fun k_ => (w.heap.size ≤ k_)) ho0 (fun k_ hk_ => (Nat.le_trans (zS HB) hk_))) (zS HB)); replace HB := zBb HB hb; (try clear hb); (try clear ho0); obtain ⟨Ao7, co7, eo7⟩ := Kd.V_slice HO103.out; subst eo7) | ((with_reducible refine gate_callee (f := 64) rfl ?_); refine zG (some 12) Try.func64 #[.int .i64 a0, .slice A1 l1.length c1, .slice Ao7 t101.length co7] ?_; (with_reducible refine (galoisref09_Add.calls k a0 _ _ l1 _ _ t101 t104 _ ?side1 ?side2 ?side3 ?side4 A5.out).mono ?_); (case side1 => exact zC (Kd.C_below HR1.out HB.out)); (case side2 => exact HC1.out); (case side3 => exact zC ((Kd.V_reads' HO103.out).2.2)); (case side4 => exact (Kd.V_reads' HO103.out).2.1); rintro e w8 ⟨v105, rfl, ho0, hb⟩; refine ⟨_, rfl, ?_⟩; replace HO103 := zVb HO103 hb; have HO106 := Aside0.mk (Kd.V_lower (Kd.V_mono (ok' := fun k_ => (w.heap.size ≤ k_)) ho0 (fun k_ hk_ => (Nat.le_trans (zS HB) hk_))) (zS HB)); replace HB := zBb HB hb; (try clear hb); (try clear ho0)))
 go_ret
 exact ⟨_, zQ, zV HO106.out, zT⟩
end Go.Proofs.Ytalnaafmonmlmaa.Q
end
section
namespace Go.Proofs.Ytalnaafmonmlmaa.Q
open Go.RowKit Go.Proofs.YtalnaafmonmlmaaW.PrintWords Go.Proofs.YtalnaafmonmlmaaW.PrintLast Go.Proofs.YtalnaafmonmlmaaW.PrintMore
attribute [local go_sem] max2_int min2_int max_two min_two max_three min_three max_four min_four
set_option linter.unusedVariables false
set_option linter.unusedSimpArgs false
set_option maxHeartbeats 8000000
set_option maxRecDepth 100000
def fp_Inv.l0 : Nat → Int → Int → Int → Int → Int → Option (Int)
 | 0, _, _, _, _, _ => none
 | k + 1, x0, x5, x6, x7, x8 => if x6 > 0 then (if x6 = 0 then (none) else (fp_Inv.l0 k x0 x6 (wrap64 (x5 - (wrap64 ((wrap64 (Int.tdiv x5 x6)) * x6)))) x8 (wrap64 (x7 - (wrap64 ((wrap64 (Int.tdiv x5 x6)) * x8)))))) else ((fp_Mod.f x0 x7).bind fun t101 => (some t101))
def fp_Inv.f (k : Nat) (a0 : Int) (a1 : Int) : Option (Int) := fp_Inv.l0 k a0 a0 a1 0 1
theorem fp_Inv.mono_l : ∀ k, (∀ y0 y1 y2 y3 y4, LeO (fp_Inv.l0 k y0 y1 y2 y3 y4) (fp_Inv.l0 (k + 1) y0 y1 y2 y3 y4))
 | 0 => fun _ _ _ _ _ r h => by simp [fp_Inv.l0] at h
 | k + 1 => by
  have ih0 := fp_Inv.mono_l k
  intro y0 y1 y2 y3 y4
  unfold fp_Inv.l0
  with_reducible repeat' first | exact ih0 _ _ _ _ _ | exact LeO.refl _ | exact LeO.none _ | refine LeO.ite ?_ ?_ | refine LeO.bind ?_ (fun _ => ?_)
theorem fp_Inv.mono : ∀ a0 a1 k, LeO (fp_Inv.f k a0 a1) (fp_Inv.f (k + 1) a0 a1) := by
 intro a0 a1 k
 have ih0 := fp_Inv.mono_l k
 unfold fp_Inv.f
 with_reducible repeat' first | exact ih0 _ _ _ _ _ | exact LeO.refl _ | exact LeO.none _ | refine LeO.ite ?_ ?_ | refine LeO.bind ?_ (fun _ => ?_)
theorem fp_Inv.calls (k : Nat) (a0 : Int) (a1 : Int) (r : Int) (w : World) (h : fp_Inv.f k a0 a1 = some r) :
  Calls Try.prog 114 #[.int .i64 a0, .int .i64 a1] w fun e w' => e = .returned (.int .i64 r) ∧ Drawn0 w w' := by
 have H := h; clear h; unfold fp_Inv.f at H
 have H' := Aside0.mk H
 clear H
 go_enter Try.func114, Try.ntmps114
 go_wp2
 go_loopg [5, 6, 7, 8] k (fun kq v5 v6 v7 v8 w' => ∃ (x5_1 : Int) (x6_1 : Int) (x7_1 : Int) (x8_1 : Int), v5 = .int .i64 x5_1 ∧ v6 = .int .i64 x6_1 ∧ v7 = .int .i64 x7_1 ∧ v8 = .int .i64 x8_1 ∧ Aside0 (fp_Inv.l0 kq a0 x5_1 x6_1 x7_1 x8_1 = some r) ∧ Aside0 (kq ≤ k) ∧ Drawn0 w w')
 case atStart => exact ⟨(a0), (a1), (0), (1), zX, zX, zX, zX, H', ⟨Nat.le_refl _⟩, by repeat (first | exact Drawn0.refl _ | apply Drawn0.step)⟩
 case round =>
  clear H'
  try clear c1; try clear p2
  obtain ⟨x5_1, x6_1, x7_1, x8_1, rfl, rfl, rfl, rfl, HA, HK1, ⟨m1, rfl⟩⟩ := hrel
  cases gk with
  | zero => exact absurd HA.out (by simp [fp_Inv.l0])
  | succ k1 =>
   have H := HA.out
   clear HA
   simp only [fp_Inv.l0] at H
   by_cases c3 : x6_1 > 0
   rotate_left
   ·rw [if_neg c3] at H
    have c3b0 := decide_eq_false c3; clear c3
    obtain ⟨t101, A5, H⟩ := zO H
    obtain rfl := Option.some.inj H
    go_wp2_with (first | ((with_reducible refine gate_callee (f := 119) rfl ?_); refine zG (some 31) Try.func119 #[.int .i64 a0, .int .i64 x7_1] ?_; (with_reducible refine (fp_Mod.calls a0 x7_1 t101 _ A5.out).mono ?_); rintro e w' ⟨rfl, ⟨nd, rfl⟩⟩; refine ⟨_, rfl, ?_⟩))
    go_ret
    exact ⟨by first | rfl | (simp; done) | (simp [*]; done), by repeat (first | exact Drawn0.refl _ | apply Drawn0.step)⟩
   rw [if_pos c3] at H
   have c3b0 := decide_eq_true c3; clear c3
   by_cases c4 : x6_1 = 0
   ·rw [if_pos c4] at H
    exact absurd H (by simp)
   rw [if_neg c4] at H
   obtain ⟨c4b0, c4b1⟩ := zU c4
   have H' := Aside0.mk H
   clear H
   go_wp2
   go_roundg k1
   case measure => have := HK1.out; omega
   case rel => exact ⟨(x6_1), (wrap64 (x5_1 - (wrap64 ((wrap64 (Int.tdiv x5_1 x6_1)) * x6_1)))), (x8_1), (wrap64 (x7_1 - (wrap64 ((wrap64 (Int.tdiv x5_1 x6_1)) * x8_1)))), zX, zX, zX, zX, H', ⟨by have := HK1.out; omega⟩, by repeat (first | exact Drawn0.refl _ | apply Drawn0.step)⟩
end Go.Proofs.Ytalnaafmonmlmaa.Q
end
section
namespace Go.Proofs.Ytalnaafmonmlmaa.Q
open Go.RowKit Go.Proofs.YtalnaafmonmlmaaW.PrintWords Go.Proofs.YtalnaafmonmlmaaW.PrintLast Go.Proofs.YtalnaafmonmlmaaW.PrintMore
attribute [local go_sem] max2_int min2_int max_two min_two max_three min_three max_four min_four
set_option linter.unusedVariables false
set_option linter.unusedSimpArgs false
set_option maxHeartbeats 8000000
set_option maxRecDepth 100000
mutual
def fp_DivMod.l0 : Nat → Int → List Int → List Int → Int → List Int → Int → Int → Option (List Int × List Int)
 | 0, _, _, _, _, _, _, _ => none
 | k + 1, x0, x2, x8, x9, x10, x11, x12 => if x12 ≥ 0 then (if 0 ≤ (wrap64 ((wrap64 (x12 + x9)) - 1)) then (if (wrap64 ((wrap64 (x12 + x9)) - 1)) < (x8.length : Int) then (if x0 = 0 then (none) else (if 0 ≤ x12 then (if x12 < (x10.length : Int) then (fp_DivMod.l1 k x0 x2 x8 x9 (x10.set (x12 : Int).toNat (Int.tmod (wrap64 ((rd x8 (wrap64 ((wrap64 (x12 + x9)) - 1))) * x11)) x0)) x11 x12 (Int.tmod (wrap64 ((rd x8 (wrap64 ((wrap64 (x12 + x9)) - 1))) * x11)) x0) x2 (x2.length : Int) 0) else (none)) else (none))) else (none)) else (none)) else ((fp_Trim.f k x10).bind fun t112 => (if 0 ≤ (wrap64 (x9 - 1)) then (if (wrap64 (x9 - 1)) ≤ (x8.length : Int) then ((fp_Trim.f k (x8.take ((wrap64 (x9 - 1)) : Int).toNat)).bind fun t120 => (some (t112, t120))) else (none)) else (none)))
def fp_DivMod.l1 : Nat → Int → List Int → List Int → Int → List Int → Int → Int → Int → List Int → Int → Int → Option (List Int × List Int)
 | 0, _, _, _, _, _, _, _, _, _, _, _ => none
 | k + 1, x0, x2, x8, x9, x10, x11, x12, x13, x62, x63, x64 => if x64 < x63 then (if 0 ≤ x64 then (if x64 < (x62.length : Int) then (if 0 ≤ (wrap64 (x12 + x64)) then (if (wrap64 (x12 + x64)) < (x8.length : Int) then ((fp_Mod.f x0 (wrap64 ((rd x8 (wrap64 (x12 + x64))) - (wrap64 (x13 * (rd x62 x64)))))).bind fun t127 => (fp_DivMod.l1 k x0 x2 (x8.set ((wrap64 (x12 + x64)) : Int).toNat t127) x9 x10 x11 x12 x13 x62 x63 (wrap64 (x64 + 1)))) else (none)) else (none)) else (none)) else (none)) else (fp_DivMod.l0 k x0 x2 x8 x9 x10 x11 (wrap64 (x12 - 1)))
end
def fp_DivMod.f (k : Nat) (a0 : Int) (l1 : List Int) (l2 : List Int) : Option (List Int × List Int) := (some (([] : List Int) : List Int)).bind fun y101 => (if y101.length + l1.length < 17592186044416 then ((some (y101 ++ l1 : List Int)).bind fun y104 => (if (l1.length : Int) < (l2.length : Int) then (some (([] : List Int), y104)) else (if 0 ≤ (wrap64 ((wrap64 ((l1.length : Int) - (l2.length : Int))) + 1)) then (if (wrap64 ((wrap64 ((l1.length : Int) - (l2.length : Int))) + 1) : Int).toNat ≤ 35184372088832 then (if 0 ≤ (wrap64 ((l2.length : Int) - 1)) then (if (wrap64 ((l2.length : Int) - 1)) < (l2.length : Int) then ((fp_Inv.f k a0 (rd l2 (wrap64 ((l2.length : Int) - 1)))).bind fun t111 => (fp_DivMod.l0 k a0 l2 y104 (l2.length : Int) (List.replicate (wrap64 ((wrap64 ((l1.length : Int) - (l2.length : Int))) + 1) : Int).toNat 0) t111 (wrap64 ((l1.length : Int) - (l2.length : Int))))) else (none)) else (none)) else (none)) else (none)))) else (none))
theorem fp_DivMod.mono_l : ∀ k, (∀ y0 y1 y2 y3 y4 y5 y6, LeO (fp_DivMod.l0 k y0 y1 y2 y3 y4 y5 y6) (fp_DivMod.l0 (k + 1) y0 y1 y2 y3 y4 y5 y6)) ∧ (∀ y0 y1 y2 y3 y4 y5 y6 y7 y8 y9 y10, LeO (fp_DivMod.l1 k y0 y1 y2 y3 y4 y5 y6 y7 y8 y9 y10) (fp_DivMod.l1 (k + 1) y0 y1 y2 y3 y4 y5 y6 y7 y8 y9 y10))
 | 0 => ⟨fun _ _ _ _ _ _ _ r h => by simp [fp_DivMod.l0] at h, fun _ _ _ _ _ _ _ _ _ _ _ r h => by simp [fp_DivMod.l1] at h⟩
 | k + 1 => by
  obtain ⟨ih0, ih1⟩ := fp_DivMod.mono_l k
  refine ⟨?_, ?_⟩
  ·intro y0 y1 y2 y3 y4 y5 y6
   unfold fp_DivMod.l0
   with_reducible repeat' first | exact ih0 _ _ _ _ _ _ _ | exact ih1 _ _ _ _ _ _ _ _ _ _ _ | exact fp_Inv.mono _ _ _ | exact fp_Trim.mono _ _ | exact LeO.refl _ | exact LeO.none _ | refine LeO.ite ?_ ?_ | refine LeO.bind ?_ (fun _ => ?_)
  intro y0 y1 y2 y3 y4 y5 y6 y7 y8 y9 y10
  unfold fp_DivMod.l1
  with_reducible repeat' first | exact ih0 _ _ _ _ _ _ _ | exact ih1 _ _ _ _ _ _ _ _ _ _ _ | exact fp_Inv.mono _ _ _ | exact fp_Trim.mono _ _ | exact LeO.refl _ | exact LeO.none _ | refine LeO.ite ?_ ?_ | refine LeO.bind ?_ (fun _ => ?_)
theorem fp_DivMod.mono : ∀ a0 a1 a2 k, LeO (fp_DivMod.f k a0 a1 a2) (fp_DivMod.f (k + 1) a0 a1 a2) := by
 intro a0 a1 a2 k
 obtain ⟨ih0, ih1⟩ := fp_DivMod.mono_l k
 unfold fp_DivMod.f
 with_reducible repeat' first | exact ih0 _ _ _ _ _ _ _ | exact ih1 _ _ _ _ _ _ _ _ _ _ _ | exact fp_Inv.mono _ _ _ | exact fp_Trim.mono _ _ | exact LeO.refl _ | exact LeO.none _ | refine LeO.ite ?_ ?_ | refine LeO.bind ?_ (fun _ => ?_)
def fp_DivMod.T17 : Bool × List (List Nat × List Nat) := (true, [([], []), ([0], [0]), ([], []), ([], []), ([3], [3]), ([2, 4], [2, 4]), ([5, 1], [5]), ([1, 6, 0, 1], [1]), ([6, 7, 0, 1, 2, 3, 4, 5, 6, 7], [6])])
def fp_DivMod.B17 : List Nat := [0, 1, 0, 0, 8, 28, 63, 127, 255]
theorem fp_DivMod.tab17 : rtab .any (opsOf Try.f106 17) = fp_DivMod.T17 := by kernel_rfl
theorem fp_DivMod.bits17 : waitsOk fp_DivMod.T17.2 fp_DivMod.B17 = true := by kernel_rfl
theorem fp_DivMod.calls (k : Nat) (a0 : Int) (A1 : Option Addr) (c1 : Nat) (l1 : List Int) (A2 : Option Addr) (c2 : Nat) (l2 : List Int) (r1 : List Int) (r2 : List Int) (w : World) (hr1 : Kd.C (Kd.int .i64) w A1 l1.length l1) (hc1 : l1.length ≤ c1) (hr2 : Kd.C (Kd.int .i64) w A2 l2.length l2) (hc2 : l2.length ≤ c2) (h : fp_DivMod.f k a0 l1 l2 = some (r1, r2)) :
  Calls Try.prog 106 #[.int .i64 a0, .slice A1 l1.length c1, .slice A2 l2.length c2] w fun e w' => ∃ v0_ v1_ : Value, e = .returned (.tuple #[v0_, v1_]) ∧ Kd.V (Kd.int .i64) 3 w' w.heap.size (fun k_ => (w.heap.size ≤ k_)) v0_ r1 ∧ Kd.V (Kd.int .i64) 3 w' w.heap.size (fun k_ => (w.heap.size ≤ k_)) v1_ r2 ∧ Below w.heap.size w w' := by
 have HR1 := Aside0.mk hr1
 have HC1 := Aside0.mk hc1
 clear hr1 hc1
 have HR2 := Aside0.mk hr2
 have HC2 := Aside0.mk hc2
 clear hr2 hc2
 have HB := Aside0.mk (Below.refl w.heap.size w)
 have H := h; clear h; unfold fp_DivMod.f at H
 obtain ⟨y101, Ny101, H⟩ := zY H
 by_cases c4 : y101.length + l1.length < 17592186044416
 rotate_left
 ·rw [if_neg c4] at H
  exact absurd H (by simp)
 rw [if_pos c4] at H
 have LMc4 := Aside0.mk c4
 clear c4
 obtain ⟨y104, Ny104, H⟩ := zY H
 by_cases c5 : (l1.length : Int) < (l2.length : Int)
 ·rw [if_pos c5] at H
  have c5b0 : decide ((l1.length : Int) < (l2.length : Int)) = true := decide_eq_true c5
  have c5b1 : decide (l1.length < l2.length) = true := decide_eq_true (Int.ofNat_lt.mp c5)
  clear c5
  simp only [Option.some.injEq, Prod.mk.injEq] at H
  obtain ⟨rfl, rfl⟩ := H
  go_enter Try.func106, Try.ntmps106
  go_wp2_with (first | ((with_reducible refine gate_dst (N := 16) rfl ?_); refine Kd.R_lit (Kd.int .i64) _ 3 ?hg (N := 16) ?hd (xs := ([] : List Int)) (inner := []) (ok := fun _ => True) (okp := fun _ => True) ?hr ?hp (fun _ hk => hk) trivial (Below.refl _ _) (Nat.le_refl _) (by simp) ?_; (case hd => rfl); (case hg => rfl); (case hr => go_simp <;> rfl); (case hp => exact (Reps.none _ _)); intro v102 w6 ho7 hb hg_ hnew_; clear hg_ hnew_; (first | rw [← Ny101.out] at ho7 | (simp only [Int.reduceToNat] at ho7; rw [← Ny101.out] at ho7)); have HO103 := Aside0.mk (Kd.R_lower (Kd.R_newM (M := fun k_ => (w.heap.size ≤ k_)) ho7 (zS HB) (fun k_ h_ => h_)) (zS HB)); replace HB := zBb HB hb; clear hb ho7) | ((with_reducible refine gate_builtin (b := .append) (xs := #[.tmp 16, .tmp 17]) rfl ?_); at_builtin; refine Kd.R_append_rows (Kd.int .i64) (w0 := w) w.heap.size rfl (.tmp 16) (.tmp 17) 25 3 (.int .i64 0) 8 rfl Try.underlying25 info3 rfl (by decide) (by omega) v102 y101 l1 _ _ _ (fun k_ => (w.heap.size ≤ k_)) (fun _ => False) rfl rfl ?aO ?aR (fun _ _ h => h) (fun _ h => h.elim) ?aF ?aB ?aS ?aL ?_; (case aR => exact zC (Kd.C_below HR1.out HB.out)); (case aB => exact (zT)); (case aF => exact (fun k_ hk => (Nat.le_trans (zS HB) hk))); (case aO => exact (zR (Kd.R_mono HO103.out (fun _ hk => hk.1)))); (case aS => exact (zS HB)); (case aL => have := LMc4.out; omega); intro v105 w8 ho hb hg hat; rw [← Ny104.out] at ho; replace HB := Aside0.mk (hb); have HO106 := Aside0.mk (ho); clear HO103; clear ho hb hg hat))
  go_ret2
  exact ⟨_, _, zQ, zL, Kd.R_V (zR HO106.out), zT⟩
 rw [if_neg c5] at H
 have c5b0 : decide ((l1.length : Int) < (l2.length : Int)) = false := decide_eq_false c5
 have c5b1 : decide (l1.length < l2.length) = false := decide_eq_false (fun h => c5 (Int.ofNat_lt.mpr h))
 clear c5
 obtain ⟨ji9, hji9⟩ : ∃ j_ : Int, (wrap64 ((wrap64 ((l1.length : Int) - (l2.length : Int))) + 1)) = j_ := ⟨_, rfl⟩
 first | rw [hji9] at H | simp only [hji9] at H
 have hji9w : (IntKind.i64.wrap ((wrap64 ((l1.length : Int) - (l2.length : Int))) + 1)) = ji9 := (i64_w _).trans hji9
 by_cases c10 : 0 ≤ (ji9)
 rotate_left
 ·rw [if_neg c10] at H
  exact absurd H (by simp)
 rw [if_pos c10] at H
 have c10b0 := eq_true c10; have c10b1 := decide_eq_true c10; clear c10
 by_cases c11 : (ji9 : Int).toNat ≤ 35184372088832
 rotate_left
 ·rw [if_neg c11] at H
  exact absurd H (by simp)
 rw [if_pos c11] at H
 have c11b0 := eq_true c11; have c11b1 := decide_eq_true c11; clear c11
 obtain ⟨y107, Ny107⟩ := zA ((List.replicate (ji9 : Int).toNat 0) : List Int); rw [← Ny107.out] at H
 obtain ⟨ji12, hji12⟩ : ∃ j_ : Int, (wrap64 ((l2.length : Int) - 1)) = j_ := ⟨_, rfl⟩
 first | rw [hji12] at H | simp only [hji12] at H
 have hji12w : (IntKind.i64.wrap ((l2.length : Int) - 1)) = ji12 := (i64_w _).trans hji12
 by_cases c13 : 0 ≤ (ji12)
 rotate_left
 ·rw [if_neg c13] at H
  exact absurd H (by simp)
 rw [if_pos c13] at H
 have c13b0 := decide_eq_true c13; clear c13
 by_cases c14 : (ji12) < (l2.length : Int)
 rotate_left
 ·rw [if_neg c14] at H
  exact absurd H (by simp)
 rw [if_pos c14] at H
 have c14b0 := decide_eq_true c14; clear c14
 obtain ⟨t111, A15, H⟩ := zO H
 have H' := Aside0.mk H
 clear H
 go_enter Try.func106, Try.ntmps106
 go_wp2_with (first | ((with_reducible refine gate_dst (N := 16) rfl ?_); refine Kd.R_lit (Kd.int .i64) _ 3 ?hg (N := 16) ?hd (xs := ([] : List Int)) (inner := []) (ok := fun _ => True) (okp := fun _ => True) ?hr ?hp (fun _ hk => hk) trivial (Below.refl _ _) (Nat.le_refl _) (by simp) ?_; (case hd => rfl); (case hg => rfl); (case hr => go_simp <;> rfl); (case hp => exact (Reps.none _ _)); intro v102 w16 ho17 hb hg_ hnew_; clear hg_ hnew_; (first | rw [← Ny101.out] at ho17 | (simp only [Int.reduceToNat] at ho17; rw [← Ny101.out] at ho17)); have HO103 := Aside0.mk (Kd.R_lower (Kd.R_newM (M := fun k_ => (w.heap.size ≤ k_)) ho17 (zS HB) (fun k_ h_ => h_)) (zS HB)); replace HB := zBb HB hb; clear hb ho17) | ((with_reducible refine gate_builtin (b := .append) (xs := #[.tmp 16, .tmp 17]) rfl ?_); at_builtin; refine Kd.R_append_rows (Kd.int .i64) (w0 := w) w.heap.size rfl (.tmp 16) (.tmp 17) 25 3 (.int .i64 0) 8 rfl Try.underlying25 info3 rfl (by decide) (by omega) v102 y101 l1 _ _ _ (fun k_ => (w.heap.size ≤ k_)) (fun _ => False) rfl rfl ?aO ?aR (fun _ _ h => h) (fun _ h => h.elim) ?aF ?aB ?aS ?aL ?_; (case aR => exact zC (Kd.C_below HR1.out HB.out)); (case aB => exact (zT)); (case aF => exact (fun k_ hk => (Nat.le_trans (zS HB) hk))); (case aO => exact (zR (Kd.R_mono HO103.out (fun _ hk => hk.1)))); (case aS => exact (zS HB)); (case aL => have := LMc4.out; omega); intro v105 w18 ho hb hg hat; rw [← Ny104.out] at ho; replace HB := Aside0.mk (hb); have HO106 := Aside0.mk (ho); clear HO103; clear ho hb hg hat) | ((with_reducible refine gate_dst (N := 31) rfl ?_); refine Kd.R_make (Kd.int .i64) _ 3 rfl (N := 31) rfl 25 _ _ rfl ji9 rfl rfl Try.underlying25 (.int .i64 0) 8 info3 rfl (by decide) (by omega) 0 (ok := fun _ => True) (okp := fun _ => True) rfl (fun _ hk => hk) trivial zD (Nat.le_trans (Nat.mul_le_mul_right _ (zD : ji9.toNat ≤ 35184372088832)) (by omega)) (Below.refl _ _) (Nat.le_refl _) ?_; intro v108 w19 ho20 hb hg_ hnew_; clear hg_ hnew_; (first | rw [← Ny107.out] at ho20 | (simp only [Int.reduceToNat] at ho20; rw [← Ny107.out] at ho20)); have HO109 := Aside0.mk (Kd.R_lower (Kd.R_new' (Kd.R_newM (M := fun k_ => (w.heap.size ≤ k_)) ho20 (zS HB) (fun k_ h_ => h_)) (Kd.R_lt (zR HO106.out))) (zS HB)); replace HO106 := Aside0.mk (Kd.R_elder' (zR HO106.out) (Kd.R_base ho20) hb); replace HB := zBb HB hb; clear hb ho20; have p110 : 0 ≤ ((ji12) : Int) := zD; have q110 : (ji12) < (l2.length : Int) := zD; obtain ⟨ad110, e110, hx110_0⟩ := Kd.at_int HR2.out (ji12) p110 q110; cases e110; replace hx110_0 := (HB.out.cell (World.block_lt_of_cell? w _ hx110_0)).trans hx110_0; replace p110 := eq_true p110; replace q110 := eq_true q110) | ((with_reducible refine gate_callee (f := 114) rfl ?_); refine zH (some 38) Try.func114 #[.int .i64 a0, .int .i64 (rd l2 (ji12))] rfl (by (try simp only [List.map_toArray, List.map_cons, List.map_nil]); first | done | (simp only [hji12]; rfl) | rfl | (simp only [List.length_drop, List.length_take]; rfl)) ?_; (with_reducible refine (fp_Inv.calls k a0 (rd l2 (ji12)) t111 _ A15.out).mono ?_); rintro e w' ⟨rfl, ⟨nd, rfl⟩⟩; refine ⟨_, rfl, ?_⟩))
 go_loopg [12] k (fun kq v12 w' => ∃ (x8_1 : List Int) (x10_1 : List Int) (x12_1 : Int), v12 = .int .i64 x12_1 ∧ Aside0 (fp_DivMod.l0 kq a0 l2 x8_1 (l2.length : Int) x10_1 t111 x12_1 = some (r1, r2)) ∧ Aside0 (kq ≤ k) ∧ Aside0 (Kd.R (Kd.int .i64) 3 w' w.heap.size (fun k_ => (w.heap.size ≤ k_) ∧ some k_ ≠ (v108 : Value).ownBlock) v105 x8_1) ∧ Aside0 (Kd.R (Kd.int .i64) 3 w' w.heap.size (fun k_ => (w.heap.size ≤ k_) ∧ some k_ ≠ (v105 : Value).ownBlock) v108 x10_1) ∧ Aside0 (Below w.heap.size w w'))
 case atStart => exact ⟨(y104), (y107), (wrap64 ((l1.length : Int) - (l2.length : Int))), zX, H', ⟨Nat.le_refl _⟩, ⟨zR HO106.out⟩, ⟨zR (Kd.R_mono HO109.out (fun _ hk => ⟨hk.1.1, hk.2⟩))⟩, ⟨zT⟩⟩
 case round =>
  clear H'
  try clear c1; try clear p1; try clear q1; try clear hx1; try clear c2; try clear p2; try clear c4; try clear c5; try clear c5b0; try clear c5b1; try clear p6; try clear c10; try clear c10b0; try clear c10b1; try clear c11; try clear c11b0; try clear c11b1; try clear p11; try clear q11; try clear hx11; try clear c13; try clear c13b0; try clear c14; try clear c14b0; try clear hx110_0; try clear p110; try clear q110
  obtain ⟨x8_1, x10_1, x12_1, rfl, HA, HK1, HO_8, HO_10, HB⟩ := hrel
  cases gk with
  | zero => exact absurd HA.out (by simp [fp_DivMod.l0])
  | succ k1 =>
   have H := HA.out
   clear HA
   simp only [fp_DivMod.l0] at H
   by_cases c21 : x12_1 ≥ 0
   rotate_left
   ·rw [if_neg c21] at H
    have c21b0 := decide_eq_false c21; clear c21
    obtain ⟨t112, A42, H⟩ := zO H
    have hji43 : (wrap64 ((l2.length : Int) - 1)) = ji12 := hji12
    first | rw [hji43] at H | simp only [hji43] at H
    (try rw [hji43] at A42)
    have hji43w : (IntKind.i64.wrap ((l2.length : Int) - 1)) = ji12 := (i64_w _).trans hji43
    by_cases c44 : 0 ≤ (ji12)
    rotate_left
    ·rw [if_neg c44] at H
     exact absurd H (by simp)
    rw [if_pos c44] at H
    have c44b0 := eq_true c44; have c44b1 := decide_eq_true c44; clear c44
    by_cases c45 : (ji12) ≤ (x8_1.length : Int)
    rotate_left
    ·rw [if_neg c45] at H
     exact absurd H (by simp)
    rw [if_pos c45] at H
    have c45b0 := eq_true c45; have c45b1 := decide_eq_true c45; clear c45
    obtain ⟨y115, Ny115⟩ := zA ((x8_1.take ((ji12) : Int).toNat) : List Int); rw [← Ny115.out] at H
    obtain ⟨t120, A46, H⟩ := zO H
    simp only [Option.some.injEq, Prod.mk.injEq] at H
    obtain ⟨rfl, rfl⟩ := H
    try go_wp2
    replace HO_8 := Aside0.mk (Kd.R_drew HO_8.out)
    replace HO_10 := Aside0.mk (Kd.R_drew HO_10.out)
    replace HB := Aside0.mk (below_drew1 HB.out)
    obtain ⟨Ao49, co49, eo49⟩ := Kd.R_slice HO_8.out
    (first | subst eo49 | (injection eo49 with f1_ f2_ f3_; have f4_ := f1_.symm; have f5_ := f3_.symm; clear f1_ f2_ f3_; subst f4_; subst f5_))
    have q48 : ((ji12) : Int) ≤ ((x8_1.length : Int) : Int) := zD
    obtain ⟨i048, hi048, _, hsz48, _⟩ := info_parts info3
    have hroom48 : x8_1.length ≤ co49 := (Kd.R_reads' HO_8.out).2.1
    have hC48 : Kd.F (Kd.int .i64) _ _ Ao49 x8_1.length x8_1 := (Kd.V_at (base := w.heap.size) (Kd.R_V HO_8.out)).2.2
    have hcut48 := cut_to (P := Try.prog) 25 3 .i64 Try.underlying25 hi048 Ao49 x8_1.length co49 (ji12) zD q48 hroom48
    have hr48 := Kd.F_take (m := ((ji12) : Int).toNat) hC48 (by omega)
    have hy48 : y115.length = ((ji12) : Int).toNat := (by rw [Ny115.out, List.length_take]; omega)
    rw [← Ny115.out] at hr48
    rw [← hy48] at hcut48
    have HO119 := Aside0.mk (show Kd.V (Kd.int .i64) 3 _ w.heap.size _ (.slice Ao49 y115.length co49) y115 from Kd.V_mk (by omega) hr48)
    have HC119 := Aside0.mk (show y115.length ≤ co49 from by omega)
    clear hr48 hC48 hroom48 hi048 hsz48
    have KY48 := Aside0.mk hy48
    clear hy48
    replace q48 := eq_true q48
    obtain ⟨Ao50, co50, eo50⟩ := Kd.R_slice HO_10.out
    (first | subst eo50 | (injection eo50 with f1_ f2_ f3_; have f4_ := f1_.symm; have f5_ := f3_.symm; clear f1_ f2_ f3_; subst f4_; subst f5_))
    refine start_ (n := 9) (S := fun w' => True) (ds := []) #[false, false, false, false, false, false, false, false, false] (by kernel_rfl) rfl rfl trivial (fun hHeld => ?_); refine with_tabW fp_DivMod.tab17 fp_DivMod.bits17 (fun HT_ HW_ => ?_)
    generalize wr.drew = w47 at HO_8 HO_10 HB HO119 hHeld ⊢
    refine zP 0 87 ?_; refine zP 2 89 ?_; refine zP 3 90 ?_; refine zP 4 91 ?_; refine zP 5 92 ?_
    refine one_ (i := 1) (N := some 88) #[true, true, true, true, true, true, false, false, false] rfl rfl (one_of HT_.out (by kernel_rfl)) (by decide) (fun K hK => ?_)
    refine goes_ Try.func92 (by kernel_rfl) rfl #[.slice Ao50 x10_1.length co50] (by rfl) rfl rfl (by (try simp only [List.map_toArray, List.map_cons, List.map_nil]); first | done | rfl | (simp only [List.length_drop, List.length_take]; rfl)) ?_
    with_reducible refine (fp_Trim.calls k1 (fun k_ => some k_ = (.slice Ao50 x10_1.length co50 : Value).ownBlock) _ _ x10_1 t112 _ ?side1 A42.out).mono ?_
    (case side1 => exact Kd.R_V (Kd.R_tight rfl (HO_10.out)))
    rintro e w51 ⟨v113, rfl, ho0, hb⟩
    refine ⟨_, rfl, ?_⟩
    replace HO119 := zVb HO119 hb
    have HO114 := Aside0.mk (Kd.V_lower (Kd.V_mono (ok' := fun k_ => (w.heap.size ≤ k_) ∧ some k_ ≠ (.slice Ao49 x8_1.length co49 : Value).ownBlock) ho0 (fun k_ hk_ => ⟨Or.elim hk_ (fun hs_ => ((HO_10.out).1 k_ hs_.symm).1) (fun hn_ => (Nat.le_trans (zS HB) hn_)), Or.elim hk_ (fun hs_ => ((HO_10.out).1 k_ hs_.symm).2) (fun hn_ => (Kd.fresh' (Kd.R_lt (zR HO_8.out)) k_ hn_))⟩)) (zS HB))
    replace HO_8 := zRb HO_8 hb
    replace HO_10 := zRb HO_10 hb
    replace HB := zBb HB hb
    (try clear hb)
    (try clear hb2)
    (try clear hk)
    (try clear hi)
    (try clear ho0)
    refine hK.out _ _ trivial (fun hHeld => ?_)
    clear hK K
    refine norm_ (a' := ?_) ?_ ?_
    rotate_left
    ·show Act.put _ (some 88) _ = _
     simp only [Act.put, List.setIfInBounds_toArray, List.set_cons_zero, List.set_cons_succ, i64_w, i32_w]
     rfl
    refine one_ (i := 6) (N := some 93) #[true, true, true, true, true, true, true, false, false] rfl rfl (one_of HT_.out (by kernel_rfl)) (by decide) (fun K hK => ?_)
    refine goes_ Try.func92 (by kernel_rfl) rfl #[.slice Ao49 y115.length co49] (by rfl) rfl rfl (by (try simp only [List.map_toArray, List.map_cons, List.map_nil]); first | done | rfl | (simp only [List.length_drop, List.length_take]; rfl)) ?_
    with_reducible refine (fp_Trim.calls k1 (fun k_ => ((w.heap.size ≤ k_) ∧ some k_ ≠ (.slice Ao50 x10_1.length co50 : Value).ownBlock)) _ _ y115 t120 _ ?side1 A46.out).mono ?_
    (case side1 => exact HO119.out)
    rintro e w52 ⟨v121, rfl, ho0, hb⟩
    refine ⟨_, rfl, ?_⟩
    replace HO_8 := zRb HO_8 hb
    replace HO119 := zVb HO119 hb
    replace HO114 := zVb HO114 hb
    have HO122 := Aside0.mk (Kd.V_lower (Kd.V_mono (ok' := fun k_ => (w.heap.size ≤ k_) ∧ some k_ ≠ (.slice Ao50 x10_1.length co50 : Value).ownBlock) ho0 (fun k_ hk_ => ⟨Or.elim hk_ (fun hs_ => hs_.1) (fun hn_ => (Nat.le_trans (zS HB) hn_)), Or.elim hk_ (fun hs_ => hs_.2) (fun hn_ => (Kd.fresh' (Kd.R_lt (zR HO_10.out)) k_ hn_))⟩)) (zS HB))
    replace HO_10 := zRb HO_10 hb
    replace HB := zBb HB hb
    (try clear hb)
    (try clear hb2)
    (try clear hk)
    (try clear hi)
    (try clear ho0)
    refine hK.out _ _ trivial (fun hHeld => ?_)
    clear hK K
    refine norm_ (a' := ?_) ?_ ?_
    rotate_left
    ·show Act.put _ (some 93) _ = _
     simp only [Act.put, List.setIfInBounds_toArray, List.set_cons_zero, List.set_cons_succ, i64_w, i32_w]
     rfl
    refine zP 7 6 ?_; refine zP 8 7 ?_
    refine done_ (done_of HT_.out (by kernel_rfl)) ?_
    try go_wp2
    go_ret2
    exact ⟨_, _, by first | rfl | (simp [errW_none, errW_some] <;> rfl) | (simp only [← hji9, ← hji12, ← hji43]; first | rfl | (simp [errW_none, errW_some] <;> rfl)) | (simp [*, errW_none, errW_some] <;> rfl), zV (Kd.V_mono HO114.out (fun _ hk => hk.1)), zV (Kd.V_mono HO122.out (fun _ hk => hk.1)), zT⟩
   rw [if_pos c21] at H
   have c21b0 := decide_eq_true c21; clear c21
   obtain ⟨ji22, hji22⟩ : ∃ j_ : Int, (wrap64 ((wrap64 (x12_1 + (l2.length : Int))) - 1)) = j_ := ⟨_, rfl⟩
   first | rw [hji22] at H | simp only [hji22] at H
   have hji22w : (IntKind.i64.wrap ((wrap64 (x12_1 + (l2.length : Int))) - 1)) = ji22 := (i64_w _).trans hji22
   by_cases c23 : 0 ≤ (ji22)
   rotate_left
   ·rw [if_neg c23] at H
    exact absurd H (by simp)
   rw [if_pos c23] at H
   have c23b0 := decide_eq_true c23; clear c23
   by_cases c24 : (ji22) < (x8_1.length : Int)
   rotate_left
   ·rw [if_neg c24] at H
    exact absurd H (by simp)
   rw [if_pos c24] at H
   have c24b0 := decide_eq_true c24; clear c24
   by_cases c25 : a0 = 0
   ·rw [if_pos c25] at H
    exact absurd H (by simp)
   rw [if_neg c25] at H
   obtain ⟨c25b0, c25b1⟩ := zU c25
   by_cases c26 : 0 ≤ x12_1
   rotate_left
   ·rw [if_neg c26] at H
    exact absurd H (by simp)
   rw [if_pos c26] at H
   have c26b0 := decide_eq_true c26; clear c26
   by_cases c27 : x12_1 < (x10_1.length : Int)
   rotate_left
   ·rw [if_neg c27] at H
    exact absurd H (by simp)
   rw [if_pos c27] at H
   have c27b0 := decide_eq_true c27; clear c27
   obtain ⟨y124, Ny124⟩ := zA ((x10_1.set (x12_1 : Int).toNat (Int.tmod (wrap64 ((rd x8_1 (ji22)) * t111)) a0)) : List Int); rw [← Ny124.out] at H
   have H' := Aside0.mk H
   clear H
   obtain ⟨Ao29, co29, eo29⟩ := Kd.R_slice HO_8.out
   subst eo29
   obtain ⟨p123, q123, ad123, e123, hx123_0⟩ := zI ((Kd.R_reads' HO_8.out).2.2) ((ji22)) zD zD
   cases e123
   have p28 : 0 ≤ (x12_1 : Int) := zD
   have q28 : (x12_1 : Int) < ((x10_1.length : Int) : Int) := zD
   obtain ⟨go28, co28, eo28, gb28, gl28, cl28, HG28⟩ := Kd.R_form HO_10.out (by omega)
   (first | cases eo28 | (injection eo28 with ea_ en_ ec_; (first | subst ea_ | (injection ea_ with ea_; subst ea_)); subst ec_; clear en_))
   have GB28 := Aside0.mk gb28
   have GG28 := Aside0.mk HG28
   clear gb28 gl28 HG28
   obtain ⟨hx28_0, hf28_0⟩ := Kd.R_celln 0 HO_10.out (x12_1 : Int) p28 q28
   replace p28 := eq_true p28
   replace q28 := eq_true q28
   have HP30 := Kd.R_putg HO_10.out (x12_1 : Int) (Int.tmod (wrap64 ((rd x8_1 (ji22)) * t111)) a0)
   go_wp2_with (first | ((with_reducible refine gate_store (t := 3) (p := 61) rfl ?_); refine store_event (t := 3) (p := 61) (v := ?vo_w31) (w1 := (wr.setCell ⟨go28, (x12_1 : Int).toNat, none⟩ (.int .i64 (Int.tmod (wrap64 ((rd x8_1 (ji22)) * t111)) a0)))) ?hg ?ho ?hn ?hr ?_; (case ho => rfl); (case hg => rfl); (case hn => rfl); (case hr => go_simp <;> rfl); intro w31 hw; have hg : wr.grownBy w31 (some go28) := (by rw [hw]; exact HP30.2); have hp_ : Kd.R (Kd.int .i64) 3 w31 w.heap.size (fun k_ => (w.heap.size ≤ k_) ∧ some k_ ≠ (.slice (some ad123) x8_1.length co29 : Value).ownBlock) (.slice (some ⟨go28, 0, none⟩) x10_1.length co28) y124 := (by rw [hw, Ny124.out]; exact HP30.1); clear HP30; replace HO_8 := Aside0.mk (Kd.R_after (v := (.slice (some ⟨go28, 0, none⟩) x10_1.length co28)) (v1 := (.slice (some ⟨go28, 0, none⟩) x10_1.length co28)) (ok := (fun k_ => (w.heap.size ≤ k_))) (zR HO_8.out) hg (.inl rfl)); replace HO_10 := Aside0.mk (hp_); replace HB := Aside0.mk ((by rw [hw]; exact below_set (HB.out) GB28.out : Below w.heap.size w w31)); clear hg hw hp_))
   go_loopg [64] k1 (fun kq v64 w' => ∃ (x8_2 : List Int) (x64_2 : Int), v64 = .int .i64 x64_2 ∧ Aside0 (fp_DivMod.l1 kq a0 l2 x8_2 (l2.length : Int) y124 t111 x12_1 (Int.tmod (wrap64 ((rd x8_1 (ji22)) * t111)) a0) l2 (l2.length : Int) x64_2 = some (r1, r2)) ∧ Aside0 (kq ≤ k1) ∧ Aside0 (Kd.R (Kd.int .i64) 3 w' w.heap.size (fun k_ => (w.heap.size ≤ k_) ∧ some k_ ≠ ((.slice (some ⟨go28, 0, none⟩) x10_1.length co28) : Value).ownBlock) (.slice (some ad123) x8_1.length co29) x8_2) ∧ Aside0 (Kd.R (Kd.int .i64) 3 w' w.heap.size (fun k_ => (w.heap.size ≤ k_) ∧ some k_ ≠ ((.slice (some ad123) x8_1.length co29) : Value).ownBlock) (.slice (some ⟨go28, 0, none⟩) x10_1.length co28) y124) ∧ Aside0 (Below w.heap.size w w'))
   case atStart => exact ⟨(x8_1), (0), zX, H', ⟨Nat.le_refl _⟩, ⟨zR HO_8.out⟩, ⟨zR HO_10.out⟩, ⟨zT⟩⟩
   case round =>
    clear H'
    try clear c1; try clear p1; try clear q1; try clear hx1; try clear c2; try clear p2; try clear q2; try clear hx2; try clear c4; try clear c5; try clear c5b0; try clear c5b1; try clear p6; try clear c10; try clear c10b0; try clear c10b1; try clear c11; try clear c11b0; try clear c11b1; try clear p11; try clear q11; try clear hx11; try clear p12; try clear q12; try clear hx12; try clear c13; try clear c13b0; try clear c14; try clear c14b0; try clear c21; try clear c21b0; try clear c23; try clear c23b0; try clear c24; try clear c24b0; try clear c25; try clear c25b0; try clear c25b1; try clear c26; try clear c26b0; try clear c27; try clear c27b0; try clear p28; try clear q28; try clear hx28; try clear hf28; try clear hx110_0; try clear hx123_0; try clear hx28_0; try clear p1; try clear p11; try clear p110; try clear p123; try clear p2; try clear p28; try clear p6; try clear q1; try clear q11; try clear q110; try clear q123; try clear q28
    obtain ⟨x8_2, x64_2, rfl, HA, HK2, HO_8, HO_10, HB⟩ := hrel
    have hl8_2 := (Kd.R_reads' HO_8.out).1
    rw [hl8_2] at HO_8
    (try simp only [hl8_2])
    (try simp only [hl8_2] at HO_10)
    have hl10_2 := (Kd.R_reads' HO_10.out).1
    rw [hl10_2] at HO_10
    (try simp only [hl10_2])
    (try simp only [hl10_2] at HO_8)
    cases gk with
    | zero => exact absurd HA.out (by simp [fp_DivMod.l1])
    | succ k2 =>
     have H := HA.out
     clear HA
     simp only [fp_DivMod.l1] at H
     by_cases c32 : x64_2 < (l2.length : Int)
     rotate_left
     ·rw [if_neg c32] at H
      have c32b0 : decide (x64_2 < (l2.length : Int)) = false := decide_eq_false c32
      (try (have c32b0_hl8_2 := c32b0; simp only [hl8_2] at c32b0_hl8_2))
      (try (have c32b0_hl10_2 := c32b0; simp only [hl10_2] at c32b0_hl10_2))
      clear c32
      have H' := Aside0.mk H
      clear H
      go_wp2
      (try simp only [← hl8_2, ← hl10_2])
      (first | go_roundg k2 | (simp only [show ∀ g_ : Nat, ({ block := g_, off := (ji9).toNat } : Addr) = ({ block := g_, off := 0 } : Addr).add (ji9).toNat from fun g_ => by simp [Addr.add], show ∀ g_ : Nat, ({ block := g_, off := (ji12).toNat } : Addr) = ({ block := g_, off := 0 } : Addr).add (ji12).toNat from fun g_ => by simp [Addr.add], show ∀ g_ : Nat, ({ block := g_, off := (ji22).toNat } : Addr) = ({ block := g_, off := 0 } : Addr).add (ji22).toNat from fun g_ => by simp [Addr.add]]; go_roundg k2))
      case measure => have := HK1.out; have := HK2.out; omega
      case rel => exact ⟨(x8_2), (y124), (wrap64 (x12_1 - 1)), zX, H', ⟨by have := HK1.out; have := HK2.out; omega⟩, ⟨by (try simp only [hl8_2]); (try simp only [hl10_2]); (with_reducible repeat (first | apply Kd.R_alloc | apply Kd.R_drewN | apply Kd.R_drew)); exact HO_8.out⟩, ⟨by (try simp only [hl8_2]); (try simp only [hl10_2]); (with_reducible repeat (first | apply Kd.R_alloc | apply Kd.R_drewN | apply Kd.R_drew)); exact HO_10.out⟩, ⟨zT⟩⟩
     rw [if_pos c32] at H
     have c32b0 : decide (x64_2 < (l2.length : Int)) = true := decide_eq_true c32
     (try (have c32b0_hl8_2 := c32b0; simp only [hl8_2] at c32b0_hl8_2))
     (try (have c32b0_hl10_2 := c32b0; simp only [hl10_2] at c32b0_hl10_2))
     clear c32
     by_cases c33 : 0 ≤ x64_2
     rotate_left
     ·rw [if_neg c33] at H
      exact absurd H (by simp)
     rw [if_pos c33] at H
     have c33b0 := decide_eq_true c33; clear c33
     by_cases c34 : x64_2 < (l2.length : Int)
     rotate_left
     ·rw [if_neg c34] at H
      exact absurd H (by simp)
     rw [if_pos c34] at H
     have c34b0 : decide (x64_2 < (l2.length : Int)) = true := decide_eq_true c34
     (try (have c34b0_hl8_2 := c34b0; simp only [hl8_2] at c34b0_hl8_2))
     (try (have c34b0_hl10_2 := c34b0; simp only [hl10_2] at c34b0_hl10_2))
     clear c34
     obtain ⟨ji35, hji35⟩ : ∃ j_ : Int, (wrap64 (x12_1 + x64_2)) = j_ := ⟨_, rfl⟩
     first | rw [hji35] at H | simp only [hji35] at H
     have hji35w : (IntKind.i64.wrap (x12_1 + x64_2)) = ji35 := (i64_w _).trans hji35
     by_cases c36 : 0 ≤ (ji35)
     rotate_left
     ·rw [if_neg c36] at H
      exact absurd H (by simp)
     rw [if_pos c36] at H
     have c36b0 := decide_eq_true c36; clear c36
     by_cases c37 : (ji35) < (x8_2.length : Int)
     rotate_left
     ·rw [if_neg c37] at H
      exact absurd H (by simp)
     rw [if_pos c37] at H
     have c37b0 : decide ((ji35) < (x8_2.length : Int)) = true := decide_eq_true c37
     (try (have c37b0_hl8_2 := c37b0; simp only [hl8_2] at c37b0_hl8_2))
     (try (have c37b0_hl10_2 := c37b0; simp only [hl10_2] at c37b0_hl10_2))
     clear c37
     obtain ⟨t127, A38, H⟩ := zO H
     obtain ⟨y128, Ny128⟩ := zA ((x8_2.set ((ji35) : Int).toNat t127) : List Int); rw [← Ny128.out] at H
     have H' := Aside0.mk H
     clear H
     obtain ⟨p125, q125, ad125, e125, hx125_0⟩ := zI (HR2.out) (x64_2) zD zD
     obtain rfl : ad110 = ad125 := (by injection e125)
     replace hx125_0 := (HB.out.cell (World.block_lt_of_cell? w _ hx125_0)).trans hx125_0
     obtain ⟨p126, q126, ad126, e126, hx126_0⟩ := zI ((Kd.R_reads' HO_8.out).2.2) ((ji35)) zD zD
     obtain rfl : ad123 = ad126 := (by injection e126)
     go_wp2_with (first | ((with_reducible refine gate_callee (f := 119) rfl ?_); refine zH (some 84) Try.func119 #[.int .i64 a0, .int .i64 (wrap64 ((rd x8_2 (ji35)) - (wrap64 ((Int.tmod (wrap64 ((rd x8_1 (ji22)) * t111)) a0) * (rd l2 x64_2)))))] rfl (by (try simp only [List.map_toArray, List.map_cons, List.map_nil]); first | done | (simp only [hji22, hji35]; rfl) | rfl | (simp only [List.length_drop, List.length_take]; rfl)) ?_; (with_reducible refine (fp_Mod.calls a0 (wrap64 ((rd x8_2 (ji35)) - (wrap64 ((Int.tmod (wrap64 ((rd x8_1 (ji22)) * t111)) a0) * (rd l2 x64_2))))) t127 _ A38.out).mono ?_); rintro e w' ⟨rfl, ⟨nd, rfl⟩⟩; refine ⟨_, rfl, ?_⟩; (try (rw [drewN_self wr]; generalize hq_ : World.drewN wr _ = wr; have n0_ : Aside0 (Kd.R (Kd.int .i64) 3 wr w.heap.size (fun k_ => (w.heap.size ≤ k_) ∧ some k_ ≠ (.slice (some ad123) x8_2.length co29 : Value).ownBlock) (.slice (some ⟨go28, 0, none⟩) y124.length co28) y124) := ⟨by rw [← hq_]; exact (zR HO_10.out)⟩; have n1_ : Aside0 (Kd.R (Kd.int .i64) 3 wr w.heap.size (fun k_ => (w.heap.size ≤ k_) ∧ some k_ ≠ (.slice (some ⟨go28, 0, none⟩) y124.length co28 : Value).ownBlock) (.slice (some ad123) x8_2.length co29) x8_2) := ⟨by rw [← hq_]; exact (zR HO_8.out)⟩; have n2_ : Aside0 (Below w.heap.size w wr) := ⟨by rw [← hq_]; exact (zT)⟩; clear HO_10 HO_8 HB hq_; have HO_10 := n0_; have HO_8 := n1_; have HB := n2_; clear n0_ n1_ n2_)); have p39 : 0 ≤ ((ji35) : Int) := zD; have q39 : ((ji35) : Int) < ((x8_2.length : Int) : Int) := zD; obtain ⟨go39, co39, eo39, gb39, gl39, cl39, HG39⟩ := Kd.R_form HO_8.out (by omega); (first | cases eo39 | (injection eo39 with ea_ en_ ec_; (first | subst ea_ | (injection ea_ with ea_; subst ea_)); subst ec_; clear en_)); have GB39 := Aside0.mk gb39; have GG39 := Aside0.mk HG39; clear gb39 gl39 HG39; (first | simp only [add_plain] at hx123_0 | skip); (first | simp only [add_plain] at hx126_0 | skip); obtain ⟨hx39_0, hf39_0⟩ := Kd.R_celln 0 HO_8.out ((ji35) : Int) p39 q39; replace p39 := eq_true p39; replace q39 := eq_true q39; obtain ⟨hy40_, hz40_⟩ := Kd.R_celln 0 HO_8.out ((ji35) : Int) zD zD; have HP40 := Kd.R_putg HO_8.out ((ji35) : Int) t127) | ((with_reducible refine gate_store (t := 3) (p := 85) rfl ?_); refine store_event (t := 3) (p := 85) (v := ?vo_w41) (w1 := (wr.setCell ⟨go39, ((ji35) : Int).toNat, none⟩ (.int .i64 t127))) ?hg ?ho ?hn ?hr ?_; (case ho => rfl); (case hg => rfl); (case hn => rfl); (case hr => go_simp <;> rfl); intro w41 hw; have hg : wr.grownBy w41 (some go39) := (by rw [hw]; exact HP40.2); have hp_ : Kd.R (Kd.int .i64) 3 w41 w.heap.size (fun k_ => (w.heap.size ≤ k_) ∧ some k_ ≠ (.slice (some ⟨go28, 0, none⟩) y124.length co28 : Value).ownBlock) (.slice (some ⟨go39, 0, none⟩) x8_2.length co29) y128 := (by rw [hw, Ny128.out]; exact HP40.1); clear HP40; replace HO_8 := Aside0.mk (hp_); replace HO_10 := Aside0.mk (Kd.R_after (v := (.slice (some ⟨go39, 0, none⟩) x8_2.length co29)) (v1 := (.slice (some ⟨go39, 0, none⟩) x8_2.length co29)) (ok := (fun k_ => (w.heap.size ≤ k_))) (zR HO_10.out) hg (.inl rfl)); replace HB := Aside0.mk ((by rw [hw]; exact below_set (HB.out) GB39.out : Below w.heap.size w w41)); clear hg hw hp_))
     (try simp only [← hl8_2, ← hl10_2])
     (first | go_roundg k2 | (simp only [show ∀ g_ : Nat, ({ block := g_, off := (ji9).toNat } : Addr) = ({ block := g_, off := 0 } : Addr).add (ji9).toNat from fun g_ => by simp [Addr.add], show ∀ g_ : Nat, ({ block := g_, off := (ji12).toNat } : Addr) = ({ block := g_, off := 0 } : Addr).add (ji12).toNat from fun g_ => by simp [Addr.add], show ∀ g_ : Nat, ({ block := g_, off := (ji22).toNat } : Addr) = ({ block := g_, off := 0 } : Addr).add (ji22).toNat from fun g_ => by simp [Addr.add]]; go_roundg k2))
     case measure => have := HK1.out; have := HK2.out; omega
     case rel => exact ⟨(y128), (wrap64 (x64_2 + 1)), zX, H', ⟨by have := HK1.out; have := HK2.out; omega⟩, ⟨by (try simp only [hl8_2]); (try simp only [hl10_2]); (with_reducible repeat (first | apply Kd.R_alloc | apply Kd.R_drewN | apply Kd.R_drew)); exact HO_8.out⟩, ⟨by (try simp only [hl8_2]); (try simp only [hl10_2]); (with_reducible repeat (first | apply Kd.R_alloc | apply Kd.R_drewN | apply Kd.R_drew)); exact HO_10.out⟩, ⟨zT⟩⟩
end Go.Proofs.Ytalnaafmonmlmaa.Q
end
section
namespace Go.Proofs.Ytalnaafmonmlmaa.Q
open Go.RowKit Go.Proofs.YtalnaafmonmlmaaW.PrintWords Go.Proofs.YtalnaafmonmlmaaW.PrintLast Go.Proofs.YtalnaafmonmlmaaW.PrintMore
attribute [local go_sem] max2_int min2_int max_two min_two max_three min_three max_four min_four
set_option linter.unusedVariables false
set_option linter.unusedSimpArgs false
set_option maxHeartbeats 8000000
set_option maxRecDepth 100000
def galoisref04_Inverse.l0 : Nat → Int → Int → Int → Int → Int → Option (Int)
 | 0, _, _, _, _, _ => none
 | k + 1, x1, x5, x6, x7, x8 => if x6 > 0 then (if x6 = 0 then (none) else (galoisref04_Inverse.l0 k x1 x6 (wrap64 (x5 - (wrap64 ((wrap64 (Int.tdiv x5 x6)) * x6)))) x8 (wrap64 (x7 - (wrap64 ((wrap64 (Int.tdiv x5 x6)) * x8)))))) else ((galoisref04_Mod.f x7 x1).bind fun t102 => (some t102))
def galoisref04_Inverse.f (k : Nat) (a0 : Int) (a1 : Int) : Option (Int) := (galoisref04_Mod.f a0 a1).bind fun t101 => (galoisref04_Inverse.l0 k a1 a1 t101 0 1)
theorem galoisref04_Inverse.mono_l : ∀ k, (∀ y0 y1 y2 y3 y4, LeO (galoisref04_Inverse.l0 k y0 y1 y2 y3 y4) (galoisref04_Inverse.l0 (k + 1) y0 y1 y2 y3 y4))
 | 0 => fun _ _ _ _ _ r h => by simp [galoisref04_Inverse.l0] at h
 | k + 1 => by
  have ih0 := galoisref04_Inverse.mono_l k
  intro y0 y1 y2 y3 y4
  unfold galoisref04_Inverse.l0
  with_reducible repeat' first | exact ih0 _ _ _ _ _ | exact LeO.refl _ | exact LeO.none _ | refine LeO.ite ?_ ?_ | refine LeO.bind ?_ (fun _ => ?_)
theorem galoisref04_Inverse.mono : ∀ a0 a1 k, LeO (galoisref04_Inverse.f k a0 a1) (galoisref04_Inverse.f (k + 1) a0 a1) := by
 intro a0 a1 k
 have ih0 := galoisref04_Inverse.mono_l k
 unfold galoisref04_Inverse.f
 with_reducible repeat' first | exact ih0 _ _ _ _ _ | exact LeO.refl _ | exact LeO.none _ | refine LeO.ite ?_ ?_ | refine LeO.bind ?_ (fun _ => ?_)
theorem galoisref04_Inverse.calls (k : Nat) (a0 : Int) (a1 : Int) (r : Int) (w : World) (h : galoisref04_Inverse.f k a0 a1 = some r) :
  Calls Try.prog 120 #[.int .i64 a0, .int .i64 a1] w fun e w' => e = .returned (.int .i64 r) ∧ Drawn0 w w' := by
 have H := h; clear h; unfold galoisref04_Inverse.f at H
 obtain ⟨t101, A3, H⟩ := zO H
 have H' := Aside0.mk H
 clear H
 go_enter Try.func120, Try.ntmps120
 go_wp2_with (first | ((with_reducible refine gate_callee (f := 113) rfl ?_); refine zG (some 13) Try.func113 #[.int .i64 a0, .int .i64 a1] ?_; (with_reducible refine (galoisref04_Mod.calls a0 a1 t101 _ A3.out).mono ?_); rintro e w' ⟨rfl, ⟨nd, rfl⟩⟩; refine ⟨_, rfl, ?_⟩))
 go_loopg [5, 6, 7, 8] k (fun kq v5 v6 v7 v8 w' => ∃ (x5_1 : Int) (x6_1 : Int) (x7_1 : Int) (x8_1 : Int), v5 = .int .i64 x5_1 ∧ v6 = .int .i64 x6_1 ∧ v7 = .int .i64 x7_1 ∧ v8 = .int .i64 x8_1 ∧ Aside0 (galoisref04_Inverse.l0 kq a1 x5_1 x6_1 x7_1 x8_1 = some r) ∧ Aside0 (kq ≤ k) ∧ Drawn0 w w')
 case atStart => exact ⟨(a1), (t101), (0), (1), zX, zX, zX, zX, H', ⟨Nat.le_refl _⟩, by repeat (first | exact Drawn0.refl _ | apply Drawn0.step)⟩
 case round =>
  clear H'
  try clear c1; try clear p2
  obtain ⟨x5_1, x6_1, x7_1, x8_1, rfl, rfl, rfl, rfl, HA, HK1, ⟨m1, rfl⟩⟩ := hrel
  cases gk with
  | zero => exact absurd HA.out (by simp [galoisref04_Inverse.l0])
  | succ k1 =>
   have H := HA.out
   clear HA
   simp only [galoisref04_Inverse.l0] at H
   by_cases c4 : x6_1 > 0
   rotate_left
   ·rw [if_neg c4] at H
    have c4b0 := decide_eq_false c4; clear c4
    obtain ⟨t102, A6, H⟩ := zO H
    obtain rfl := Option.some.inj H
    go_wp2_with (first | ((with_reducible refine gate_callee (f := 113) rfl ?_); refine zG (some 33) Try.func113 #[.int .i64 x7_1, .int .i64 a1] ?_; (with_reducible refine (galoisref04_Mod.calls x7_1 a1 t102 _ A6.out).mono ?_); rintro e w' ⟨rfl, ⟨nd, rfl⟩⟩; refine ⟨_, rfl, ?_⟩))
    go_ret
    exact ⟨by first | rfl | (simp; done) | (simp [*]; done), by repeat (first | exact Drawn0.refl _ | apply Drawn0.step)⟩
   rw [if_pos c4] at H
   have c4b0 := decide_eq_true c4; clear c4
   by_cases c5 : x6_1 = 0
   ·rw [if_pos c5] at H
    exact absurd H (by simp)
   rw [if_neg c5] at H
   obtain ⟨c5b0, c5b1⟩ := zU c5
   have H' := Aside0.mk H
   clear H
   go_wp2
   go_roundg k1
   case measure => have := HK1.out; omega
   case rel => exact ⟨(x6_1), (wrap64 (x5_1 - (wrap64 ((wrap64 (Int.tdiv x5_1 x6_1)) * x6_1)))), (x8_1), (wrap64 (x7_1 - (wrap64 ((wrap64 (Int.tdiv x5_1 x6_1)) * x8_1)))), zX, zX, zX, zX, H', ⟨by have := HK1.out; omega⟩, by repeat (first | exact Drawn0.refl _ | apply Drawn0.step)⟩
end Go.Proofs.Ytalnaafmonmlmaa.Q
end
section
namespace Go.Proofs.Ytalnaafmonmlmaa.Q
open Go.RowKit Go.Proofs.YtalnaafmonmlmaaW.PrintWords Go.Proofs.YtalnaafmonmlmaaW.PrintLast Go.Proofs.YtalnaafmonmlmaaW.PrintMore
attribute [local go_sem] max2_int min2_int max_two min_two max_three min_three max_four min_four
set_option linter.unusedVariables false
set_option linter.unusedSimpArgs false
set_option maxHeartbeats 8000000
set_option maxRecDepth 100000
mutual
def galoisref09_DivMod.l0 : Nat → Int → List Int → List Int → Int → List Int → Int → Int → Option (List Int × List Int)
 | 0, _, _, _, _, _, _, _ => none
 | k + 1, x0, x2, x8, x9, x10, x11, x12 => if x12 ≥ 0 then (if 0 ≤ (wrap64 (x12 + x9)) then (if (wrap64 (x12 + x9)) < (x8.length : Int) then (if x0 = 0 then (none) else (if 0 ≤ x12 then (if x12 < (x10.length : Int) then (galoisref09_DivMod.l1 k x0 x2 x8 x9 (x10.set (x12 : Int).toNat (Int.tmod (wrap64 ((rd x8 (wrap64 (x12 + x9))) * x11)) x0)) x11 x12 (Int.tmod (wrap64 ((rd x8 (wrap64 (x12 + x9))) * x11)) x0) 0) else (none)) else (none))) else (none)) else (none)) else ((galoisref09_Trim.f k x10).bind fun t109 => ((galoisref09_Trim.f k x8).bind fun t112 => (some (t109, t112))))
def galoisref09_DivMod.l1 : Nat → Int → List Int → List Int → Int → List Int → Int → Int → Int → Int → Option (List Int × List Int)
 | 0, _, _, _, _, _, _, _, _, _ => none
 | k + 1, x0, x2, x8, x9, x10, x11, x12, x13, x14 => if x14 ≤ x9 then (if 0 ≤ (wrap64 (x12 + x14)) then (if (wrap64 (x12 + x14)) < (x8.length : Int) then (if 0 ≤ x14 then (if x14 < (x2.length : Int) then (if x0 = 0 then (none) else (galoisref09_DivMod.l1 k x0 x2 (x8.set ((wrap64 (x12 + x14)) : Int).toNat (Int.tmod (wrap64 ((rd x8 (wrap64 (x12 + x14))) + (wrap64 ((wrap64 (x0 - x13)) * (rd x2 x14))))) x0)) x9 x10 x11 x12 x13 (wrap64 (x14 + 1)))) else (none)) else (none)) else (none)) else (none)) else (galoisref09_DivMod.l0 k x0 x2 x8 x9 x10 x11 (wrap64 (x12 - 1)))
end
def galoisref09_DivMod.f (k : Nat) (a0 : Int) (l1 : List Int) (l2 : List Int) : Option (List Int × List Int) := (galoisref09_Copy.f l1).bind fun t101 => (if 0 ≤ (mx 0 (wrap64 ((l1.length : Int) - (wrap64 ((l2.length : Int) - 1))))) then (if (mx 0 (wrap64 ((l1.length : Int) - (wrap64 ((l2.length : Int) - 1)))) : Int).toNat ≤ 35184372088832 then ((some (List.replicate (mx 0 (wrap64 ((l1.length : Int) - (wrap64 ((l2.length : Int) - 1)))) : Int).toNat 0 : List Int)).bind fun y104 => (if 0 ≤ (wrap64 ((l2.length : Int) - 1)) then (if (wrap64 ((l2.length : Int) - 1)) < (l2.length : Int) then ((galoisref04_Inverse.f k (rd l2 (wrap64 ((l2.length : Int) - 1))) a0).bind fun t108 => (galoisref09_DivMod.l0 k a0 l2 t101 (wrap64 ((l2.length : Int) - 1)) y104 t108 (wrap64 ((y104.length : Int) - 1)))) else (none)) else (none))) else (none)) else (none))
theorem galoisref09_DivMod.mono_l : ∀ k, (∀ y0 y1 y2 y3 y4 y5 y6, LeO (galoisref09_DivMod.l0 k y0 y1 y2 y3 y4 y5 y6) (galoisref09_DivMod.l0 (k + 1) y0 y1 y2 y3 y4 y5 y6)) ∧ (∀ y0 y1 y2 y3 y4 y5 y6 y7 y8, LeO (galoisref09_DivMod.l1 k y0 y1 y2 y3 y4 y5 y6 y7 y8) (galoisref09_DivMod.l1 (k + 1) y0 y1 y2 y3 y4 y5 y6 y7 y8))
 | 0 => ⟨fun _ _ _ _ _ _ _ r h => by simp [galoisref09_DivMod.l0] at h, fun _ _ _ _ _ _ _ _ _ r h => by simp [galoisref09_DivMod.l1] at h⟩
 | k + 1 => by
  obtain ⟨ih0, ih1⟩ := galoisref09_DivMod.mono_l k
  refine ⟨?_, ?_⟩
  ·intro y0 y1 y2 y3 y4 y5 y6
   unfold galoisref09_DivMod.l0
   with_reducible repeat' first | exact ih0 _ _ _ _ _ _ _ | exact ih1 _ _ _ _ _ _ _ _ _ | exact galoisref04_Inverse.mono _ _ _ | exact galoisref09_Trim.mono _ _ | exact LeO.refl _ | exact LeO.none _ | refine LeO.ite ?_ ?_ | refine LeO.bind ?_ (fun _ => ?_)
  intro y0 y1 y2 y3 y4 y5 y6 y7 y8
  unfold galoisref09_DivMod.l1
  with_reducible repeat' first | exact ih0 _ _ _ _ _ _ _ | exact ih1 _ _ _ _ _ _ _ _ _ | exact galoisref04_Inverse.mono _ _ _ | exact galoisref09_Trim.mono _ _ | exact LeO.refl _ | exact LeO.none _ | refine LeO.ite ?_ ?_ | refine LeO.bind ?_ (fun _ => ?_)
theorem galoisref09_DivMod.mono : ∀ a0 a1 a2 k, LeO (galoisref09_DivMod.f k a0 a1 a2) (galoisref09_DivMod.f (k + 1) a0 a1 a2) := by
 intro a0 a1 a2 k
 obtain ⟨ih0, ih1⟩ := galoisref09_DivMod.mono_l k
 unfold galoisref09_DivMod.f
 with_reducible repeat' first | exact ih0 _ _ _ _ _ _ _ | exact ih1 _ _ _ _ _ _ _ _ _ | exact galoisref04_Inverse.mono _ _ _ | exact galoisref09_Trim.mono _ _ | exact LeO.refl _ | exact LeO.none _ | refine LeO.ite ?_ ?_ | refine LeO.bind ?_ (fun _ => ?_)
def galoisref09_DivMod.T13 : Bool × List (List Nat × List Nat) := (true, [([], []), ([], []), ([], []), ([1, 2], [1, 2]), ([], []), ([], []), ([], []), ([5, 6], [5, 6]), ([4, 7], [4, 7]), ([8], [8]), ([], []), ([], []), ([10, 11], [10, 11]), ([], []), ([], []), ([13, 14], [13, 14]), ([15], [15]), ([12, 16], [12, 16]), ([9, 17], [9, 17]), ([], []), ([18, 19], [18, 19]), ([0, 3, 0, 1, 2, 3, 4, 5, 6, 7, 8, 9, 10, 11, 12, 13, 14, 15, 16, 17, 18, 19, 20], [0, 3]), ([21, 20, 0, 1, 2, 3, 4, 5, 6, 7, 8, 9, 10, 11, 12, 13, 14, 15, 16, 17, 18, 19, 20], [20, 21])])
def galoisref09_DivMod.B13 : List Nat := [0, 0, 0, 6, 0, 0, 0, 96, 240, 496, 0, 0, 3072, 0, 0, 24576, 57344, 130048, 262128, 0, 1048560, 2097151, 4194303]
theorem galoisref09_DivMod.tab13 : rtab .any (opsOf Try.f108 13) = galoisref09_DivMod.T13 := by kernel_rfl
theorem galoisref09_DivMod.bits13 : waitsOk galoisref09_DivMod.T13.2 galoisref09_DivMod.B13 = true := by kernel_rfl
theorem galoisref09_DivMod.calls (k : Nat) (a0 : Int) (A1 : Option Addr) (c1 : Nat) (l1 : List Int) (A2 : Option Addr) (c2 : Nat) (l2 : List Int) (r1 : List Int) (r2 : List Int) (w : World) (hr1 : Kd.C (Kd.int .i64) w A1 l1.length l1) (hc1 : l1.length ≤ c1) (hr2 : Kd.C (Kd.int .i64) w A2 l2.length l2) (hc2 : l2.length ≤ c2) (h : galoisref09_DivMod.f k a0 l1 l2 = some (r1, r2)) :
  Calls Try.prog 108 #[.int .i64 a0, .slice A1 l1.length c1, .slice A2 l2.length c2] w fun e w' => ∃ v0_ v1_ : Value, e = .returned (.tuple #[v0_, v1_]) ∧ Kd.V (Kd.int .i64) 3 w' w.heap.size (fun k_ => (w.heap.size ≤ k_)) v0_ r1 ∧ Kd.V (Kd.int .i64) 3 w' w.heap.size (fun k_ => (w.heap.size ≤ k_)) v1_ r2 ∧ Below w.heap.size w w' := by
 have HR1 := Aside0.mk hr1
 have HC1 := Aside0.mk hc1
 clear hr1 hc1
 have HR2 := Aside0.mk hr2
 have HC2 := Aside0.mk hc2
 clear hr2 hc2
 have HB := Aside0.mk (Below.refl w.heap.size w)
 have H := h; clear h; unfold galoisref09_DivMod.f at H
 obtain ⟨t101, A4, H⟩ := zO H
 obtain ⟨ji5, hji5⟩ : ∃ j_ : Int, (mx 0 (wrap64 ((l1.length : Int) - (wrap64 ((l2.length : Int) - 1))))) = j_ := ⟨_, rfl⟩
 first | rw [hji5] at H | simp only [hji5] at H
 (try rw [hji5] at A4)
 (try (have hji5l : 0 ≤ ji5 := by (rw [← hji5]; unfold mx; (repeat' split) <;> omega)))
 (try (have hji5m : 0 ≤ ji5 := by omega))
 have hji5_ : (if 0 < (wrap64 ((l1.length : Int) - (wrap64 ((l2.length : Int) - 1)))) then (wrap64 ((l1.length : Int) - (wrap64 ((l2.length : Int) - 1)))) else 0) = ji5 := hji5
 by_cases c6 : 0 ≤ (ji5)
 rotate_left
 ·rw [if_neg c6] at H
  exact absurd H (by simp)
 rw [if_pos c6] at H
 have c6b0 := eq_true c6; have c6b1 := decide_eq_true c6; clear c6
 by_cases c7 : (ji5 : Int).toNat ≤ 35184372088832
 rotate_left
 ·rw [if_neg c7] at H
  exact absurd H (by simp)
 rw [if_pos c7] at H
 have c7b0 := eq_true c7; have c7b1 := decide_eq_true c7; clear c7
 obtain ⟨y104, Ny104, H⟩ := zY H
 obtain ⟨ji8, hji8⟩ : ∃ j_ : Int, (wrap64 ((l2.length : Int) - 1)) = j_ := ⟨_, rfl⟩
 (try (have hji5__ji8 := hji5_; simp only [hji8] at hji5__ji8))
 first | rw [hji8] at H | simp only [hji8] at H
 (try rw [hji8] at A4)
 have hji8w : (IntKind.i64.wrap ((l2.length : Int) - 1)) = ji8 := (i64_w _).trans hji8
 by_cases c9 : 0 ≤ (ji8)
 rotate_left
 ·rw [if_neg c9] at H
  exact absurd H (by simp)
 rw [if_pos c9] at H
 have c9b0 := decide_eq_true c9; clear c9
 by_cases c10 : (ji8) < (l2.length : Int)
 rotate_left
 ·rw [if_neg c10] at H
  exact absurd H (by simp)
 rw [if_pos c10] at H
 have c10b0 := decide_eq_true c10; clear c10
 obtain ⟨t108, A11, H⟩ := zO H
 have H' := Aside0.mk H
 clear H
 go_enter Try.func108, Try.ntmps108
 go_wp2_with (first | ((with_reducible refine gate_callee (f := 47) rfl ?_); refine zG (some 16) Try.func47 #[.slice A1 l1.length c1] ?_; (with_reducible refine (galoisref09_Copy.calls _ _ l1 t101 _ ?side1 ?side2 A4.out).mono ?_); (case side1 => exact zC (HR1.out)); (case side2 => exact HC1.out); rintro e w12 ⟨v102, rfl, ho0, hb⟩; refine ⟨_, rfl, ?_⟩; have HO103 := Aside0.mk (Kd.R_lower (Kd.R_newM (M := fun k_ => (w.heap.size ≤ k_)) ho0 (zS HB) (fun k_ h_ => h_)) (zS HB)); replace HB := zBb HB hb; (try clear hb); (try clear ho0)) | ((with_reducible refine gate_dst (N := 25) rfl ?_); refine Kd.R_make (Kd.int .i64) _ 3 rfl (N := 25) rfl 25 _ _ rfl ji5 rfl rfl Try.underlying25 (.int .i64 0) 8 info3 rfl (by decide) (by omega) 0 (ok := fun _ => True) (okp := fun _ => True) rfl (fun _ hk => hk) trivial zD (Nat.le_trans (Nat.mul_le_mul_right _ (zD : ji5.toNat ≤ 35184372088832)) (by omega)) (Below.refl _ _) (Nat.le_refl _) ?_; intro v105 w13 ho14 hb hg_ hnew_; clear hg_ hnew_; (first | rw [← Ny104.out] at ho14 | (simp only [Int.reduceToNat] at ho14; rw [← Ny104.out] at ho14)); have HO106 := Aside0.mk (Kd.R_lower (Kd.R_new' (Kd.R_newM (M := fun k_ => (w.heap.size ≤ k_)) ho14 (zS HB) (fun k_ h_ => h_)) (Kd.R_lt (zR HO103.out))) (zS HB)); replace HO103 := Aside0.mk (Kd.R_elder' (zR HO103.out) (Kd.R_base ho14) hb); replace HB := zBb HB hb; clear hb ho14; have p107 : 0 ≤ ((ji8) : Int) := zD; have q107 : (ji8) < (l2.length : Int) := zD; obtain ⟨ad107, e107, hx107_0⟩ := Kd.at_int HR2.out (ji8) p107 q107; cases e107; replace hx107_0 := (HB.out.cell (World.block_lt_of_cell? w _ hx107_0)).trans hx107_0; replace p107 := eq_true p107; replace q107 := eq_true q107) | ((with_reducible refine gate_callee (f := 120) rfl ?_); refine zH (some 31) Try.func120 #[.int .i64 (rd l2 (ji8)), .int .i64 a0] rfl (by (try simp only [List.map_toArray, List.map_cons, List.map_nil]); first | done | (simp only [hji8]; rfl) | rfl | (simp only [List.length_drop, List.length_take]; rfl)) ?_; (with_reducible refine (galoisref04_Inverse.calls k (rd l2 (ji8)) a0 t108 _ A11.out).mono ?_); rintro e w' ⟨rfl, ⟨nd, rfl⟩⟩; refine ⟨_, rfl, ?_⟩; obtain ⟨Ao15, co15, eo15⟩ := Kd.R_slice HO106.out; subst eo15))
 go_loopg [12] k (fun kq v12 w' => ∃ (x8_1 : List Int) (x10_1 : List Int) (x12_1 : Int), v12 = .int .i64 x12_1 ∧ Aside0 (galoisref09_DivMod.l0 kq a0 l2 x8_1 ji8 x10_1 t108 x12_1 = some (r1, r2)) ∧ Aside0 (kq ≤ k) ∧ Aside0 (Kd.R (Kd.int .i64) 3 w' w.heap.size (fun k_ => (w.heap.size ≤ k_) ∧ some k_ ≠ ((.slice Ao15 y104.length co15) : Value).ownBlock) v102 x8_1) ∧ Aside0 (Kd.R (Kd.int .i64) 3 w' w.heap.size (fun k_ => (w.heap.size ≤ k_) ∧ some k_ ≠ (v102 : Value).ownBlock) (.slice Ao15 y104.length co15) x10_1) ∧ Aside0 (Below w.heap.size w w'))
 case atStart => exact ⟨(t101), (y104), (wrap64 ((y104.length : Int) - 1)), zX, H', ⟨Nat.le_refl _⟩, ⟨zR (Kd.R_mono HO103.out (fun _ hk => ⟨hk.1.1, hk.2⟩))⟩, ⟨zR (Kd.R_mono HO106.out (fun _ hk => ⟨hk.1.1, hk.2⟩))⟩, ⟨zT⟩⟩
 case round =>
  clear H'
  try clear c1; try clear p1; try clear q1; try clear hx1; try clear c2; try clear p2; try clear c4; try clear c6; try clear c6b0; try clear c6b1; try clear p6; try clear c7; try clear c7b0; try clear c7b1; try clear c9; try clear c9b0; try clear c10; try clear c10b0; try clear p10; try clear q10; try clear hx10; try clear c12; try clear hx107_0; try clear p107; try clear q107
  obtain ⟨x8_1, x10_1, x12_1, rfl, HA, HK1, HO_8, HO_10, HB⟩ := hrel
  have hl10_1 := (Kd.R_reads' HO_10.out).1
  rw [hl10_1] at HO_10
  (try simp only [hl10_1])
  (try simp only [hl10_1] at HO_8)
  cases gk with
  | zero => exact absurd HA.out (by simp [galoisref09_DivMod.l0])
  | succ k1 =>
   have H := HA.out
   clear HA
   simp only [galoisref09_DivMod.l0] at H
   by_cases c16 : x12_1 ≥ 0
   rotate_left
   ·rw [if_neg c16] at H
    have c16b0 := decide_eq_false c16; clear c16
    obtain ⟨t109, A37, H⟩ := zO H
    obtain ⟨t112, A38, H⟩ := zO H
    simp only [Option.some.injEq, Prod.mk.injEq] at H
    obtain ⟨rfl, rfl⟩ := H
    go_wp2_with (first | ((with_reducible refine gate_callee (f := 41) rfl ?_); refine zG (some 81) Try.func41 #[.slice Ao15 x10_1.length co15] ?_; (with_reducible refine (galoisref09_Trim.calls k1 (fun k_ => some k_ = (.slice Ao15 x10_1.length co15 : Value).ownBlock) _ _ x10_1 t109 _ ?side1 A37.out).mono ?_); (case side1 => exact Kd.R_V (Kd.R_tight rfl (HO_10.out))); rintro e w39 ⟨v110, rfl, ho0, hb⟩; refine ⟨_, rfl, ?_⟩; have HO111 := Aside0.mk (Kd.V_lower (Kd.V_mono (ok' := fun k_ => (w.heap.size ≤ k_) ∧ some k_ ≠ (v102 : Value).ownBlock) ho0 (fun k_ hk_ => ⟨Or.elim hk_ (fun hs_ => ((HO_10.out).1 k_ hs_.symm).1) (fun hn_ => (Nat.le_trans (zS HB) hn_)), Or.elim hk_ (fun hs_ => ((HO_10.out).1 k_ hs_.symm).2) (fun hn_ => (Kd.fresh' (Kd.R_lt (zR HO_8.out)) k_ hn_))⟩)) (zS HB)); replace HO_8 := zRb HO_8 hb; replace HO_10 := zRb HO_10 hb; replace HB := zBb HB hb; (try clear hb); (try clear ho0); obtain ⟨Ao40, co40, eo40⟩ := Kd.R_slice HO_8.out; subst eo40) | ((with_reducible refine gate_callee (f := 41) rfl ?_); refine zG (some 83) Try.func41 #[.slice Ao40 x8_1.length co40] ?_; (with_reducible refine (galoisref09_Trim.calls k1 (fun k_ => some k_ = (.slice Ao40 x8_1.length co40 : Value).ownBlock) _ _ x8_1 t112 _ ?side1 A38.out).mono ?_); (case side1 => exact Kd.R_V (Kd.R_tight rfl (HO_8.out))); rintro e w41 ⟨v113, rfl, ho0, hb⟩; refine ⟨_, rfl, ?_⟩; replace HO111 := zVb HO111 hb; have HO114 := Aside0.mk (Kd.V_lower (Kd.V_mono (ok' := fun k_ => (w.heap.size ≤ k_) ∧ some k_ ≠ (.slice Ao15 x10_1.length co15 : Value).ownBlock) ho0 (fun k_ hk_ => ⟨Or.elim hk_ (fun hs_ => ((HO_8.out).1 k_ hs_.symm).1) (fun hn_ => (Nat.le_trans (zS HB) hn_)), Or.elim hk_ (fun hs_ => ((HO_8.out).1 k_ hs_.symm).2) (fun hn_ => (Kd.fresh' (Kd.R_lt (zR HO_10.out)) k_ hn_))⟩)) (zS HB)); replace HO_8 := zRb HO_8 hb; replace HO_10 := zRb HO_10 hb; replace HB := zBb HB hb; (try clear hb); (try clear ho0)))
    go_ret2
    exact ⟨_, _, by first | rfl | (simp [errW_none, errW_some] <;> rfl) | (simp only [← hji5, ← hji8]; first | rfl | (simp [errW_none, errW_some] <;> rfl)) | (simp [*, errW_none, errW_some] <;> rfl), zV (Kd.V_mono HO111.out (fun _ hk => hk.1)), zV (Kd.V_mono HO114.out (fun _ hk => hk.1)), zT⟩
   rw [if_pos c16] at H
   have c16b0 := decide_eq_true c16; clear c16
   obtain ⟨ji17, hji17⟩ : ∃ j_ : Int, (wrap64 (x12_1 + ji8)) = j_ := ⟨_, rfl⟩
   first | rw [hji17] at H | simp only [hji17] at H
   have hji17w : (IntKind.i64.wrap (x12_1 + ji8)) = ji17 := (i64_w _).trans hji17
   by_cases c18 : 0 ≤ (ji17)
   rotate_left
   ·rw [if_neg c18] at H
    exact absurd H (by simp)
   rw [if_pos c18] at H
   have c18b0 := decide_eq_true c18; clear c18
   by_cases c19 : (ji17) < (x8_1.length : Int)
   rotate_left
   ·rw [if_neg c19] at H
    exact absurd H (by simp)
   rw [if_pos c19] at H
   have c19b0 : decide ((ji17) < (x8_1.length : Int)) = true := decide_eq_true c19
   (try (have c19b0_hl10_1 := c19b0; simp only [hl10_1] at c19b0_hl10_1))
   clear c19
   by_cases c20 : a0 = 0
   ·rw [if_pos c20] at H
    exact absurd H (by simp)
   rw [if_neg c20] at H
   obtain ⟨c20b0, c20b1⟩ := zU c20
   by_cases c21 : 0 ≤ x12_1
   rotate_left
   ·rw [if_neg c21] at H
    exact absurd H (by simp)
   rw [if_pos c21] at H
   have c21b0 := decide_eq_true c21; clear c21
   by_cases c22 : x12_1 < (x10_1.length : Int)
   rotate_left
   ·rw [if_neg c22] at H
    exact absurd H (by simp)
   rw [if_pos c22] at H
   have c22b0 : decide (x12_1 < (x10_1.length : Int)) = true := decide_eq_true c22
   (try (have c22b0_hl10_1 := c22b0; simp only [hl10_1] at c22b0_hl10_1))
   clear c22
   obtain ⟨y116, Ny116⟩ := zA ((x10_1.set (x12_1 : Int).toNat (Int.tmod (wrap64 ((rd x8_1 (ji17)) * t108)) a0)) : List Int); rw [← Ny116.out] at H
   have H' := Aside0.mk H
   clear H
   obtain ⟨Ao24, co24, eo24⟩ := Kd.R_slice HO_8.out
   subst eo24
   obtain ⟨p115, q115, ad115, e115, hx115_0⟩ := zI ((Kd.R_reads' HO_8.out).2.2) ((ji17)) zD zD
   cases e115
   have p23 : 0 ≤ (x12_1 : Int) := zD
   have q23 : (x12_1 : Int) < ((x10_1.length : Int) : Int) := zD
   obtain ⟨go23, co23, eo23, gb23, gl23, cl23, HG23⟩ := Kd.R_form HO_10.out (by omega)
   (first | cases eo23 | (injection eo23 with ea_ en_ ec_; (first | subst ea_ | (injection ea_ with ea_; subst ea_)); subst ec_; clear en_))
   have GB23 := Aside0.mk gb23
   have GG23 := Aside0.mk HG23
   clear gb23 gl23 HG23
   obtain ⟨hx23_0, hf23_0⟩ := Kd.R_celln 0 HO_10.out (x12_1 : Int) p23 q23
   replace p23 := eq_true p23
   replace q23 := eq_true q23
   have HP25 := Kd.R_putg HO_10.out (x12_1 : Int) (Int.tmod (wrap64 ((rd x8_1 (ji17)) * t108)) a0)
   go_wp2_with (first | ((with_reducible refine gate_store (t := 3) (p := 52) rfl ?_); refine store_event (t := 3) (p := 52) (v := ?vo_w26) (w1 := (wr.setCell ⟨go23, (x12_1 : Int).toNat, none⟩ (.int .i64 (Int.tmod (wrap64 ((rd x8_1 (ji17)) * t108)) a0)))) ?hg ?ho ?hn ?hr ?_; (case ho => rfl); (case hg => rfl); (case hn => rfl); (case hr => go_simp <;> rfl); intro w26 hw; have hg : wr.grownBy w26 (some go23) := (by rw [hw]; exact HP25.2); have hp_ : Kd.R (Kd.int .i64) 3 w26 w.heap.size (fun k_ => (w.heap.size ≤ k_) ∧ some k_ ≠ (.slice (some ad115) x8_1.length co24 : Value).ownBlock) (.slice (some ⟨go23, 0, none⟩) x10_1.length co15) y116 := (by rw [hw, Ny116.out]; exact HP25.1); clear HP25; replace HO_8 := Aside0.mk (Kd.R_after (v := (.slice (some ⟨go23, 0, none⟩) x10_1.length co15)) (v1 := (.slice (some ⟨go23, 0, none⟩) x10_1.length co15)) (ok := (fun k_ => (w.heap.size ≤ k_))) (zR HO_8.out) hg (.inl rfl)); replace HO_10 := Aside0.mk (hp_); replace HB := Aside0.mk ((by rw [hw]; exact below_set (HB.out) GB23.out : Below w.heap.size w w26)); clear hg hw hp_))
   go_loopg [14] k1 (fun kq v14 w' => ∃ (x8_2 : List Int) (x14_2 : Int), v14 = .int .i64 x14_2 ∧ Aside0 (galoisref09_DivMod.l1 kq a0 l2 x8_2 ji8 y116 t108 x12_1 (Int.tmod (wrap64 ((rd x8_1 (ji17)) * t108)) a0) x14_2 = some (r1, r2)) ∧ Aside0 (kq ≤ k1) ∧ Aside0 (Kd.R (Kd.int .i64) 3 w' w.heap.size (fun k_ => (w.heap.size ≤ k_) ∧ some k_ ≠ ((.slice (some ⟨go23, 0, none⟩) x10_1.length co15) : Value).ownBlock) (.slice (some ad115) x8_1.length co24) x8_2) ∧ Aside0 (Kd.R (Kd.int .i64) 3 w' w.heap.size (fun k_ => (w.heap.size ≤ k_) ∧ some k_ ≠ ((.slice (some ad115) x8_1.length co24) : Value).ownBlock) (.slice (some ⟨go23, 0, none⟩) x10_1.length co15) y116) ∧ Aside0 (Below w.heap.size w w'))
   case atStart => exact ⟨(x8_1), (0), zX, H', ⟨Nat.le_refl _⟩, ⟨by (try simp only [hl10_1]); (with_reducible repeat (first | apply Kd.R_alloc | apply Kd.R_drewN | apply Kd.R_drew)); exact HO_8.out⟩, ⟨by (try simp only [hl10_1]); (with_reducible repeat (first | apply Kd.R_alloc | apply Kd.R_drewN | apply Kd.R_drew)); exact HO_10.out⟩, ⟨zT⟩⟩
   case round =>
    clear H'
    try clear c1; try clear p1; try clear q1; try clear hx1; try clear c2; try clear p2; try clear q2; try clear hx2; try clear c4; try clear c6; try clear c6b0; try clear c6b1; try clear p6; try clear c7; try clear c7b0; try clear c7b1; try clear c9; try clear c9b0; try clear c10; try clear c10b0; try clear p10; try clear q10; try clear hx10; try clear p11; try clear q11; try clear hx11; try clear c12; try clear c16; try clear c16b0; try clear c18; try clear c18b0; try clear c19; try clear c19b0; try clear c20; try clear c20b0; try clear c20b1; try clear c21; try clear c21b0; try clear c22; try clear c22b0; try clear p23; try clear q23; try clear hx23; try clear hf23; try clear hx107_0; try clear hx115_0; try clear hx23_0; try clear p1; try clear p10; try clear p107; try clear p115; try clear p2; try clear p23; try clear p6; try clear q1; try clear q10; try clear q107; try clear q115; try clear q23
    obtain ⟨x8_2, x14_2, rfl, HA, HK2, HO_8, HO_10, HB⟩ := hrel
    have hl8_2 := (Kd.R_reads' HO_8.out).1
    rw [hl8_2] at HO_8
    (try simp only [hl8_2])
    (try simp only [hl8_2] at HO_10)
    have hl10_2 := (Kd.R_reads' HO_10.out).1
    rw [hl10_2] at HO_10
    (try simp only [hl10_2])
    (try simp only [hl10_2] at HO_8)
    cases gk with
    | zero => exact absurd HA.out (by simp [galoisref09_DivMod.l1])
    | succ k2 =>
     have H := HA.out
     clear HA
     simp only [galoisref09_DivMod.l1] at H
     by_cases c27 : x14_2 ≤ ji8
     rotate_left
     ·rw [if_neg c27] at H
      have c27b0 := decide_eq_false c27; clear c27
      have H' := Aside0.mk H
      clear H
      go_wp2
      (try simp only [← hl10_1, ← hl8_2, ← hl10_2])
      (first | go_roundg k2 | (simp only [show ∀ g_ : Nat, ({ block := g_, off := (ji5).toNat } : Addr) = ({ block := g_, off := 0 } : Addr).add (ji5).toNat from fun g_ => by simp [Addr.add], show ∀ g_ : Nat, ({ block := g_, off := (ji8).toNat } : Addr) = ({ block := g_, off := 0 } : Addr).add (ji8).toNat from fun g_ => by simp [Addr.add], show ∀ g_ : Nat, ({ block := g_, off := (ji17).toNat } : Addr) = ({ block := g_, off := 0 } : Addr).add (ji17).toNat from fun g_ => by simp [Addr.add]]; go_roundg k2))
      case measure => have := HK1.out; have := HK2.out; omega
      case rel => exact ⟨(x8_2), (y116), (wrap64 (x12_1 - 1)), zX, H', ⟨by have := HK1.out; have := HK2.out; omega⟩, ⟨by (try simp only [hl10_1]); (try simp only [hl8_2]); (try simp only [hl10_2]); (with_reducible repeat (first | apply Kd.R_alloc | apply Kd.R_drewN | apply Kd.R_drew)); exact HO_8.out⟩, ⟨by (try simp only [hl10_1]); (try simp only [hl8_2]); (try simp only [hl10_2]); (with_reducible repeat (first | apply Kd.R_alloc | apply Kd.R_drewN | apply Kd.R_drew)); exact HO_10.out⟩, ⟨zT⟩⟩
     rw [if_pos c27] at H
     have c27b0 := decide_eq_true c27; clear c27
     obtain ⟨ji28, hji28⟩ : ∃ j_ : Int, (wrap64 (x12_1 + x14_2)) = j_ := ⟨_, rfl⟩
     first | rw [hji28] at H | simp only [hji28] at H
     have hji28w : (IntKind.i64.wrap (x12_1 + x14_2)) = ji28 := (i64_w _).trans hji28
     by_cases c29 : 0 ≤ (ji28)
     rotate_left
     ·rw [if_neg c29] at H
      exact absurd H (by simp)
     rw [if_pos c29] at H
     have c29b0 := decide_eq_true c29; clear c29
     by_cases c30 : (ji28) < (x8_2.length : Int)
     rotate_left
     ·rw [if_neg c30] at H
      exact absurd H (by simp)
     rw [if_pos c30] at H
     have c30b0 : decide ((ji28) < (x8_2.length : Int)) = true := decide_eq_true c30
     (try (have c30b0_hl10_1 := c30b0; simp only [hl10_1] at c30b0_hl10_1))
     (try (have c30b0_hl8_2 := c30b0; simp only [hl8_2] at c30b0_hl8_2))
     (try (have c30b0_hl10_2 := c30b0; simp only [hl10_2] at c30b0_hl10_2))
     clear c30
     by_cases c31 : 0 ≤ x14_2
     rotate_left
     ·rw [if_neg c31] at H
      exact absurd H (by simp)
     rw [if_pos c31] at H
     have c31b0 := decide_eq_true c31; clear c31
     by_cases c32 : x14_2 < (l2.length : Int)
     rotate_left
     ·rw [if_neg c32] at H
      exact absurd H (by simp)
     rw [if_pos c32] at H
     have c32b0 : decide (x14_2 < (l2.length : Int)) = true := decide_eq_true c32
     (try (have c32b0_hl10_1 := c32b0; simp only [hl10_1] at c32b0_hl10_1))
     (try (have c32b0_hl8_2 := c32b0; simp only [hl8_2] at c32b0_hl8_2))
     (try (have c32b0_hl10_2 := c32b0; simp only [hl10_2] at c32b0_hl10_2))
     clear c32
     by_cases c33 : a0 = 0
     ·rw [if_pos c33] at H
      exact absurd H (by simp)
     rw [if_neg c33] at H
     obtain ⟨c33b0, c33b1⟩ := zU c33
     obtain ⟨y119, Ny119⟩ := zA ((x8_2.set ((ji28) : Int).toNat (Int.tmod (wrap64 ((rd x8_2 (ji28)) + (wrap64 ((wrap64 (a0 - (Int.tmod (wrap64 ((rd x8_1 (ji17)) * t108)) a0))) * (rd l2 x14_2))))) a0)) : List Int); rw [← Ny119.out] at H
     have H' := Aside0.mk H
     clear H
     try go_wp2
     replace HO_8 := Aside0.mk (Kd.R_drew HO_8.out)
     replace HO_10 := Aside0.mk (Kd.R_drew HO_10.out)
     replace HB := Aside0.mk (below_drew1 HB.out)
     obtain ⟨p117, q117, ad117, e117, hx117_0⟩ := zI ((Kd.R_reads' HO_8.out).2.2) ((ji28)) zD zD
     obtain rfl : ad115 = ad117 := (by injection e117)
     obtain ⟨p118, q118, ad118, e118, hx118_0⟩ := zI (HR2.out) (x14_2) zD zD
     have hw118_0 := hx118_0
     obtain rfl : ad107 = ad118 := (by injection e118)
     replace hx118_0 := (HB.out.cell (World.block_lt_of_cell? w _ hx118_0)).trans hx118_0
     have p34 : 0 ≤ ((ji28) : Int) := zD
     have q34 : ((ji28) : Int) < ((x8_2.length : Int) : Int) := zD
     obtain ⟨go34, co34, eo34, gb34, gl34, cl34, HG34⟩ := Kd.R_form HO_8.out (by omega)
     (first | cases eo34 | (injection eo34 with ea_ en_ ec_; (first | subst ea_ | (injection ea_ with ea_; subst ea_)); subst ec_; clear en_))
     have GB34 := Aside0.mk gb34
     have GG34 := Aside0.mk HG34
     clear gb34 gl34 HG34
     (first | simp only [add_plain] at hx115_0 | skip)
     (first | simp only [add_plain] at hx117_0 | skip)
     obtain ⟨hx34_0, hf34_0⟩ := Kd.R_celln 0 HO_8.out ((ji28) : Int) p34 q34
     replace p34 := eq_true p34
     replace q34 := eq_true q34
     have HP36 := Kd.R_putn HO_8.out ((ji28) : Int) (Int.tmod (wrap64 ((rd x8_2 (ji28)) + (wrap64 ((wrap64 (a0 - (Int.tmod (wrap64 ((rd x8_1 (ji17)) * t108)) a0))) * (rd l2 x14_2))))) a0)
     rw [← Ny119.out] at HP36
     have HQ36 := Aside0.mk HP36
     clear HP36
     refine start_ (n := 23) (S := fun w' => w'.cell? ⟨go34, ((ji28)).toNat, none⟩ = some (.int .i64 (rd x8_2 (ji28))) ∧ w'.cell? (ad107.add (x14_2).toNat) = some (.int .i64 (rd l2 x14_2))) (ds := [22]) #[false, false, false, false, false, false, false, false, false, false, false, false, false, false, false, false, false, false, false, false, false, false, false] (by kernel_rfl) rfl rfl ⟨hx117_0, ((HB.out.cell (World.block_lt_of_cell? w _ hw118_0)).trans hw118_0)⟩ (fun hHeld => ?_); refine with_tabW galoisref09_DivMod.tab13 galoisref09_DivMod.bits13 (fun HT_ HW_ => ?_)
     generalize wr.drew = w35 at HO_8 HO_10 HB GG34 HQ36 hf34_0 hx117_0 hx118_0 hx34_0 hHeld ⊢
     refine zP 0 58 ?_; refine zP 1 59 ?_; refine zP 2 60 ?_; refine zP 3 61 ?_; refine zP 4 62 ?_; refine zP 5 63 ?_; refine zP 6 64 ?_; refine zP 7 65 ?_; refine zP 8 66 ?_; refine zP 10 68 ?_; refine zP 11 69 ?_; refine zP 12 70 ?_; refine zP 13 71 ?_; refine zP 14 72 ?_; refine zP 15 73 ?_; refine zP 19 77 ?_
     refine take_ (i := 9) (N := some 67) (v := ?_) (a' := ?_) #[true, true, true, true, true, true, true, true, true, true, true, true, true, true, true, true, false, false, false, true, false, false, false] rfl rfl (take_ofW HT_.out HW_.out (by kernel_rfl)) (fun _ _ _ h => h) (Or.inl ⟨by rfl, ?_⟩) hHeld ?_ ?_
     rotate_left
     ·rintro w' ⟨s0, s1⟩
      go_simp
      with_reducible rfl
     rotate_left
     ·simp only [Act.put, List.setIfInBounds_toArray, List.set_cons_zero, List.set_cons_succ, i64_w, i32_w]
      rfl
     refine take_ (i := 16) (N := some 74) (v := ?_) (a' := ?_) #[true, true, true, true, true, true, true, true, true, true, true, true, true, true, true, true, true, false, false, true, false, false, false] rfl rfl (take_ofW HT_.out HW_.out (by kernel_rfl)) (fun _ _ _ h => h) (Or.inl ⟨by rfl, ?_⟩) hHeld ?_ ?_
     rotate_left
     ·rintro w' ⟨s0, s1⟩
      go_simp
      with_reducible rfl
     rotate_left
     ·simp only [Act.put, List.setIfInBounds_toArray, List.set_cons_zero, List.set_cons_succ, i64_w, i32_w]
      rfl
     refine zP 17 75 ?_; refine zP 18 76 ?_; refine zP 20 78 ?_; refine zP 21 79 ?_
     refine last_ (i := 22) (N := none) #[true, true, true, true, true, true, true, true, true, true, true, true, true, true, true, true, true, true, true, true, true, true, true] rfl rfl (one_of HT_.out (by kernel_rfl)) (by decide) (fun K hK => ?_)
     refine skip_ (w1 := ?_) (by rfl) rfl ?_ ?_
     rotate_left
     ·go_simp
      rfl
     refine hK.out _ _ ?_
     clear hK K
     refine done_ (done_of HT_.out (by kernel_rfl)) ?_
     try go_wp2
     (try simp only [← hl8_2, ← hl10_2])
     (first | go_roundg k2 | (simp only [show ∀ g_ : Nat, ({ block := g_, off := (ji5).toNat } : Addr) = ({ block := g_, off := 0 } : Addr).add (ji5).toNat from fun g_ => by simp [Addr.add], show ∀ g_ : Nat, ({ block := g_, off := (ji8).toNat } : Addr) = ({ block := g_, off := 0 } : Addr).add (ji8).toNat from fun g_ => by simp [Addr.add], show ∀ g_ : Nat, ({ block := g_, off := (ji17).toNat } : Addr) = ({ block := g_, off := 0 } : Addr).add (ji17).toNat from fun g_ => by simp [Addr.add]]; go_roundg k2))
     case measure => have := HK1.out; have := HK2.out; omega
     case rel => exact ⟨(y119), (wrap64 (x14_2 + 1)), zX, H', ⟨by have := HK1.out; have := HK2.out; omega⟩, ⟨by (try simp only [hl10_1]); (try simp only [hl8_2]); (try simp only [hl10_2]); (with_reducible repeat (first | apply Kd.R_alloc | apply Kd.R_drewN | apply Kd.R_drew)); exact HQ36.out⟩, ⟨by (try simp only [hl10_1]); (try simp only [hl8_2]); (try simp only [hl10_2]); (with_reducible repeat (first | apply Kd.R_alloc | apply Kd.R_drewN | apply Kd.R_drew)); exact Kd.R_mono (Kd.R_far (p := ⟨go34, ((ji28) : Int).toNat, none⟩) (Kd.R_mono HO_10.out (fun k_ hk => (⟨hk, fun e_ => hk.2 (by rw [e_]; rfl)⟩ : _ ∧ k_ ≠ go34))) (fun _ hk => hk.2) (.int .i64 (Int.tmod (wrap64 ((rd x8_2 (ji28)) + (wrap64 ((wrap64 (a0 - (Int.tmod (wrap64 ((rd x8_1 (ji17)) * t108)) a0))) * (rd l2 x14_2))))) a0))) (fun _ hk => ⟨hk.1.1, hk.1.2⟩)⟩, ⟨zT⟩⟩
end Go.Proofs.Ytalnaafmonmlmaa.Q
end
section
namespace Go.Proofs.Ytalnaafmonmlmaa.Q
open Go.RowKit Go.Proofs.YtalnaafmonmlmaaW.PrintWords Go.Proofs.YtalnaafmonmlmaaW.PrintLast Go.Proofs.YtalnaafmonmlmaaW.PrintMore
attribute [local go_sem] max2_int min2_int max_two min_two max_three min_three max_four min_four
set_option linter.unusedVariables false
set_option linter.unusedSimpArgs false
set_option maxHeartbeats 8000000
set_option maxRecDepth 100000
mutual
def fp_Mul.j0 : Nat → Int → List Int → List Int → Bool → Option (List Int)
 | 0, _, _, _, _ => none
 | k + 1, x0, x1, x2, x19 => if x19 = true then (some ([] : List Int)) else (if 0 ≤ (wrap64 ((wrap64 ((x1.length : Int) + (x2.length : Int))) - 1)) then (if (wrap64 ((wrap64 ((x1.length : Int) + (x2.length : Int))) - 1) : Int).toNat ≤ 35184372088832 then (fp_Mul.l0 k x0 x2 (List.replicate (wrap64 ((wrap64 ((x1.length : Int) + (x2.length : Int))) - 1) : Int).toNat 0) x1 (x1.length : Int) 0) else (none)) else (none))
def fp_Mul.l0 : Nat → Int → List Int → List Int → List Int → Int → Int → Option (List Int)
 | 0, _, _, _, _, _, _ => none
 | k + 1, x0, x2, x7, x27, x28, x29 => if x29 < x28 then (if 0 ≤ x29 then (if x29 < (x27.length : Int) then (fp_Mul.l1 k x0 x2 x7 x29 (rd x27 x29) x27 x28 x29 x2 (x2.length : Int) 0) else (none)) else (none)) else ((fp_Trim.f k x7).bind fun t104 => (some t104))
def fp_Mul.l1 : Nat → Int → List Int → List Int → Int → Int → List Int → Int → Int → List Int → Int → Int → Option (List Int)
 | 0, _, _, _, _, _, _, _, _, _, _, _ => none
 | k + 1, x0, x2, x7, x8, x9, x27, x28, x29, x34, x35, x36 => if x36 < x35 then (if 0 ≤ x36 then (if x36 < (x34.length : Int) then (if 0 ≤ (wrap64 (x8 + x36)) then (if (wrap64 (x8 + x36)) < (x7.length : Int) then (if x0 = 0 then (none) else (fp_Mul.l1 k x0 x2 (x7.set ((wrap64 (x8 + x36)) : Int).toNat (Int.tmod (wrap64 ((rd x7 (wrap64 (x8 + x36))) + (wrap64 (x9 * (rd x34 x36))))) x0)) x8 x9 x27 x28 x29 x34 x35 (wrap64 (x36 + 1)))) else (none)) else (none)) else (none)) else (none)) else (fp_Mul.l0 k x0 x2 x7 x27 x28 (wrap64 (x29 + 1)))
end
def fp_Mul.f (k : Nat) (a0 : Int) (l1 : List Int) (l2 : List Int) : Option (List Int) := if (l1.length : Int) = 0 then (fp_Mul.j0 k a0 l1 l2 true) else (fp_Mul.j0 k a0 l1 l2 ((l2.length : Int) == 0))
theorem fp_Mul.mono_l : ∀ k, (∀ y0 y1 y2 y3, LeO (fp_Mul.j0 k y0 y1 y2 y3) (fp_Mul.j0 (k + 1) y0 y1 y2 y3)) ∧ (∀ y0 y1 y2 y3 y4 y5, LeO (fp_Mul.l0 k y0 y1 y2 y3 y4 y5) (fp_Mul.l0 (k + 1) y0 y1 y2 y3 y4 y5)) ∧ (∀ y0 y1 y2 y3 y4 y5 y6 y7 y8 y9 y10, LeO (fp_Mul.l1 k y0 y1 y2 y3 y4 y5 y6 y7 y8 y9 y10) (fp_Mul.l1 (k + 1) y0 y1 y2 y3 y4 y5 y6 y7 y8 y9 y10))
 | 0 => ⟨fun _ _ _ _ r h => by simp [fp_Mul.j0] at h, fun _ _ _ _ _ _ r h => by simp [fp_Mul.l0] at h, fun _ _ _ _ _ _ _ _ _ _ _ r h => by simp [fp_Mul.l1] at h⟩
 | k + 1 => by
  obtain ⟨ih0, ih1, ih2⟩ := fp_Mul.mono_l k
  refine ⟨?_, ?_, ?_⟩
  ·intro y0 y1 y2 y3
   unfold fp_Mul.j0
   with_reducible repeat' first | exact ih0 _ _ _ _ | exact ih1 _ _ _ _ _ _ | exact ih2 _ _ _ _ _ _ _ _ _ _ _ | exact fp_Trim.mono _ _ | exact LeO.refl _ | exact LeO.none _ | refine LeO.ite ?_ ?_ | refine LeO.bind ?_ (fun _ => ?_)
  ·intro y0 y1 y2 y3 y4 y5
   unfold fp_Mul.l0
   with_reducible repeat' first | exact ih0 _ _ _ _ | exact ih1 _ _ _ _ _ _ | exact ih2 _ _ _ _ _ _ _ _ _ _ _ | exact fp_Trim.mono _ _ | exact LeO.refl _ | exact LeO.none _ | refine LeO.ite ?_ ?_ | refine LeO.bind ?_ (fun _ => ?_)
  intro y0 y1 y2 y3 y4 y5 y6 y7 y8 y9 y10
  unfold fp_Mul.l1
  with_reducible repeat' first | exact ih0 _ _ _ _ | exact ih1 _ _ _ _ _ _ | exact ih2 _ _ _ _ _ _ _ _ _ _ _ | exact fp_Trim.mono _ _ | exact LeO.refl _ | exact LeO.none _ | refine LeO.ite ?_ ?_ | refine LeO.bind ?_ (fun _ => ?_)
theorem fp_Mul.mono : ∀ a0 a1 a2 k, LeO (fp_Mul.f k a0 a1 a2) (fp_Mul.f (k + 1) a0 a1 a2) := by
 intro a0 a1 a2 k
 obtain ⟨ih0, ih1, ih2⟩ := fp_Mul.mono_l k
 unfold fp_Mul.f
 with_reducible repeat' first | exact ih0 _ _ _ _ | exact ih1 _ _ _ _ _ _ | exact ih2 _ _ _ _ _ _ _ _ _ _ _ | exact fp_Trim.mono _ _ | exact LeO.refl _ | exact LeO.none _ | refine LeO.ite ?_ ?_ | refine LeO.bind ?_ (fun _ => ?_)
theorem fp_Mul.calls (k : Nat) (a0 : Int) (A1 : Option Addr) (c1 : Nat) (l1 : List Int) (A2 : Option Addr) (c2 : Nat) (l2 : List Int) (r : List Int) (w : World) (hr1 : Kd.C (Kd.int .i64) w A1 l1.length l1) (hc1 : l1.length ≤ c1) (hr2 : Kd.C (Kd.int .i64) w A2 l2.length l2) (hc2 : l2.length ≤ c2) (h : fp_Mul.f k a0 l1 l2 = some r) :
  Calls Try.prog 112 #[.int .i64 a0, .slice A1 l1.length c1, .slice A2 l2.length c2] w fun e w' => ∃ v0_ : Value, e = .returned (v0_) ∧ Kd.V (Kd.int .i64) 3 w' w.heap.size (fun k_ => (w.heap.size ≤ k_)) v0_ r ∧ Below w.heap.size w w' := by
 have HR1 := Aside0.mk hr1
 have HC1 := Aside0.mk hc1
 clear hr1 hc1
 have HR2 := Aside0.mk hr2
 have HC2 := Aside0.mk hc2
 clear hr2 hc2
 have HB := Aside0.mk (Below.refl w.heap.size w)
 have H := h; clear h; unfold fp_Mul.f at H
 have HC4 := Aside0.mk H
 clear H
 go_enter Try.func112, Try.ntmps112
 go_upto_region 1 with (fail)
 go_cut [19] (fun v19 wc => ∃ (kq : Nat) (x19_3 : Bool), v19 = .bool x19_3 ∧ Aside0 (fp_Mul.j0 kq a0 l1 l2 x19_3 = some r) ∧ Aside0 (kq ≤ k) ∧ Aside0 (Below w.heap.size w wc))
 case first =>
  have H := HC4.out
  clear HC4
  by_cases c5 : (l1.length : Int) = 0
  ·rw [if_pos c5] at H
   obtain ⟨c5b0, c5b1⟩ := zE c5; clear c5
   (first | rw [c5b0] | (simp only [i64_w, i32_w]; rw [c5b0]) | skip)
   have H' := Aside0.mk H
   clear H
   go_wp2
   go_meet
   case rel => exact ⟨_, (true), zX, H', ⟨by first | omega | exact Nat.le_refl _⟩, ⟨zT⟩⟩
  rw [if_neg c5] at H
  obtain ⟨c5b0, c5b1⟩ := zU c5
  have c5b2 : ¬ (l1 = []) := fun h_ => c5 (by rw [h_]; rfl)
  (first | rw [c5b0] | (simp only [i64_w, i32_w]; rw [c5b0]) | skip)
  have H' := Aside0.mk H
  clear H
  go_wp2
  go_meet
  case rel => exact ⟨_, (((l2.length : Int) == 0)), zX, H', ⟨by first | omega | exact Nat.le_refl _⟩, ⟨zT⟩⟩
 case rest =>
  clear HC4
  try clear c1; try clear c2; try clear p2; try clear c5; try clear c5b0; try clear c5b1; try clear c5b2
  obtain ⟨kq, x19_3, rfl, HA, HJ3, HB⟩ := hcut
  cases kq with
  | zero => exact absurd HA.out (by simp [fp_Mul.j0])
  | succ kj3 =>
   have H := HA.out
   clear HA
   simp only [fp_Mul.j0] at H
   by_cases c6 : x19_3 = true
   ·subst c6
    rw [if_pos rfl] at H
    obtain rfl := Option.some.inj H
    go_wp2
    go_ret
    exact ⟨_, zQ, zL, zT⟩
   replace c6 := Bool.eq_false_iff.mpr c6
   subst c6
   rw [if_neg Bool.false_ne_true] at H
   obtain ⟨ji7, hji7⟩ : ∃ j_ : Int, (wrap64 ((wrap64 ((l1.length : Int) + (l2.length : Int))) - 1)) = j_ := ⟨_, rfl⟩
   first | rw [hji7] at H | simp only [hji7] at H
   have hji7w : (IntKind.i64.wrap ((wrap64 ((l1.length : Int) + (l2.length : Int))) - 1)) = ji7 := (i64_w _).trans hji7
   by_cases c8 : 0 ≤ (ji7)
   rotate_left
   ·rw [if_neg c8] at H
    exact absurd H (by simp)
   rw [if_pos c8] at H
   have c8b0 := eq_true c8; have c8b1 := decide_eq_true c8; clear c8
   by_cases c9 : (ji7 : Int).toNat ≤ 35184372088832
   rotate_left
   ·rw [if_neg c9] at H
    exact absurd H (by simp)
   rw [if_pos c9] at H
   have c9b0 := eq_true c9; have c9b1 := decide_eq_true c9; clear c9
   obtain ⟨y101, Ny101⟩ := zA ((List.replicate (ji7 : Int).toNat 0) : List Int); rw [← Ny101.out] at H
   have H' := Aside0.mk H
   clear H
   go_wp2_with (first | ((with_reducible refine gate_dst (N := 26) rfl ?_); (try (refine gate_guard (by rfl) ?_; dsimp only)); refine Kd.R_make (Kd.int .i64) _ 3 rfl (N := 26) rfl 25 _ _ rfl ji7 rfl rfl Try.underlying25 (.int .i64 0) 8 info3 rfl (by decide) (by omega) 0 (ok := fun _ => True) (okp := fun _ => True) rfl (fun _ hk => hk) trivial zD (Nat.le_trans (Nat.mul_le_mul_right _ (zD : ji7.toNat ≤ 35184372088832)) (by omega)) (Below.refl _ _) (Nat.le_refl _) ?_; intro v102 w10 ho11 hb hg_ hnew_; clear hg_ hnew_; (first | rw [← Ny101.out] at ho11 | (simp only [Int.reduceToNat] at ho11; rw [← Ny101.out] at ho11)); have HO103 := Aside0.mk (Kd.R_lower (Kd.R_newM (M := fun k_ => (w.heap.size ≤ k_)) ho11 (zS HB) (fun k_ h_ => h_)) (zS HB)); replace HB := zBb HB hb; clear hb ho11))
   go_loopg [29] kj3 (fun kq v29 w' => ∃ (x7_2 : List Int) (x29_2 : Int), v29 = .int .i64 x29_2 ∧ Aside0 (fp_Mul.l0 kq a0 l2 x7_2 l1 (l1.length : Int) x29_2 = some r) ∧ Aside0 (kq ≤ kj3) ∧ Aside0 (Kd.R (Kd.int .i64) 3 w' w.heap.size (fun k_ => (w.heap.size ≤ k_)) v102 x7_2) ∧ Aside0 (Below w.heap.size w w'))
   case atStart => exact ⟨(y101), (0), zX, H', ⟨Nat.le_refl _⟩, ⟨zR (Kd.R_mono HO103.out (fun _ hk => hk.1))⟩, ⟨zT⟩⟩
   case round =>
    clear H'
    try clear c1; try clear c2; try clear p2; try clear c5; try clear c5b0; try clear c5b1; try clear c5b2; try clear c6; try clear p6; try clear c8; try clear c8b0; try clear c8b1; try clear c9; try clear c9b0; try clear c9b1; try clear c11; try clear p2
    obtain ⟨x7_2, x29_2, rfl, HA, HK2, HO_7, HB⟩ := hrel
    cases gk with
    | zero => exact absurd HA.out (by simp [fp_Mul.l0])
    | succ k2 =>
     have H := HA.out
     clear HA
     simp only [fp_Mul.l0] at H
     by_cases c12 : x29_2 < (l1.length : Int)
     rotate_left
     ·rw [if_neg c12] at H
      have c12b0 := decide_eq_false c12; clear c12
      obtain ⟨t104, A26, H⟩ := zO H
      obtain rfl := Option.some.inj H
      obtain ⟨Ao27, co27, eo27⟩ := Kd.R_slice HO_7.out
      subst eo27
      go_wp2_with (first | ((with_reducible refine gate_callee (f := 92) rfl ?_); refine zG (some 61) Try.func92 #[.slice Ao27 x7_2.length co27] ?_; (with_reducible refine (fp_Trim.calls k2 (fun k_ => some k_ = (.slice Ao27 x7_2.length co27 : Value).ownBlock) _ _ x7_2 t104 _ ?side1 A26.out).mono ?_); (case side1 => exact Kd.R_V (Kd.R_tight rfl (HO_7.out))); rintro e w28 ⟨v105, rfl, ho0, hb⟩; refine ⟨_, rfl, ?_⟩; have HO106 := Aside0.mk (Kd.V_lower (Kd.V_mono (ok' := fun k_ => (w.heap.size ≤ k_)) ho0 (fun k_ hk_ => Or.elim hk_ (fun hs_ => ((HO_7.out).1 k_ hs_.symm)) (fun hn_ => (Nat.le_trans (zS HB) hn_)))) (zS HB)); replace HO_7 := zRb HO_7 hb; replace HB := zBb HB hb; (try clear hb); (try clear ho0)))
      go_ret
      exact ⟨_, by first | rfl | (simp [errW_none, errW_some] <;> rfl) | (simp only [← hji7]; first | rfl | (simp [errW_none, errW_some] <;> rfl)) | (simp [*, errW_none, errW_some] <;> rfl), zV HO106.out, zT⟩
     rw [if_pos c12] at H
     have c12b0 := decide_eq_true c12; clear c12
     by_cases c13 : 0 ≤ x29_2
     rotate_left
     ·rw [if_neg c13] at H
      exact absurd H (by simp)
     rw [if_pos c13] at H
     have c13b0 := decide_eq_true c13; clear c13
     by_cases c14 : x29_2 < (l1.length : Int)
     rotate_left
     ·rw [if_neg c14] at H
      exact absurd H (by simp)
     rw [if_pos c14] at H
     have c14b0 := decide_eq_true c14; clear c14
     have H' := Aside0.mk H
     clear H
     obtain ⟨p107, q107, ad107, e107, hx107_0⟩ := zI (HR1.out) (x29_2) zD zD
     cases e107
     replace hx107_0 := (HB.out.cell (World.block_lt_of_cell? w _ hx107_0)).trans hx107_0
     go_wp2
     go_loopg [36] k2 (fun kq v36 w' => ∃ (x7_3 : List Int) (x36_3 : Int), v36 = .int .i64 x36_3 ∧ Aside0 (fp_Mul.l1 kq a0 l2 x7_3 x29_2 (rd l1 x29_2) l1 (l1.length : Int) x29_2 l2 (l2.length : Int) x36_3 = some r) ∧ Aside0 (kq ≤ k2) ∧ Aside0 (Kd.R (Kd.int .i64) 3 w' w.heap.size (fun k_ => (w.heap.size ≤ k_)) v102 x7_3) ∧ Aside0 (Below w.heap.size w w'))
     case atStart => exact ⟨(x7_2), (0), zX, H', ⟨Nat.le_refl _⟩, ⟨zR HO_7.out⟩, ⟨zT⟩⟩
     case round =>
      clear H'
      try clear c1; try clear p1; try clear q1; try clear hx1; try clear c2; try clear p2; try clear c5; try clear c5b0; try clear c5b1; try clear c5b2; try clear c6; try clear p6; try clear c8; try clear c8b0; try clear c8b1; try clear c9; try clear c9b0; try clear c9b1; try clear p10; try clear q10; try clear hx10; try clear c11; try clear c12; try clear c12b0; try clear c13; try clear c13b0; try clear c14; try clear c14b0; try clear hx107_0; try clear p107; try clear p2; try clear p6; try clear q107
      obtain ⟨x7_3, x36_3, rfl, HA, HK3, HO_7, HB⟩ := hrel
      cases gk with
      | zero => exact absurd HA.out (by simp [fp_Mul.l1])
      | succ k3 =>
       have H := HA.out
       clear HA
       simp only [fp_Mul.l1] at H
       by_cases c15 : x36_3 < (l2.length : Int)
       rotate_left
       ·rw [if_neg c15] at H
        have c15b0 := decide_eq_false c15; clear c15
        have H' := Aside0.mk H
        clear H
        go_wp2
        (first | go_roundg k3 | (simp only [show ∀ g_ : Nat, ({ block := g_, off := (ji7).toNat } : Addr) = ({ block := g_, off := 0 } : Addr).add (ji7).toNat from fun g_ => by simp [Addr.add]]; go_roundg k3))
        case measure => have := HJ3.out; have := HK2.out; have := HK3.out; omega
        case rel => exact ⟨(x7_3), (wrap64 (x29_2 + 1)), zX, H', ⟨by have := HJ3.out; have := HK2.out; have := HK3.out; omega⟩, ⟨zR HO_7.out⟩, ⟨zT⟩⟩
       rw [if_pos c15] at H
       have c15b0 := decide_eq_true c15; clear c15
       by_cases c16 : 0 ≤ x36_3
       rotate_left
       ·rw [if_neg c16] at H
        exact absurd H (by simp)
       rw [if_pos c16] at H
       have c16b0 := decide_eq_true c16; clear c16
       by_cases c17 : x36_3 < (l2.length : Int)
       rotate_left
       ·rw [if_neg c17] at H
        exact absurd H (by simp)
       rw [if_pos c17] at H
       have c17b0 := decide_eq_true c17; clear c17
       obtain ⟨ji18, hji18⟩ : ∃ j_ : Int, (wrap64 (x29_2 + x36_3)) = j_ := ⟨_, rfl⟩
       first | rw [hji18] at H | simp only [hji18] at H
       have hji18w : (IntKind.i64.wrap (x29_2 + x36_3)) = ji18 := (i64_w _).trans hji18
       by_cases c19 : 0 ≤ (ji18)
       rotate_left
       ·rw [if_neg c19] at H
        exact absurd H (by simp)
       rw [if_pos c19] at H
       have c19b0 := decide_eq_true c19; clear c19
       by_cases c20 : (ji18) < (x7_3.length : Int)
       rotate_left
       ·rw [if_neg c20] at H
        exact absurd H (by simp)
       rw [if_pos c20] at H
       have c20b0 := decide_eq_true c20; clear c20
       by_cases c21 : a0 = 0
       ·rw [if_pos c21] at H
        exact absurd H (by simp)
       rw [if_neg c21] at H
       obtain ⟨c21b0, c21b1⟩ := zU c21
       obtain ⟨y110, Ny110⟩ := zA ((x7_3.set ((ji18) : Int).toNat (Int.tmod (wrap64 ((rd x7_3 (ji18)) + (wrap64 ((rd l1 x29_2) * (rd l2 x36_3))))) a0)) : List Int); rw [← Ny110.out] at H
       have H' := Aside0.mk H
       clear H
       obtain ⟨p108, q108, ad108, e108, hx108_0⟩ := zI (HR2.out) (x36_3) zD zD
       cases e108
       replace hx108_0 := (HB.out.cell (World.block_lt_of_cell? w _ hx108_0)).trans hx108_0
       obtain ⟨Ao23, co23, eo23⟩ := Kd.R_slice HO_7.out
       subst eo23
       obtain ⟨p109, q109, ad109, e109, hx109_0⟩ := zI ((Kd.R_reads' HO_7.out).2.2) ((ji18)) zD zD
       cases e109
       have p22 : 0 ≤ ((ji18) : Int) := zD
       have q22 : ((ji18) : Int) < ((x7_3.length : Int) : Int) := zD
       obtain ⟨go22, co22, eo22, gb22, gl22, cl22, HG22⟩ := Kd.R_form HO_7.out (by omega)
       (first | cases eo22 | (injection eo22 with ea_ en_ ec_; (first | subst ea_ | (injection ea_ with ea_; subst ea_)); subst ec_; clear en_))
       have GB22 := Aside0.mk gb22
       have GG22 := Aside0.mk HG22
       clear gb22 gl22 HG22
       (first | simp only [add_plain] at hx109_0 | skip)
       obtain ⟨hx22_0, hf22_0⟩ := Kd.R_celln 0 HO_7.out ((ji18) : Int) p22 q22
       replace p22 := eq_true p22
       replace q22 := eq_true q22
       have HP24 := Kd.R_putg HO_7.out ((ji18) : Int) (Int.tmod (wrap64 ((rd x7_3 (ji18)) + (wrap64 ((rd l1 x29_2) * (rd l2 x36_3))))) a0)
       go_wp2_with (first | ((with_reducible refine gate_store (t := 3) (p := 57) rfl ?_); refine store_event (t := 3) (p := 57) (v := ?vo_w25) (w1 := (wr.setCell ⟨go22, ((ji18) : Int).toNat, none⟩ (.int .i64 (Int.tmod (wrap64 ((rd x7_3 (ji18)) + (wrap64 ((rd l1 x29_2) * (rd l2 x36_3))))) a0)))) ?hg ?ho ?hn ?hr ?_; (case ho => rfl); (case hg => rfl); (case hn => rfl); (case hr => go_simp <;> rfl); intro w25 hw; have hg : wr.grownBy w25 (some go22) := (by rw [hw]; exact HP24.2); have hp_ : Kd.R (Kd.int .i64) 3 w25 w.heap.size (fun k_ => (w.heap.size ≤ k_)) (.slice (some ⟨go22, 0, none⟩) x7_3.length co23) y110 := (by rw [hw, Ny110.out]; exact HP24.1); clear HP24; replace HO_7 := Aside0.mk (hp_); replace HB := Aside0.mk ((by rw [hw]; exact below_set (HB.out) GB22.out : Below w.heap.size w w25)); clear hg hw hp_))
       (first | go_roundg k3 | (simp only [show ∀ g_ : Nat, ({ block := g_, off := (ji7).toNat } : Addr) = ({ block := g_, off := 0 } : Addr).add (ji7).toNat from fun g_ => by simp [Addr.add]]; go_roundg k3))
       case measure => have := HJ3.out; have := HK2.out; have := HK3.out; omega
       case rel => exact ⟨(y110), (wrap64 (x36_3 + 1)), zX, H', ⟨by have := HJ3.out; have := HK2.out; have := HK3.out; omega⟩, ⟨zR HO_7.out⟩, ⟨zT⟩⟩
end Go.Proofs.Ytalnaafmonmlmaa.Q
end
section
namespace Go.Proofs.Ytalnaafmonmlmaa.Q
open Go.RowKit Go.Proofs.YtalnaafmonmlmaaW.PrintWords Go.Proofs.YtalnaafmonmlmaaW.PrintLast Go.Proofs.YtalnaafmonmlmaaW.PrintMore
attribute [local go_sem] max2_int min2_int max_two min_two max_three min_three max_four min_four
set_option linter.unusedVariables false
set_option linter.unusedSimpArgs false
set_option maxHeartbeats 8000000
set_option maxRecDepth 100000
def galoisref09_Mod.f (k : Nat) (a0 : Int) (l1 : List Int) (l2 : List Int) : Option (List Int) := (galoisref09_DivMod.f k a0 l1 l2).bind fun bt101 => (some bt101.2)
theorem galoisref09_Mod.mono : ∀ a0 a1 a2 k, LeO (galoisref09_Mod.f k a0 a1 a2) (galoisref09_Mod.f (k + 1) a0 a1 a2) := by
 intro a0 a1 a2 k
 unfold galoisref09_Mod.f
 with_reducible repeat' first | exact galoisref09_DivMod.mono _ _ _ _ | exact LeO.refl _ | exact LeO.none _ | refine LeO.ite ?_ ?_ | refine LeO.bind ?_ (fun _ => ?_)
theorem galoisref09_Mod.calls (k : Nat) (a0 : Int) (A1 : Option Addr) (c1 : Nat) (l1 : List Int) (A2 : Option Addr) (c2 : Nat) (l2 : List Int) (r : List Int) (w : World) (hr1 : Kd.C (Kd.int .i64) w A1 l1.length l1) (hc1 : l1.length ≤ c1) (hr2 : Kd.C (Kd.int .i64) w A2 l2.length l2) (hc2 : l2.length ≤ c2) (h : galoisref09_Mod.f k a0 l1 l2 = some r) :
  Calls Try.prog 86 #[.int .i64 a0, .slice A1 l1.length c1, .slice A2 l2.length c2] w fun e w' => ∃ v0_ : Value, e = .returned (v0_) ∧ Kd.V (Kd.int .i64) 3 w' w.heap.size (fun k_ => (w.heap.size ≤ k_)) v0_ r ∧ Below w.heap.size w w' := by
 have HR1 := Aside0.mk hr1
 have HC1 := Aside0.mk hc1
 clear hr1 hc1
 have HR2 := Aside0.mk hr2
 have HC2 := Aside0.mk hc2
 clear hr2 hc2
 have HB := Aside0.mk (Below.refl w.heap.size w)
 have H := h; clear h; unfold galoisref09_Mod.f at H
 obtain ⟨⟨t101, t104⟩, A4, H⟩ := zO H; try dsimp only at H
 obtain rfl := Option.some.inj H
 go_enter Try.func86, Try.ntmps86
 go_wp2_with (first | ((with_reducible refine gate_callee (f := 108) rfl ?_); refine zG (some 13) Try.func108 #[.int .i64 a0, .slice A1 l1.length c1, .slice A2 l2.length c2] ?_; (with_reducible refine (galoisref09_DivMod.calls k a0 _ _ l1 _ _ l2 t101 t104 _ ?side1 ?side2 ?side3 ?side4 A4.out).mono ?_); (case side1 => exact zC (HR1.out)); (case side2 => exact HC1.out); (case side3 => exact zC (HR2.out)); (case side4 => exact HC2.out); rintro e w5 ⟨v102, v105, rfl, ho0, ho1, hb⟩; refine ⟨_, rfl, ?_⟩; have HO103 := Aside0.mk (Kd.V_lower (Kd.V_mono (ok' := fun k_ => (w.heap.size ≤ k_)) ho0 (fun k_ hk_ => (Nat.le_trans (zS HB) hk_))) (zS HB)); have HO106 := Aside0.mk (Kd.V_lower (Kd.V_mono (ok' := fun k_ => (w.heap.size ≤ k_)) ho1 (fun k_ hk_ => (Nat.le_trans (zS HB) hk_))) (zS HB)); replace HB := zBb HB hb; (try clear hb); (try clear ho0); (try clear ho1)))
 go_ret
 exact ⟨_, zQ, zV HO106.out, zT⟩
end Go.Proofs.Ytalnaafmonmlmaa.Q
end
section
namespace Go.Proofs.Ytalnaafmonmlmaa.Q
open Go.RowKit Go.Proofs.YtalnaafmonmlmaaW.PrintWords Go.Proofs.YtalnaafmonmlmaaW.PrintLast Go.Proofs.YtalnaafmonmlmaaW.PrintMore
attribute [local go_sem] max2_int min2_int max_two min_two max_three min_three max_four min_four
set_option linter.unusedVariables false
set_option linter.unusedSimpArgs false
set_option maxHeartbeats 8000000
set_option maxRecDepth 100000
mutual
def galoisref09_Mul.j0 : Nat → Int → List Int → List Int → Bool → Option (List Int)
 | 0, _, _, _, _ => none
 | k + 1, x0, x1, x2, x17 => if x17 = true then (some ([] : List Int)) else (if 0 ≤ (wrap64 ((wrap64 ((x1.length : Int) + (x2.length : Int))) - 1)) then (if (wrap64 ((wrap64 ((x1.length : Int) + (x2.length : Int))) - 1) : Int).toNat ≤ 35184372088832 then (galoisref09_Mul.l0 k x0 x1 x2 (List.replicate (wrap64 ((wrap64 ((x1.length : Int) + (x2.length : Int))) - 1) : Int).toNat 0) 0) else (none)) else (none))
def galoisref09_Mul.l0 : Nat → Int → List Int → List Int → List Int → Int → Option (List Int)
 | 0, _, _, _, _, _ => none
 | k + 1, x0, x1, x2, x7, x8 => if x8 < (x1.length : Int) then (galoisref09_Mul.l1 k x0 x1 x2 x7 x8 0) else ((galoisref09_Trim.f k x7).bind fun t104 => (some t104))
def galoisref09_Mul.l1 : Nat → Int → List Int → List Int → List Int → Int → Int → Option (List Int)
 | 0, _, _, _, _, _, _ => none
 | k + 1, x0, x1, x2, x7, x8, x9 => if x9 < (x2.length : Int) then (if 0 ≤ (wrap64 (x8 + x9)) then (if (wrap64 (x8 + x9)) < (x7.length : Int) then (if 0 ≤ x8 then (if x8 < (x1.length : Int) then (if 0 ≤ x9 then (if x0 = 0 then (none) else (galoisref09_Mul.l1 k x0 x1 x2 (x7.set ((wrap64 (x8 + x9)) : Int).toNat (Int.tmod (wrap64 ((rd x7 (wrap64 (x8 + x9))) + (wrap64 ((rd x1 x8) * (rd x2 x9))))) x0)) x8 (wrap64 (x9 + 1)))) else (none)) else (none)) else (none)) else (none)) else (none)) else (galoisref09_Mul.l0 k x0 x1 x2 x7 (wrap64 (x8 + 1)))
end
def galoisref09_Mul.f (k : Nat) (a0 : Int) (l1 : List Int) (l2 : List Int) : Option (List Int) := if (l1.length : Int) = 0 then (galoisref09_Mul.j0 k a0 l1 l2 true) else (galoisref09_Mul.j0 k a0 l1 l2 ((l2.length : Int) == 0))
theorem galoisref09_Mul.mono_l : ∀ k, (∀ y0 y1 y2 y3, LeO (galoisref09_Mul.j0 k y0 y1 y2 y3) (galoisref09_Mul.j0 (k + 1) y0 y1 y2 y3)) ∧ (∀ y0 y1 y2 y3 y4, LeO (galoisref09_Mul.l0 k y0 y1 y2 y3 y4) (galoisref09_Mul.l0 (k + 1) y0 y1 y2 y3 y4)) ∧ (∀ y0 y1 y2 y3 y4 y5, LeO (galoisref09_Mul.l1 k y0 y1 y2 y3 y4 y5) (galoisref09_Mul.l1 (k + 1) y0 y1 y2 y3 y4 y5))
 | 0 => ⟨fun _ _ _ _ r h => by simp [galoisref09_Mul.j0] at h, fun _ _ _ _ _ r h => by simp [galoisref09_Mul.l0] at h, fun _ _ _ _ _ _ r h => by simp [galoisref09_Mul.l1] at h⟩
 | k + 1 => by
  obtain ⟨ih0, ih1, ih2⟩ := galoisref09_Mul.mono_l k
  refine ⟨?_, ?_, ?_⟩
  ·intro y0 y1 y2 y3
   unfold galoisref09_Mul.j0
   with_reducible repeat' first | exact ih0 _ _ _ _ | exact ih1 _ _ _ _ _ | exact ih2 _ _ _ _ _ _ | exact galoisref09_Trim.mono _ _ | exact LeO.refl _ | exact LeO.none _ | refine LeO.ite ?_ ?_ | refine LeO.bind ?_ (fun _ => ?_)
  ·intro y0 y1 y2 y3 y4
   unfold galoisref09_Mul.l0
   with_reducible repeat' first | exact ih0 _ _ _ _ | exact ih1 _ _ _ _ _ | exact ih2 _ _ _ _ _ _ | exact galoisref09_Trim.mono _ _ | exact LeO.refl _ | exact LeO.none _ | refine LeO.ite ?_ ?_ | refine LeO.bind ?_ (fun _ => ?_)
  intro y0 y1 y2 y3 y4 y5
  unfold galoisref09_Mul.l1
  with_reducible repeat' first | exact ih0 _ _ _ _ | exact ih1 _ _ _ _ _ | exact ih2 _ _ _ _ _ _ | exact galoisref09_Trim.mono _ _ | exact LeO.refl _ | exact LeO.none _ | refine LeO.ite ?_ ?_ | refine LeO.bind ?_ (fun _ => ?_)
theorem galoisref09_Mul.mono : ∀ a0 a1 a2 k, LeO (galoisref09_Mul.f k a0 a1 a2) (galoisref09_Mul.f (k + 1) a0 a1 a2) := by
 intro a0 a1 a2 k
 obtain ⟨ih0, ih1, ih2⟩ := galoisref09_Mul.mono_l k
 unfold galoisref09_Mul.f
 with_reducible repeat' first | exact ih0 _ _ _ _ | exact ih1 _ _ _ _ _ | exact ih2 _ _ _ _ _ _ | exact galoisref09_Trim.mono _ _ | exact LeO.refl _ | exact LeO.none _ | refine LeO.ite ?_ ?_ | refine LeO.bind ?_ (fun _ => ?_)
def galoisref09_Mul.T10 : Bool × List (List Nat × List Nat) := (true, [([], []), ([], []), ([], []), ([1, 2], [1, 2]), ([], []), ([], []), ([], []), ([5, 6], [5, 6]), ([4, 7], [4, 7]), ([8], [8]), ([], []), ([], []), ([10, 11], [10, 11]), ([12], [12]), ([], []), ([], []), ([14, 15], [14, 15]), ([16], [16]), ([13, 17], [13, 17]), ([9, 18], [9, 18]), ([], []), ([19, 20], [19, 20]), ([0, 3, 0, 1, 2, 3, 4, 5, 6, 7, 8, 9, 10, 11, 12, 13, 14, 15, 16, 17, 18, 19, 20, 21], [0, 3]), ([22, 21, 0, 1, 2, 3, 4, 5, 6, 7, 8, 9, 10, 11, 12, 13, 14, 15, 16, 17, 18, 19, 20, 21], [21, 22])])
def galoisref09_Mul.B10 : List Nat := [0, 0, 0, 6, 0, 0, 0, 96, 240, 496, 0, 0, 3072, 7168, 0, 0, 49152, 114688, 261120, 524272, 0, 2097136, 4194303, 8388607]
theorem galoisref09_Mul.tab10 : rtab .any (opsOf Try.f97 10) = galoisref09_Mul.T10 := by kernel_rfl
theorem galoisref09_Mul.bits10 : waitsOk galoisref09_Mul.T10.2 galoisref09_Mul.B10 = true := by kernel_rfl
theorem galoisref09_Mul.calls (k : Nat) (a0 : Int) (A1 : Option Addr) (c1 : Nat) (l1 : List Int) (A2 : Option Addr) (c2 : Nat) (l2 : List Int) (r : List Int) (w : World) (hr1 : Kd.C (Kd.int .i64) w A1 l1.length l1) (hc1 : l1.length ≤ c1) (hr2 : Kd.C (Kd.int .i64) w A2 l2.length l2) (hc2 : l2.length ≤ c2) (h : galoisref09_Mul.f k a0 l1 l2 = some r) :
  Calls Try.prog 97 #[.int .i64 a0, .slice A1 l1.length c1, .slice A2 l2.length c2] w fun e w' => ∃ v0_ : Value, e = .returned (v0_) ∧ Kd.V (Kd.int .i64) 3 w' w.heap.size (fun k_ => (w.heap.size ≤ k_)) v0_ r ∧ Below w.heap.size w w' := by
 have HR1 := Aside0.mk hr1
 have HC1 := Aside0.mk hc1
 clear hr1 hc1
 have HR2 := Aside0.mk hr2
 have HC2 := Aside0.mk hc2
 clear hr2 hc2
 have HB := Aside0.mk (Below.refl w.heap.size w)
 have H := h; clear h; unfold galoisref09_Mul.f at H
 have HC4 := Aside0.mk H
 clear H
 go_enter Try.func97, Try.ntmps97
 go_upto_region 1 with (fail)
 go_cut [17] (fun v17 wc => ∃ (kq : Nat) (x17_3 : Bool), v17 = .bool x17_3 ∧ Aside0 (galoisref09_Mul.j0 kq a0 l1 l2 x17_3 = some r) ∧ Aside0 (kq ≤ k) ∧ Aside0 (Below w.heap.size w wc))
 case first =>
  have H := HC4.out
  clear HC4
  by_cases c5 : (l1.length : Int) = 0
  ·rw [if_pos c5] at H
   obtain ⟨c5b0, c5b1⟩ := zE c5; clear c5
   (first | rw [c5b0] | (simp only [i64_w, i32_w]; rw [c5b0]) | skip)
   have H' := Aside0.mk H
   clear H
   go_wp2
   go_meet
   case rel => exact ⟨_, (true), zX, H', ⟨by first | omega | exact Nat.le_refl _⟩, ⟨zT⟩⟩
  rw [if_neg c5] at H
  obtain ⟨c5b0, c5b1⟩ := zU c5
  have c5b2 : ¬ (l1 = []) := fun h_ => c5 (by rw [h_]; rfl)
  (first | rw [c5b0] | (simp only [i64_w, i32_w]; rw [c5b0]) | skip)
  have H' := Aside0.mk H
  clear H
  go_wp2
  go_meet
  case rel => exact ⟨_, (((l2.length : Int) == 0)), zX, H', ⟨by first | omega | exact Nat.le_refl _⟩, ⟨zT⟩⟩
 case rest =>
  clear HC4
  try clear c1; try clear c2; try clear p2; try clear c5; try clear c5b0; try clear c5b1; try clear c5b2
  obtain ⟨kq, x17_3, rfl, HA, HJ3, HB⟩ := hcut
  cases kq with
  | zero => exact absurd HA.out (by simp [galoisref09_Mul.j0])
  | succ kj3 =>
   have H := HA.out
   clear HA
   simp only [galoisref09_Mul.j0] at H
   by_cases c6 : x17_3 = true
   ·subst c6
    rw [if_pos rfl] at H
    obtain rfl := Option.some.inj H
    go_wp2
    go_ret
    exact ⟨_, zQ, zL, zT⟩
   replace c6 := Bool.eq_false_iff.mpr c6
   subst c6
   rw [if_neg Bool.false_ne_true] at H
   obtain ⟨ji7, hji7⟩ : ∃ j_ : Int, (wrap64 ((wrap64 ((l1.length : Int) + (l2.length : Int))) - 1)) = j_ := ⟨_, rfl⟩
   first | rw [hji7] at H | simp only [hji7] at H
   have hji7w : (IntKind.i64.wrap ((wrap64 ((l1.length : Int) + (l2.length : Int))) - 1)) = ji7 := (i64_w _).trans hji7
   by_cases c8 : 0 ≤ (ji7)
   rotate_left
   ·rw [if_neg c8] at H
    exact absurd H (by simp)
   rw [if_pos c8] at H
   have c8b0 := eq_true c8; have c8b1 := decide_eq_true c8; clear c8
   by_cases c9 : (ji7 : Int).toNat ≤ 35184372088832
   rotate_left
   ·rw [if_neg c9] at H
    exact absurd H (by simp)
   rw [if_pos c9] at H
   have c9b0 := eq_true c9; have c9b1 := decide_eq_true c9; clear c9
   obtain ⟨y101, Ny101⟩ := zA ((List.replicate (ji7 : Int).toNat 0) : List Int); rw [← Ny101.out] at H
   have H' := Aside0.mk H
   clear H
   go_wp2_with (first | ((with_reducible refine gate_dst (N := 24) rfl ?_); (try (refine gate_guard (by rfl) ?_; dsimp only)); refine Kd.R_make (Kd.int .i64) _ 3 rfl (N := 24) rfl 25 _ _ rfl ji7 rfl rfl Try.underlying25 (.int .i64 0) 8 info3 rfl (by decide) (by omega) 0 (ok := fun _ => True) (okp := fun _ => True) rfl (fun _ hk => hk) trivial zD (Nat.le_trans (Nat.mul_le_mul_right _ (zD : ji7.toNat ≤ 35184372088832)) (by omega)) (Below.refl _ _) (Nat.le_refl _) ?_; intro v102 w10 ho11 hb hg_ hnew_; clear hg_ hnew_; (first | rw [← Ny101.out] at ho11 | (simp only [Int.reduceToNat] at ho11; rw [← Ny101.out] at ho11)); have HO103 := Aside0.mk (Kd.R_lower (Kd.R_newM (M := fun k_ => (w.heap.size ≤ k_)) ho11 (zS HB) (fun k_ h_ => h_)) (zS HB)); replace HB := zBb HB hb; clear hb ho11))
   go_loopg [8] kj3 (fun kq v8 w' => ∃ (x7_2 : List Int) (x8_2 : Int), v8 = .int .i64 x8_2 ∧ Aside0 (galoisref09_Mul.l0 kq a0 l1 l2 x7_2 x8_2 = some r) ∧ Aside0 (kq ≤ kj3) ∧ Aside0 (Kd.R (Kd.int .i64) 3 w' w.heap.size (fun k_ => (w.heap.size ≤ k_)) v102 x7_2) ∧ Aside0 (Below w.heap.size w w'))
   case atStart => exact ⟨(y101), (0), zX, H', ⟨Nat.le_refl _⟩, ⟨zR (Kd.R_mono HO103.out (fun _ hk => hk.1))⟩, ⟨zT⟩⟩
   case round =>
    clear H'
    try clear c1; try clear c2; try clear p2; try clear c5; try clear c5b0; try clear c5b1; try clear c5b2; try clear c6; try clear p6; try clear c8; try clear c8b0; try clear c8b1; try clear c9; try clear c9b0; try clear c9b1; try clear p2
    obtain ⟨x7_2, x8_2, rfl, HA, HK2, HO_7, HB⟩ := hrel
    cases gk with
    | zero => exact absurd HA.out (by simp [galoisref09_Mul.l0])
    | succ k2 =>
     have H := HA.out
     clear HA
     simp only [galoisref09_Mul.l0] at H
     by_cases c12 : x8_2 < (l1.length : Int)
     rotate_left
     ·rw [if_neg c12] at H
      have c12b0 := decide_eq_false c12; clear c12
      obtain ⟨t104, A25, H⟩ := zO H
      obtain rfl := Option.some.inj H
      obtain ⟨Ao26, co26, eo26⟩ := Kd.R_slice HO_7.out
      subst eo26
      go_wp2_with (first | ((with_reducible refine gate_callee (f := 41) rfl ?_); refine zG (some 61) Try.func41 #[.slice Ao26 x7_2.length co26] ?_; (with_reducible refine (galoisref09_Trim.calls k2 (fun k_ => some k_ = (.slice Ao26 x7_2.length co26 : Value).ownBlock) _ _ x7_2 t104 _ ?side1 A25.out).mono ?_); (case side1 => exact Kd.R_V (Kd.R_tight rfl (HO_7.out))); rintro e w27 ⟨v105, rfl, ho0, hb⟩; refine ⟨_, rfl, ?_⟩; have HO106 := Aside0.mk (Kd.V_lower (Kd.V_mono (ok' := fun k_ => (w.heap.size ≤ k_)) ho0 (fun k_ hk_ => Or.elim hk_ (fun hs_ => ((HO_7.out).1 k_ hs_.symm)) (fun hn_ => (Nat.le_trans (zS HB) hn_)))) (zS HB)); replace HO_7 := zRb HO_7 hb; replace HB := zBb HB hb; (try clear hb); (try clear ho0)))
      go_ret
      exact ⟨_, by first | rfl | (simp [errW_none, errW_some] <;> rfl) | (simp only [← hji7]; first | rfl | (simp [errW_none, errW_some] <;> rfl)) | (simp [*, errW_none, errW_some] <;> rfl), zV HO106.out, zT⟩
     rw [if_pos c12] at H
     have c12b0 := decide_eq_true c12; clear c12
     have H' := Aside0.mk H
     clear H
     go_wp2
     go_loopg [9] k2 (fun kq v9 w' => ∃ (x7_3 : List Int) (x9_3 : Int), v9 = .int .i64 x9_3 ∧ Aside0 (galoisref09_Mul.l1 kq a0 l1 l2 x7_3 x8_2 x9_3 = some r) ∧ Aside0 (kq ≤ k2) ∧ Aside0 (Kd.R (Kd.int .i64) 3 w' w.heap.size (fun k_ => (w.heap.size ≤ k_)) v102 x7_3) ∧ Aside0 (Below w.heap.size w w'))
     case atStart => exact ⟨(x7_2), (0), zX, H', ⟨Nat.le_refl _⟩, ⟨zR HO_7.out⟩, ⟨zT⟩⟩
     case round =>
      clear H'
      try clear c1; try clear c2; try clear p2; try clear c5; try clear c5b0; try clear c5b1; try clear c5b2; try clear c6; try clear p6; try clear c8; try clear c8b0; try clear c8b1; try clear c9; try clear c9b0; try clear c9b1; try clear c12; try clear c12b0; try clear p2; try clear p6
      obtain ⟨x7_3, x9_3, rfl, HA, HK3, HO_7, HB⟩ := hrel
      cases gk with
      | zero => exact absurd HA.out (by simp [galoisref09_Mul.l1])
      | succ k3 =>
       have H := HA.out
       clear HA
       simp only [galoisref09_Mul.l1] at H
       by_cases c13 : x9_3 < (l2.length : Int)
       rotate_left
       ·rw [if_neg c13] at H
        have c13b0 := decide_eq_false c13; clear c13
        have H' := Aside0.mk H
        clear H
        go_wp2
        (first | go_roundg k3 | (simp only [show ∀ g_ : Nat, ({ block := g_, off := (ji7).toNat } : Addr) = ({ block := g_, off := 0 } : Addr).add (ji7).toNat from fun g_ => by simp [Addr.add]]; go_roundg k3))
        case measure => have := HJ3.out; have := HK2.out; have := HK3.out; omega
        case rel => exact ⟨(x7_3), (wrap64 (x8_2 + 1)), zX, H', ⟨by have := HJ3.out; have := HK2.out; have := HK3.out; omega⟩, ⟨zR HO_7.out⟩, ⟨zT⟩⟩
       rw [if_pos c13] at H
       have c13b0 := decide_eq_true c13; clear c13
       obtain ⟨ji14, hji14⟩ : ∃ j_ : Int, (wrap64 (x8_2 + x9_3)) = j_ := ⟨_, rfl⟩
       first | rw [hji14] at H | simp only [hji14] at H
       have hji14w : (IntKind.i64.wrap (x8_2 + x9_3)) = ji14 := (i64_w _).trans hji14
       by_cases c15 : 0 ≤ (ji14)
       rotate_left
       ·rw [if_neg c15] at H
        exact absurd H (by simp)
       rw [if_pos c15] at H
       have c15b0 := decide_eq_true c15; clear c15
       by_cases c16 : (ji14) < (x7_3.length : Int)
       rotate_left
       ·rw [if_neg c16] at H
        exact absurd H (by simp)
       rw [if_pos c16] at H
       have c16b0 := decide_eq_true c16; clear c16
       by_cases c17 : 0 ≤ x8_2
       rotate_left
       ·rw [if_neg c17] at H
        exact absurd H (by simp)
       rw [if_pos c17] at H
       have c17b0 := decide_eq_true c17; clear c17
       by_cases c18 : x8_2 < (l1.length : Int)
       rotate_left
       ·rw [if_neg c18] at H
        exact absurd H (by simp)
       rw [if_pos c18] at H
       have c18b0 := decide_eq_true c18; clear c18
       by_cases c19 : 0 ≤ x9_3
       rotate_left
       ·rw [if_neg c19] at H
        exact absurd H (by simp)
       rw [if_pos c19] at H
       have c19b0 := decide_eq_true c19; clear c19
       by_cases c20 : a0 = 0
       ·rw [if_pos c20] at H
        exact absurd H (by simp)
       rw [if_neg c20] at H
       obtain ⟨c20b0, c20b1⟩ := zU c20
       obtain ⟨y110, Ny110⟩ := zA ((x7_3.set ((ji14) : Int).toNat (Int.tmod (wrap64 ((rd x7_3 (ji14)) + (wrap64 ((rd l1 x8_2) * (rd l2 x9_3))))) a0)) : List Int); rw [← Ny110.out] at H
       have H' := Aside0.mk H
       clear H
       try go_wp2
       replace HO_7 := Aside0.mk (Kd.R_drew HO_7.out)
       replace HB := Aside0.mk (below_drew1 HB.out)
       obtain ⟨Ao23, co23, eo23⟩ := Kd.R_slice HO_7.out
       (first | subst eo23 | (injection eo23 with f1_ f2_ f3_; have f4_ := f1_.symm; have f5_ := f3_.symm; clear f1_ f2_ f3_; subst f4_; subst f5_))
       obtain ⟨p107, q107, ad107, e107, hx107_0⟩ := zI ((Kd.R_reads' HO_7.out).2.2) ((ji14)) zD zD
       cases e107
       obtain ⟨p108, q108, ad108, e108, hx108_0⟩ := zI (HR1.out) (x8_2) zD zD
       have hw108_0 := hx108_0
       cases e108
       replace hx108_0 := (HB.out.cell (World.block_lt_of_cell? w _ hx108_0)).trans hx108_0
       obtain ⟨p109, q109, ad109, e109, hx109_0⟩ := zI (HR2.out) (x9_3) zD zD
       have hw109_0 := hx109_0
       cases e109
       replace hx109_0 := (HB.out.cell (World.block_lt_of_cell? w _ hx109_0)).trans hx109_0
       have p21 : 0 ≤ ((ji14) : Int) := zD
       have q21 : ((ji14) : Int) < ((x7_3.length : Int) : Int) := zD
       obtain ⟨go21, co21, eo21, gb21, gl21, cl21, HG21⟩ := Kd.R_form HO_7.out (by omega)
       (first | cases eo21 | (injection eo21 with ea_ en_ ec_; (first | subst ea_ | (injection ea_ with ea_; subst ea_)); subst ec_; clear en_))
       have GB21 := Aside0.mk gb21
       have GG21 := Aside0.mk HG21
       clear gb21 gl21 HG21
       (first | simp only [add_plain] at hx107_0 | skip)
       obtain ⟨hx21_0, hf21_0⟩ := Kd.R_celln 0 HO_7.out ((ji14) : Int) p21 q21
       replace p21 := eq_true p21
       replace q21 := eq_true q21
       have HP24 := Kd.R_putn HO_7.out ((ji14) : Int) (Int.tmod (wrap64 ((rd x7_3 (ji14)) + (wrap64 ((rd l1 x8_2) * (rd l2 x9_3))))) a0)
       rw [← Ny110.out] at HP24
       have HQ24 := Aside0.mk HP24
       clear HP24
       refine start_ (n := 24) (S := fun w' => w'.cell? ⟨go21, ((ji14)).toNat, none⟩ = some (.int .i64 (rd x7_3 (ji14))) ∧ w'.cell? (ad108.add (x8_2).toNat) = some (.int .i64 (rd l1 x8_2)) ∧ w'.cell? (ad109.add (x9_3).toNat) = some (.int .i64 (rd l2 x9_3))) (ds := [23]) #[false, false, false, false, false, false, false, false, false, false, false, false, false, false, false, false, false, false, false, false, false, false, false, false] (by kernel_rfl) rfl rfl ⟨hx107_0, ((HB.out.cell (World.block_lt_of_cell? w _ hw108_0)).trans hw108_0), ((HB.out.cell (World.block_lt_of_cell? w _ hw109_0)).trans hw109_0)⟩ (fun hHeld => ?_); refine with_tabW galoisref09_Mul.tab10 galoisref09_Mul.bits10 (fun HT_ HW_ => ?_)
       generalize wr.drew = w22 at HO_7 HB GG21 HQ24 hf21_0 hx107_0 hx108_0 hx109_0 hx21_0 hHeld ⊢
       refine zP 0 37 ?_; refine zP 1 38 ?_; refine zP 2 39 ?_; refine zP 3 40 ?_; refine zP 4 41 ?_; refine zP 5 42 ?_; refine zP 6 43 ?_; refine zP 7 44 ?_; refine zP 8 45 ?_; refine zP 10 47 ?_; refine zP 11 48 ?_; refine zP 12 49 ?_; refine zP 14 51 ?_; refine zP 15 52 ?_; refine zP 16 53 ?_; refine zP 20 57 ?_
       refine take_ (i := 9) (N := some 46) (v := ?_) (a' := ?_) #[true, true, true, true, true, true, true, true, true, true, true, true, true, false, true, true, true, false, false, false, true, false, false, false] rfl rfl (take_ofW HT_.out HW_.out (by kernel_rfl)) (fun _ _ _ h => h) (Or.inl ⟨by rfl, ?_⟩) hHeld ?_ ?_
       rotate_left
       ·rintro w' ⟨s0, s1, s2⟩
        go_simp
        with_reducible rfl
       rotate_left
       ·simp only [Act.put, List.setIfInBounds_toArray, List.set_cons_zero, List.set_cons_succ, i64_w, i32_w]
        rfl
       refine take_ (i := 13) (N := some 50) (v := ?_) (a' := ?_) #[true, true, true, true, true, true, true, true, true, true, true, true, true, true, true, true, true, false, false, false, true, false, false, false] rfl rfl (take_ofW HT_.out HW_.out (by kernel_rfl)) (fun _ _ _ h => h) (Or.inl ⟨by rfl, ?_⟩) hHeld ?_ ?_
       rotate_left
       ·rintro w' ⟨s0, s1, s2⟩
        go_simp
        with_reducible rfl
       rotate_left
       ·simp only [Act.put, List.setIfInBounds_toArray, List.set_cons_zero, List.set_cons_succ, i64_w, i32_w]
        rfl
       refine take_ (i := 17) (N := some 54) (v := ?_) (a' := ?_) #[true, true, true, true, true, true, true, true, true, true, true, true, true, true, true, true, true, true, false, false, true, false, false, false] rfl rfl (take_ofW HT_.out HW_.out (by kernel_rfl)) (fun _ _ _ h => h) (Or.inl ⟨by rfl, ?_⟩) hHeld ?_ ?_
       rotate_left
       ·rintro w' ⟨s0, s1, s2⟩
        go_simp
        with_reducible rfl
       rotate_left
       ·simp only [Act.put, List.setIfInBounds_toArray, List.set_cons_zero, List.set_cons_succ, i64_w, i32_w]
        rfl
       refine zP 18 55 ?_; refine zP 19 56 ?_; refine zP 21 58 ?_; refine zP 22 59 ?_
       refine last_ (i := 23) (N := none) #[true, true, true, true, true, true, true, true, true, true, true, true, true, true, true, true, true, true, true, true, true, true, true, true] rfl rfl (one_of HT_.out (by kernel_rfl)) (by decide) (fun K hK => ?_)
       refine skip_ (w1 := ?_) (by rfl) rfl ?_ ?_
       rotate_left
       ·go_simp
        rfl
       refine hK.out _ _ ?_
       clear hK K
       refine done_ (done_of HT_.out (by kernel_rfl)) ?_
       try go_wp2
       (first | go_roundg k3 | (simp only [show ∀ g_ : Nat, ({ block := g_, off := (ji7).toNat } : Addr) = ({ block := g_, off := 0 } : Addr).add (ji7).toNat from fun g_ => by simp [Addr.add]]; go_roundg k3))
       case measure => have := HJ3.out; have := HK2.out; have := HK3.out; omega
       case rel => exact ⟨(y110), (wrap64 (x9_3 + 1)), zX, H', ⟨by have := HJ3.out; have := HK2.out; have := HK3.out; omega⟩, ⟨zR HQ24.out⟩, ⟨zT⟩⟩
end Go.Proofs.Ytalnaafmonmlmaa.Q
end

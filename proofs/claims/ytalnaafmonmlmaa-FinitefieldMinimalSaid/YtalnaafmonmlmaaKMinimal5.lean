/- Machine side and arithmetic of the law, put together by a program of the session. No conditions. -/
import Derived.Test.YtalnaafmonmlmaaProg
import Derived.Below
import Derived.Deep.Draws
import Derived.Deep.AppendLies
import Derived.Maps.AppendAt
import Derived.OwnWalk
import Derived.Laws.BytesArg
import Derived.Laws.MakeOwn
import Derived.Laws.OwnMore
import Derived.Deep.OwnRows
import Derived.Tactics
import Derived.Lib.ConvBytes
import Derived.Laws.Slices
import Derived.WalkKit
import Derived.KernelRfl
import Derived.RowKit3
import Derived.Deep.LoopGhost
import Derived.Deep.QuietTactic
import Derived.BigQuiet
import Derived.WideLaws
import Derived.Deep.DeepCutAuto
import Derived.Deep.CutBlock
import Derived.Deep.RegionHeld3
import Derived.Laws.Rows
import Derived.Lib.AppendStr
import Derived.ArgAppend
import Derived.Laws.IdiomCopy
import Derived.OrdersHeld
import Derived.Laws.BitsLemmas
import Derived.RowKit
import Derived.Test.YtalnaafmonmlmaaKMinimal2
import Derived.Test.YtalnaafmonmlmaaKMinimal3
import Derived.Test.YtalnaafmonmlmaaKMinimal4
section
namespace Go.Proofs.Ytalnaafmonmlmaa.Q
open Go.RowKit Go.Proofs.YtalnaafmonmlmaaW.PrintWords Go.Proofs.YtalnaafmonmlmaaW.PrintLast Go.Proofs.YtalnaafmonmlmaaW.PrintMore
attribute [local go_sem] max2_int min2_int max_two min_two max_three min_three max_four min_four   -- for this text's walks alone
set_option linter.unusedVariables false
set_option linter.unusedSimpArgs false
def errW : Option Int → Value
 | none => .nilIface
 | some c => .iface 0 (.int .i64 c)
theorem errW_none : errW none = .nilIface := rfl
theorem errW_some (c : Int) : errW (some c) = .iface 0 (.int .i64 c) := rfl
theorem cut_cap {P : Program} (t e : TypeId) (kh : IntKind) {i : TypeInfo} (ht : P.underlying t = some (.slice e)) (hi : P.info? e = some i) (A : Option Addr) (n c : Nat) (j : Int) (h0 : 0 ≤ j) (hm : j ≤ n) (hc : n ≤ c) :
  ∀ W : World, (Instr.slice t (.slice A n c) none (some (.int kh j)) (some (.int kh j))).run P W = .ok (.slice A j.toNat j.toNat) W := by
 intro W
 have hel : P.elem t = e := by simp [Program.elem, ht]
 have hu : P.underlying t = some (.slice (P.elem t)) := by rw [hel]; exact ht
 have ha : (A.map fun x => x.add 0) = A := by cases A <;> simp [Addr.add]
 have e1 : (j.toNat : Int) = j := Int.toNat_of_nonneg h0
 have hb : (Instr.sliceBounds true n c none (some (.int kh j)) (some (.int kh j))).run P W = .ok (0, j.toNat, j.toNat) W := by
  simp [Instr.sliceBounds, run_sliceBound, h0, e1, show j ≤ (c : Int) by omega]
 rw [run_slice_any W t A n c hu, hb, hel]
 simp [sizeOf, typeInfo, hi, sliced, Result.andThen, ha]
theorem info3 : (Try.prog.info? 3).map (fun i => (i.zero, i.size, i.bytes)) = some (some (.int .i64 0), 1, 8) := by kernel_rfl
theorem info5 : (Try.prog.info? 5).map (fun i => (i.zero, i.size, i.bytes)) = some (some (.int .u8 0), 1, 1) := by kernel_rfl
theorem info25 : (Try.prog.info? 25).map (fun i => (i.zero, i.size, i.bytes)) = some (some (.slice none 0 0), 1, 24) := by kernel_rfl
theorem info84 : (Try.prog.info? 84).map (fun i => (i.zero, i.size, i.bytes)) = some (some (.int .u64 0), 1, 8) := by kernel_rfl
theorem info107 : (Try.prog.info? 107).map (fun i => (i.zero, i.size, i.bytes)) = some (some (.agg #[(.int .i64 0), (.int .i64 0)]), 2, 16) := by kernel_rfl
def rd_L1 (xs : List (List Int)) (i : Int) : (List Int) := xs.getD i.toNat ([] : List Int)
theorem at_L1 {w : World} {A : Option Addr} {n : Nat} {xs : List (List Int)} (h : Kd.C (Kd.slice 3 (Kd.int .i64)) w A n xs) (i : Int) (h0 : 0 ≤ i) (h1 : i < n) : ∃ ad A0 c0, A = some ad ∧ w.cell? (ad.add i.toNat) = some (.slice A0 (rd_L1 xs i).length c0) ∧ (rd_L1 xs i).length ≤ c0 ∧ (Kd.int .i64).C w A0 (rd_L1 xs i).length (rd_L1 xs i) := by
 obtain ⟨ad, c, e, _, hK, hc0⟩ := Kd.C_get h ([] : List Int) i h0 h1
 have hc : ∀ j u, c[j]? = some u → w.cell? (ad.add (i.toNat * 1 + j)) = some u := hc0
 obtain ⟨A0, c0, rfl, l0, g0⟩ := hK
 exact ⟨ad, A0, c0, e, by have hq := hc 0 _ rfl; rwa [Nat.mul_one, Nat.add_zero] at hq, l0, g0⟩
structure S107 where
 f0 : Int
 f1 : Int
def z107 : S107 := ⟨(0 : Int), (0 : Int)⟩
def k107 : Kd S107 := Kd.iso (Kd.pair (Kd.int .i64) (Kd.int .i64)) (fun x : S107 => (x.f0, x.f1))
theorem k107_open {w : World} {x : S107} {cs : List Value} (h : k107.K w x cs) : cs = [.int .i64 x.f0, .int .i64 x.f1] := by
 obtain ⟨_, _, rfl, rfl, rfl⟩ := h
 exact rfl
theorem k107_mkM (w : World) (base : Nat) (ok : Nat → Prop) (x : S107)  : k107.M w base ok x [.int .i64 x.f0, .int .i64 x.f1] := ⟨[.int .i64 x.f0], [.int .i64 x.f1], rfl, rfl, rfl⟩
def rd_T107 (xs : List S107) (i : Int) : S107 := xs.getD i.toNat z107
theorem at_T107 {w : World} {A : Option Addr} {n : Nat} {xs : List S107} (h : Kd.C k107 w A n xs) (i : Int) (h0 : 0 ≤ i) (h1 : i < n) : ∃ ad , A = some ad ∧ w.cell? (ad.add (i.toNat * 2)) = some (.int .i64 (rd_T107 xs i).f0) ∧ w.cell? ⟨(ad.add (i.toNat * 2)).block, (ad.add (i.toNat * 2)).off + 1, none⟩ = some (.int .i64 (rd_T107 xs i).f1) := by
 obtain ⟨ad, c, e, _, hK, hc0⟩ := Kd.C_get h z107 i h0 h1
 have hc : ∀ j u, c[j]? = some u → w.cell? (ad.add (i.toNat * 2 + j)) = some u := hc0
 obtain rfl := k107_open hK
 exact ⟨ad, e, hc 0 _ rfl, by rw [← add_field _ _ 1 (by omega)]; exact hc 1 _ rfl⟩
end Go.Proofs.Ytalnaafmonmlmaa.Q
end
section
namespace Go.Proofs.YtalnaafmonmlmaaW.PrintWords
open Go.RowKit Go.Proofs.YtalnaafmonmlmaaW.PrintLast Go.Proofs.YtalnaafmonmlmaaW.PrintMore
set_option linter.unusedVariables false
theorem zm {p : Prop} (h : p) : Aside0 p := ⟨h⟩
class Rch (w W : World) : Prop where
 at_ : ∀ Q : World → Prop, (∀ x o, Q x → Q (x.alloc o)) → (∀ x n, Q x → Q (x.drewN n)) → (∀ x, Q x → Q x.drew) → Q w → Q W
instance Rch.refl (w : World) : Rch w w := ⟨fun _ _ _ _ h => h⟩
instance Rch.alloc (w W : World) (o : Obj) [h : Rch w W] : Rch w (W.alloc o) := ⟨fun Q a b c q => a _ _ (h.at_ Q a b c q)⟩
instance Rch.drewN (w W : World) (n : Nat) [h : Rch w W] : Rch w (W.drewN n) := ⟨fun Q a b c q => b _ _ (h.at_ Q a b c q)⟩
instance Rch.drew (w W : World) [h : Rch w W] : Rch w W.drew := ⟨fun Q a b c q => c _ (h.at_ Q a b c q)⟩
section
variable {α : Type} {d : Kd α} {e : Nat} {w W w2 : World} {base : Nat} {ok : Nat → Prop} {v : Value} {xs : List α} {A : Option Addr} {n : Nat} {g : Nat} {o : Obj} {w0 : World}
theorem zV (h : Kd.V d e w base ok v xs) [r : Rch w W] : Kd.V d e W base ok v xs := r.at_ (fun x => Kd.V d e x base ok v xs) (fun _ o q => Kd.V_alloc q o) (fun _ n q => Kd.V_drewN q n) (fun _ q => Kd.V_drew q) h
theorem zN (h : Kd.N d e w base ok v xs) [r : Rch w W] : Kd.N d e W base ok v xs := r.at_ (fun x => Kd.N d e x base ok v xs) (fun _ o q => Kd.N_alloc q o) (fun _ n q => Kd.N_drewN q n) (fun _ q => Kd.N_drew q) h
theorem zR (h : Kd.R d e w base ok v xs) [r : Rch w W] : Kd.R d e W base ok v xs := r.at_ (fun x => Kd.R d e x base ok v xs) (fun _ o q => Kd.R_alloc q o) (fun _ n q => Kd.R_drewN q n) (fun _ q => Kd.R_drew q) h
theorem zC (h : Kd.C d w A n xs) [r : Rch w W] : Kd.C d W A n xs := r.at_ (fun x => Kd.C d x A n xs) (fun _ o q => Kd.C_alloc q o) (fun _ n q => Kd.C_drewN q n) (fun _ q => Kd.C_drew q) h
theorem zK (h : w.heap[g]? = some o) [r : Rch w W] : W.heap[g]? = some o := r.at_ (fun x => x.heap[g]? = some o) (fun _ o q => blk_alloc q o) (fun _ n q => blk_drewN q n) (fun _ q => blk_drew q) h
theorem zB (h : Below w0.heap.size w0 w) [r : Rch w W] : Below w0.heap.size w0 W := r.at_ (fun x => Below w0.heap.size w0 x) (fun _ o q => below_alloc q o) (fun _ n q => pw_below_drewN q n) (fun _ q => below_drew1 q) h
theorem zS (h : Aside0 (Below w0.heap.size w0 w)) [r : Rch w W] : w0.heap.size ≤ W.heap.size := below_size (zB h.out)
theorem zVb (h : Aside0 (Kd.V d e w base ok v xs)) [r : Rch w W] (hb : Below W.heap.size W w2) : Aside0 (Kd.V d e w2 base ok v xs) := ⟨Kd.V_below (zV h.out) hb⟩
theorem zNb (h : Aside0 (Kd.N d e w base ok v xs)) [r : Rch w W] (hb : Below W.heap.size W w2) : Aside0 (Kd.N d e w2 base ok v xs) := ⟨Kd.N_below (zN h.out) hb⟩
theorem zRb (h : Aside0 (Kd.R d e w base ok v xs)) [r : Rch w W] (hb : Below W.heap.size W w2) : Aside0 (Kd.R d e w2 base ok v xs) := ⟨Kd.R_below (zR h.out) hb⟩
theorem zKb (h : Aside0 (w.heap[g]? = some o)) [r : Rch w W] (hb : Below W.heap.size W w2) : Aside0 (w2.heap[g]? = some o) := ⟨blk_below (zK h.out) hb⟩
theorem zBb (h : Aside0 (Below w0.heap.size w0 w)) [r : Rch w W] (hb : Below W.heap.size W w2) : Aside0 (Below w0.heap.size w0 w2) := ⟨below_step (zB h.out) hb⟩
end
section
variable {P : Program} {ops : Array Oper} {Q : Exit → Act → World → Prop}
theorem zG {rest : List Oper} {oi : Oper} {a : Act} {w : World} (N : Option Tmp) {f : FuncId} {fn : Func} {us : Array Operand} {ts : Array TypeId} (hf : P.funcs[f]? = some fn) (args : Array Value)
  (h : Calls P f args w fun e w' => ∃ v, e = .returned v ∧ wpList P ops Q rest (a.put N v) w')
  (hop : oi.op = .call { callee := .value (.func f), args := us, argTypes := ts } := by exact rfl)
  (hd : oi.dst = N := by exact rfl) (hg : oi.guard = none := by exact rfl) (hname : (fn.name == "runtime.NumGoroutine") = false := by kernel_rfl) (hb : fn.body.isSome = true := by exact rfl)
  (hargs : us.map a.eval = args := by (try simp only [List.map_toArray, List.map_cons, List.map_nil]); first | done | rfl | (simp only [List.length_drop, List.length_take]; rfl)) : wpList P ops Q (oi :: rest) a w := goesL_ N hd hg hf hname hb args hop hargs h
theorem zH {rest : List Oper} {oi : Oper} {a : Act} {w : World} (N : Option Tmp) {f : FuncId} {fn : Func} {us : Array Operand} {ts : Array TypeId} (hf : P.funcs[f]? = some fn) (args : Array Value) (hop : oi.op = .call { callee := .value (.func f), args := us, argTypes := ts }) (hargs : us.map a.eval = args)
  (h : Calls P f args w fun e w' => ∃ v, e = .returned v ∧ wpList P ops Q rest (a.put N v) w')
  (hd : oi.dst = N := by exact rfl) (hg : oi.guard = none := by exact rfl) (hname : (fn.name == "runtime.NumGoroutine") = false := by kernel_rfl) (hb : fn.body.isSome = true := by exact rfl) : wpList P ops Q (oi :: rest) a w := goesL_ N hd hg hf hname hb args hop hargs h
end
theorem zY {α β : Type} {e : α} {f : α → Option β} {r : β} (h : (some e).bind f = some r) : ∃ y, Aside0 (y = e) ∧ f y = some r := ⟨e, ⟨rfl⟩, h⟩
theorem zA {α : Type} (e : α) : ∃ y, Aside0 (y = e) := ⟨e, ⟨rfl⟩⟩
theorem zc {w : World} {g : Nat} {t : TypeId} {cs : Array Value} (h : Aside0 (w.heap[g]? = some (.cells cs t (0, 0)))) (i : Nat) {v : Value} (hv : cs[i]? = some v := by exact rfl) : w.cell? ⟨g, i, none⟩ = some v := (blk_cell h.out i).trans hv
theorem zf2 {w : World} {g : Nat} {t : TypeId} {a b : Value} (h : Aside0 (w.heap[g]? = some (.cells #[a, b] t (0, 0)))) : w.cell? ⟨g, 0, none⟩ = some a ∧ w.cell? ⟨g, 1, none⟩ = some b ∧ w.frozen? ⟨g, 0, none⟩ = false ∧ w.frozen? ⟨g, 1, none⟩ = false := ⟨zc h 0, zc h 1, blk_frozen h.out 0, blk_frozen h.out 1⟩
theorem zg {w W X : World} (h : Aside0 (Below w.heap.size w W)) {g : Nat} (hg : g = X.heap.size) [r : Rch W X] : Aside0 (w.heap.size ≤ g) := ⟨by rw [hg]; exact zS h⟩
theorem zI {k : IntKind} {w : World} {A : Option Addr} {n : Nat} {xs : List Int} (h : (Kd.int k).C w A n xs) (i : Int) (h0 : 0 ≤ i) (h1 : i < n) : (0 ≤ i) = True ∧ (i < (n : Int)) = True ∧ ∃ ad, A = some ad ∧ w.cell? (ad.add i.toNat) = some (.int k (rd xs i)) := ⟨eq_true h0, eq_true h1, Kd.at_int h i h0 h1⟩
section
variable {P : Program} {ops : Array Oper} {rest : List Oper} {o : Oper} {a : Act} {Q : Exit → Act → World → Prop} {md : Region.Mode} {S : World → Prop} {ds : List Nat}
theorem zP (i : Nat) (n : Tmp) {oi : Oper} {v : Value} {fuel : Nat} {l : Array Bool} {a' : Act} {w : World} (h : wpAnyLast P md ops Q S ds fuel (l.setIfInBounds i true) a' w)
  (hi : ops[i]? = some oi := by exact rfl) (hN : oi.dst = some n := by exact rfl) (hc : anyB md ops l (l.setIfInBounds i true) i = true := by exact any_of HT_.out (by kernel_rfl))
  (hQ : ∀ c a w, Q (.panic c) (a.put oi.dst v) w → Q (.panic c) a w := by exact fun _ _ _ h => h)
  (hy : Yields P ops oi v a := by (refine Or.inl ⟨by rfl, ?_⟩; intro w'; go_simp; with_reducible rfl))
  (ha : a.put (some n) v = a' := by (simp only [Act.put, List.setIfInBounds_toArray, List.set_cons_zero, List.set_cons_succ, i64_w, i32_w]; rfl)) : wpAnyLast P md ops Q S ds (fuel + 1) l a w :=
 pure_ (l.setIfInBounds i true) hi hN hc hQ hy ha h
theorem zb (N : Tmp) (cs : Array Value) (t : TypeId) {W : World}
  (h : ∀ g, g = W.heap.size → ∀ w1, w1.heap[g]? = some (.cells cs t (0, 0)) → Below W.heap.size W w1 → wpList P ops Q rest (a.put o.dst (.pointer (some ⟨g, 0, none⟩))) w1)
  (hd : o.dst = some N := by exact rfl) (hgd : o.guard = none := by exact rfl)
  (hrun : (execOp a.eval o).run P W = .ok (.value (.pointer (some ⟨W.heap.size, 0, none⟩))) (W.alloc (.cells cs t (0, 0))) := by go_simp <;> rfl) : wpList P ops Q (o :: rest) a W := box_event hgd hd hrun h
end
section
variable {α : Type} {d : Kd α} {e : Nat} {w0 W0 W1 W : World} {ok : Nat → Prop} {v : Value} {xs : List α}
theorem zWV (ok' : Nat → Prop) (h : Kd.V d e W W1.heap.size ok v xs) (hb : Aside0 (Below w0.heap.size w0 W0)) [r : Rch W0 W1] (hm : ∀ k, ok k → ok' k) : Aside0 (Kd.V d e W w0.heap.size ok' v xs) := ⟨Kd.V_lower (Kd.V_mono h hm) (zS hb)⟩
end
theorem zO {α β : Type} {x : Option α} {f : α → Option β} {r : β} (h : x.bind f = some r) : ∃ a, Aside0 (x = some a) ∧ f a = some r := by
 obtain ⟨a, h1, h2⟩ := Option.bind_eq_some_iff.mp h
 exact ⟨a, ⟨h1⟩, h2⟩
theorem zD {p : Prop} [Decidable p] (h : decide p = true := by first | (with_reducible assumption) | assumption) : p := of_decide_eq_true h
theorem zT {w W : World} (h : Below w.heap.size w W := by first | exact zB HB.out | (repeat (first | (with_reducible first | exact HB.out | apply below_alloc | apply pw_below_drewN | apply below_drew1 | refine below_set ?_ (Aside0.out (by assumption))) | exact HB.out))) : Below w.heap.size w W := h
theorem zL {p : Prop} (h : p := by first | exact Kd.V_nil _ _ _ _ _ | exact Kd.R_V (Kd.R_nil _ _ _ _ _)) : p := h
theorem zQ {p : Prop} (h : p := by first | rfl | (simp [errW_none, errW_some] <;> rfl) | (simp [*, errW_none, errW_some] <;> rfl)) : p := h
theorem zX {p : Prop} (h : p := by first | rfl | (simp; done) | (simp [*]; done)) : p := h
theorem zE {a b : Int} (h : a = b) : (a == b) = true ∧ (a != b) = false := ⟨beq_iff_eq.mpr h, bne_eq_false_iff_eq.mpr h⟩
theorem zU {a b : Int} (h : ¬ a = b) : (a == b) = false ∧ (a != b) = true := ⟨beq_eq_false_iff_ne.mpr h, bne_iff_ne.mpr h⟩
theorem zFK {α : Type} {d : Kd α} {e e' : Nat} {w W : World} [r : Rch w W] {base : Nat} {ok ok' : Nat → Prop} {A : Option Addr} {c : Nat} {xs : List α} (h : Kd.V d e w base ok (.slice A xs.length c) xs) (hm : ∀ k, ok k → ok' k) : Kd.FK (Kd.slice e' d) W ok' xs [.slice A xs.length c] := by
 have z : Kd.V d e W base ok' (.slice A xs.length c) xs := Kd.V_mono (zV h) hm
 exact Kd.FK_slice_mk (Kd.V_reads' z).2.1 (Kd.V_F z)
end Go.Proofs.YtalnaafmonmlmaaW.PrintWords
end
section
namespace Go.Proofs.Ytalnaafmonmlmaa.Q
open Go.RowKit Go.Proofs.YtalnaafmonmlmaaW.PrintWords Go.Proofs.YtalnaafmonmlmaaW.PrintLast Go.Proofs.YtalnaafmonmlmaaW.PrintMore
attribute [local go_sem] max2_int min2_int max_two min_two max_three min_three max_four min_four
set_option linter.unusedVariables false
set_option linter.unusedSimpArgs false
set_option maxHeartbeats 8000000
set_option maxRecDepth 100000
def badP (n : Int) : Bool := decide (n < 1) || decide (2147483647 < n)
def badIdx : Nat → List Int → Int
 | _, [] => -1
 | i, x :: xs => if badP x = true then (i : Int) else badIdx (i + 1) xs
theorem bad1_calls (x : Int) (w : World) : Calls Try.prog 123 #[.int .i64 x] w fun e w' => e = .returned (.bool (badP x)) ∧ Drawn0 w w' := by
 by_cases h1 : x < 1
 ·have b : badP x = true := by simp [badP, h1]
  have B := zm b
  clear b
  go_enter Try.func123, Try.ntmps123
  go_wp2
  repeat (go_quiet (fail); try go_wp2)
  go_ret
  rw [B.out]
  exact ⟨rfl, by repeat (first | exact Drawn0.refl _ | apply Drawn0.step)⟩
 have b : badP x = decide (2147483647 < x) := by simp [badP, h1]
 have B := zm b
 clear b
 go_enter Try.func123, Try.ntmps123
 go_wp2
 repeat (go_quiet (fail); try go_wp2)
 go_ret
 rw [B.out]
 exact ⟨rfl, by repeat (first | exact Drawn0.refl _ | apply Drawn0.step)⟩
theorem badIdx_step (l : List Int) (i : Nat) (h : i < l.length) : badIdx i (l.drop i) = if badP (l.getD i 0) = true then (i : Int) else badIdx (i + 1) (l.drop (i + 1)) := by
 rw [List.drop_eq_getElem_cons h]
 simp only [badIdx, List.getD_eq_getElem?_getD, List.getElem?_eq_getElem h, Option.getD_some]
theorem IndexFunc_bad (A0 : Option Addr) (c0 : Nat) (l0 : List Int) (w : World) (hr0 : Kd.C (Kd.int .i64) w A0 l0.length l0) (hc0 : l0.length ≤ c0) :
  Calls Try.prog 126 #[.slice A0 l0.length c0, .func (.func 123) #[] #[]] w fun e w' => e = .returned (.int .i64 (badIdx 0 l0)) ∧ Drawn0 w w' := by
 have hmax := hr0.2.1
 have HR0 := zm hr0
 have HC0 := zm hc0
 clear hr0 hc0
 go_enter Try.func126, Try.ntmps126
 go_wp2
 repeat (go_quiet (fail); try go_wp2)
 go_loopg [8] l0.length (fun kq v8 w' => ∃ (x : Int), v8 = .int .i64 x ∧ Aside0 (0 ≤ x ∧ x + kq = l0.length ∧ badIdx 0 l0 = badIdx x.toNat (l0.drop x.toNat)) ∧ Drawn0 w w')
 case atStart => exact ⟨0, zX, ⟨by omega, by simp, by simp⟩, by repeat (first | exact Drawn0.refl _ | apply Drawn0.step)⟩
 case round =>
  obtain ⟨x, rfl, HA, ⟨m1, rfl⟩⟩ := hrel
  obtain ⟨hx0, hxk, hidx⟩ := HA.out
  have HI := zm hidx
  clear hidx HA
  cases gk with
  | zero =>
   have c4b0 : decide (x < (l0.length : Int)) = false := decide_eq_false (by omega)
   have HE : Aside0 (badIdx 0 l0 = -1) := ⟨by rw [HI.out, List.drop_eq_nil_of_le (by omega)]; rfl⟩
   clear hxk
   go_wp2
   repeat (go_quiet (fail); try go_wp2)
   go_ret
   rw [HE.out]
   exact ⟨rfl, by repeat (first | exact Drawn0.refl _ | apply Drawn0.step)⟩
  | succ k1 =>
   have q257 : x < (l0.length : Int) := by omega
   have c4b0 : decide (x < (l0.length : Int)) = true := decide_eq_true q257
   have HS := zm (badIdx_step l0 x.toNat (by omega))
   have HK := zm hxk
   clear hxk
   obtain ⟨ad257, e257, hx257_0⟩ := Kd.at_int HR0.out x hx0 q257
   cases e257
   have HRD := zm (show rd l0 x = l0.getD x.toNat 0 from rfl)
   replace hx0 := eq_true hx0
   replace q257 := eq_true q257
   cases hb : badP (rd l0 x) with
   | true =>
    have HE : Aside0 (badIdx 0 l0 = x) := ⟨by rw [HI.out, HS.out, if_pos (by rw [← HRD.out]; exact hb)]; have := of_eq_true hx0; omega⟩
    have HB := zm hb
    clear hb
    go_wp2_with (first | (go_at_call 123; refine (bad1_calls _ _).mono ?_; rintro e w' ⟨rfl, ⟨nd, rfl⟩⟩; rw [HB.out]))
    go_ret
    rw [HE.out]
    exact ⟨rfl, by repeat (first | exact Drawn0.refl _ | apply Drawn0.step)⟩
   | false =>
    have HE : Aside0 (badIdx 0 l0 = badIdx (x.toNat + 1) (l0.drop (x.toNat + 1))) := ⟨by rw [HI.out, HS.out, if_neg (by rw [← HRD.out, hb]; simp)]⟩
    have HB := zm hb
    clear hb
    go_wp2_with (first | (go_at_call 123; refine (bad1_calls _ _).mono ?_; rintro e w' ⟨rfl, ⟨nd, rfl⟩⟩; rw [HB.out]))
    go_roundg k1
    case measure => omega
    case rel => exact ⟨x + 1, by rw [show wrap64 (x + 1) = x + 1 by have := of_eq_true hx0; have := HK.out; unfold wrap64; omega], ⟨by have := of_eq_true hx0; omega, by have := HK.out; omega, by rw [HE.out, show (x + 1).toNat = x.toNat + 1 by have := of_eq_true hx0; omega]⟩, by repeat (first | exact Drawn0.refl _ | apply Drawn0.step)⟩
theorem badIdx_iff (l : List Int) : ∀ i, 0 ≤ badIdx i l ↔ l.any badP = true := by
 induction l with
 | nil => intro i; simp [badIdx]
 | cons x xs ih =>
  intro i
  have e : badIdx i (x :: xs) = if badP x = true then (i : Int) else badIdx (i + 1) xs := rfl
  rw [e, List.any_cons]
  by_cases h : badP x = true
  ·rw [if_pos h, h]; simp
  rw [if_neg h, ih (i + 1), Bool.eq_false_iff.2 h]; simp
theorem badIdx_ge (l : List Int) : decide (0 ≤ badIdx 0 l) = l.any badP := by
 rw [Bool.eq_iff_iff, decide_eq_true_eq]; exact badIdx_iff l 0
theorem ContainsFunc_bad (A0 : Option Addr) (c0 : Nat) (l0 : List Int) (w : World) (hr0 : Kd.C (Kd.int .i64) w A0 l0.length l0) (hc0 : l0.length ≤ c0) :
  Calls Try.prog 122 #[.slice A0 l0.length c0, .func (.func 123) #[] #[]] w fun e w' => e = .returned (.bool (l0.any badP)) ∧ Drawn0 w w' := by
 have HR0 := zm hr0
 have HC0 := zm hc0
 have HB := zm (badIdx_ge l0)
 clear hr0 hc0
 go_enter Try.func122, Try.ntmps122
 go_wp2_with (first | (go_at_call 126; (with_reducible refine (IndexFunc_bad _ _ l0 _ HR0.out HC0.out).mono ?_); rintro e w' ⟨rfl, ⟨nd, rfl⟩⟩))
 repeat (go_quiet (first | (go_at_call 126; (with_reducible refine (IndexFunc_bad _ _ l0 _ HR0.out HC0.out).mono ?_); rintro e w' ⟨rfl, ⟨nd, rfl⟩⟩)); try go_wp2)
 go_ret
 exact ⟨by rw [← HB.out]; rfl, by repeat (first | exact Drawn0.refl _ | apply Drawn0.step)⟩
def rs_bad.f (a0 : List Int) : Option Bool := some (a0.any badP)
theorem rs_bad.calls (A0 : Option Addr) (c0 : Nat) (l0 : List Int) (r : Bool) (w : World) (hr0 : Kd.C (Kd.int .i64) w A0 l0.length l0) (hc0 : l0.length ≤ c0) (h : rs_bad.f l0 = some r) :
  Calls Try.prog 115 #[.slice A0 l0.length c0] w fun e w' => e = .returned (.bool r) ∧ Drawn0 w w' := by
 have HR0 := zm hr0
 have HC0 := zm hc0
 clear hr0 hc0
 obtain rfl := Option.some.inj h
 go_enter Try.func115, Try.ntmps115
 go_wp2_with (first | (go_at_call 122; (with_reducible refine (ContainsFunc_bad _ _ l0 _ HR0.out HC0.out).mono ?_); rintro e w' ⟨rfl, ⟨nd, rfl⟩⟩))
 go_ret
 exact ⟨rfl, by repeat (first | exact Drawn0.refl _ | apply Drawn0.step)⟩
def TInv (w0 w : World) (Bn Bo : Nat) (n : Int) (xs : List S107) : Prop :=
 w0.heap.size ≤ Bn ∧ w0.heap.size ≤ Bo ∧ w.heap[Bn]? = some (.cells #[.int .i64 n] 3 (0, 0)) ∧ (∃ v, w.heap[Bo]? = some (.cells #[v] 103 (0, 0)) ∧ Kd.R k107 107 w w0.heap.size (fun _ => True) v xs) ∧ Below w0.heap.size w0 w
theorem TInv.drewN {w0 w : World} {Bn Bo : Nat} {n : Int} {xs : List S107} (h : TInv w0 w Bn Bo n xs) (m : Nat) : TInv w0 (w.drewN m) Bn Bo n xs := by
 obtain ⟨h1, h2, h3, ⟨v, h4, h5⟩, h6⟩ := h
 exact ⟨h1, h2, h3, ⟨v, h4, Kd.R_drewN h5 m⟩, pw_below_drewN h6 m⟩
theorem TInv.ne {w0 w : World} {Bn Bo : Nat} {n : Int} {xs : List S107} (h : TInv w0 w Bn Bo n xs) : Bo ≠ Bn := by
 obtain ⟨h1, h2, h3, ⟨v, h4, h5⟩, h6⟩ := h
 rintro rfl
 rw [h3] at h4
 injection h4 with h4
 injection h4 with _ h4
 exact absurd h4 (by decide)
theorem TInv.setN {w0 w : World} {Bn Bo : Nat} {n : Int} {xs : List S107} (h : TInv w0 w Bn Bo n xs) (m : Int) : TInv w0 (w.setCell ⟨Bn, 0, none⟩ (.int .i64 m)) Bn Bo m xs := by
 have hne := h.ne
 obtain ⟨h1, h2, h3, ⟨v, h4, h5⟩, h6⟩ := h
 exact ⟨h1, h2, one_setCell h3, ⟨v, by rw [Below.heap_setCell _ _ _ _ hne]; exact h4, Kd.R_set h5 h3 (by intro q hq; simp [k107, Kd.iso, Kd.pair, Kd.int, Kd.scalar] at hq; omega) 0 _⟩, h6.setCell h1 _⟩
theorem TInv.append {w0 w w1 : World} {Bn Bo : Nat} {n : Int} {xs ys : List S107} {v v1 : Value} (h1 : w0.heap.size ≤ Bn) (h2 : w0.heap.size ≤ Bo) (h3 : w.heap[Bn]? = some (.cells #[.int .i64 n] 3 (0, 0))) (h4 : w.heap[Bo]? = some (.cells #[v] 103 (0, 0))) (h5 : Kd.R k107 107 w w0.heap.size (fun _ => True) v xs)
  (ho : Kd.R k107 107 w1 w0.heap.size (fun _ => True) v1 ys) (hb : Below w0.heap.size w0 w1) (hg : w.grownBy w1 v.ownBlock) :
  w1.heap[Bo]? = some (.cells #[v] 103 (0, 0)) ∧ TInv w0 (w1.setCell ⟨Bo, 0, none⟩ v1) Bn Bo n ys := by
 have hne : Bo ≠ Bn := by
  rintro rfl
  rw [h3] at h4
  injection h4 with h4
  injection h4 with _ h4
  exact absurd h4 (by decide)
 have e1 : w1.heap[Bn]? = some (.cells #[.int .i64 n] 3 (0, 0)) := (hg.block Bn (lt_of_block h3) (Kd.R_ne h5 h3 (by decide))).trans h3
 have e2 : w1.heap[Bo]? = some (.cells #[v] 103 (0, 0)) := (hg.block Bo (lt_of_block h4) (Kd.R_ne h5 h4 (by decide))).trans h4
 exact ⟨e2, h1, h2, by rw [Below.heap_setCell _ _ _ _ (fun e => hne e.symm)]; exact e1, ⟨v1, one_setCell e2, Kd.R_set ho e2 (by intro q hq; simp [k107, Kd.iso, Kd.pair, Kd.int, Kd.scalar] at hq; omega) 0 _⟩, hb.setCell h2 _⟩
def tryL : Nat → Int → Int → Int → Option (Int × Int)
 | 0, _, _, _ => none
 | k + 1, d, n, c => if d = 0 then none else if Int.tmod n d = 0 then tryL k d (wrap64 (Int.tdiv n d)) (wrap64 (c + 1)) else some (n, c)
def tryF (k : Nat) (d n : Int) (xs : List S107) : Option (Int × List S107) := (tryL k d n 0).bind fun r => if r.2 > 0 then (if xs.length < 8796093022208 then some (r.1, xs ++ [⟨d, r.2⟩]) else none) else some (r.1, xs)
theorem try_calls (k : Nat) (d n n' : Int) (xs xs' : List S107) (Bn Bo : Nat) (w0 w : World) (hI : TInv w0 w Bn Bo n xs) (h : tryF k d n xs = some (n', xs')) :
  Calls Try.prog 124 #[.int .i64 d, .pointer (some ⟨Bn, 0, none⟩), .pointer (some ⟨Bo, 0, none⟩)] w fun e w' => e = .returned (.tuple #[]) ∧ TInv w0 w' Bn Bo n' xs' := by
 have hu107 := Try.underlying107
 obtain ⟨⟨m, cnt⟩, hL, hE⟩ := Option.bind_eq_some_iff.mp h
 clear h
 have HL := zm hL
 have HE := zm hE
 have HI := zm hI
 clear hL hE hI
 go_enter Try.func124, Try.ntmps124
 go_wp2
 repeat (go_quiet (fail); try go_wp2)
 go_loopg [4] k (fun kq v4 w' => ∃ (c n1 : Int), v4 = .int .i64 c ∧ Aside0 (tryL kq d n1 c = some (m, cnt)) ∧ Aside0 (TInv w0 w' Bn Bo n1 xs))
 case atStart => exact ⟨0, n, zX, HL, ⟨by (with_reducible repeat (first | exact HI.out | apply TInv.drewN))⟩⟩
 case round =>
  clear HL HI
  obtain ⟨c, n1, rfl, HA, HI⟩ := hrel
  cases gk with
  | zero => exact absurd HA.out (by simp [tryL])
  | succ k1 =>
   have H := HA.out
   clear HA
   simp only [tryL] at H
   have hcell := cell_of_one HI.out.2.2.1
   have hfree := free_of_one HI.out.2.2.1
   by_cases c1 : d = 0
   ·rw [if_pos c1] at H; cases H
   rw [if_neg c1] at H
   obtain ⟨c1b0, c1b1⟩ := zU c1
   by_cases c2 : Int.tmod n1 d = 0
   ·rw [if_pos c2] at H
    obtain ⟨c2b0, c2b1⟩ := zE c2; clear c2
    have H' := zm H
    clear H
    go_wp2
    repeat (go_quiet (fail); try go_wp2)
    go_roundg k1
    case measure => omega
    case rel => exact ⟨(wrap64 (c + 1)), (wrap64 (Int.tdiv n1 d)), zX, H', ⟨by (with_reducible repeat (first | exact HI.out | apply TInv.drewN | apply TInv.setN))⟩⟩
   rw [if_neg c2] at H
   obtain ⟨c2b0, c2b1⟩ := zU c2
   clear c2
   obtain ⟨rfl, rfl⟩ : n1 = m ∧ c = cnt := by injection H with H; injection H with H1 H2; exact ⟨H1, H2⟩
   clear H
   have HE2 := HE.out
   clear HE
   obtain ⟨h1, h2, h3, ⟨v, h4, h5⟩, h6⟩ := HI.out
   have hcell2 := cell_of_one h4
   have hfree2 := free_of_one h4
   have hso := h6.size
   by_cases c3 : c > 0
   rotate_left
   ·rw [if_neg c3] at HE2
    have c3b0 : decide (0 < c) = false := decide_eq_false c3
    obtain ⟨rfl, rfl⟩ : n1 = n' ∧ xs = xs' := by injection HE2 with H; injection H with H1 H2; exact ⟨H1, H2⟩
    clear HE2
    clear c3 h1 h2 h3 h4 h5 h6
    go_wp2
    repeat (go_quiet (fail); try go_wp2)
    go_end0
    exact ⟨rfl, by (with_reducible repeat (first | exact HI.out | apply TInv.drewN))⟩
   rw [if_pos c3] at HE2
   have c3b0 := decide_eq_true c3; clear c3
   by_cases c4 : xs.length < 8796093022208
   rotate_left
   ·rw [if_neg c4] at HE2; cases HE2
   rw [if_pos c4] at HE2
   obtain ⟨rfl, rfl⟩ : n1 = n' ∧ xs ++ [⟨d, c⟩] = xs' := by injection HE2 with H; injection H with H1 H2; exact ⟨H1, H2⟩
   clear HE2
   have LM := zm c4
   have H3 := zm h3
   have H4 := zm h4
   have H5 := zm h5
   have H6 := zm h6
   have H1 := zm h1
   have H2 := zm h2
   clear c4 h3 h4 h5 h6 h1 h2 HI hso
   go_wp2_with (first | ((with_reducible refine gate_builtin (b := .append) (xs := #[.tmp 16, .tmp 20]) rfl ?_); at_builtin; refine Kd.R_append k107 (w0 := w0) w0.heap.size rfl (.tmp 16) (.tmp 20) 103 107 (.agg #[(.int .i64 0), (.int .i64 0)]) 16 rfl Try.underlying103 info107 rfl (by decide) (by omega) v xs (⟨d, c⟩ : S107) [.int .i64 d, .int .i64 c] (fun _ => True) (fun _ => False) rfl rfl ?aP (fun _ hk => hk.elim) ?aF ?aO ?aB ?aS ?aL ?_; (case aP => exact k107_mkM _ _ _ (⟨d, c⟩ : S107)); (case aB => exact H6.out); (case aF => exact (fun _ _ => trivial)); (case aO => exact H5.out); (case aS => exact H6.out.size); (case aL => have := LM.out; omega); intro v255 w9 ho hb hg hat; obtain ⟨A1, cc1, rfl⟩ := Kd.R_slice ho; obtain ⟨he2, hT⟩ := TInv.append H1.out H2.out H3.out H4.out H5.out ho hb hg; have HT := zm hT; clear hT ho hb hg hat; have hcell9 := cell_of_one he2; have hfree9 := free_of_one he2; clear he2))
   go_end0
   have HT2 := HT.out
   rw [List.length_append, List.length_singleton] at HT2
   exact ⟨rfl, HT2⟩
def rs_factor.l0 (kk : Nat) : Nat → Int → List S107 → Int → Option (List S107)
 | 0, _, _, _ => none
 | k + 1, n, xs, d => if wrap64 (d * d) ≤ n then (tryF kk d n xs).bind fun r => rs_factor.l0 kk k r.1 r.2 (wrap64 (d + 2)) else if n > 1 then (tryF kk n n xs).bind fun r => some r.2 else some xs
def rs_factor.f (k : Nat) (a0 : Int) : Option (List S107) := (tryF k 2 a0 []).bind fun r => rs_factor.l0 k k r.1 r.2 3
theorem tryL_mono : ∀ k d n c, LeO (tryL k d n c) (tryL (k + 1) d n c)
 | 0 => fun _ _ _ r h => by simp [tryL] at h
 | k + 1 => by
  intro d n c
  have ih0 := tryL_mono k
  unfold tryL
  with_reducible repeat' first | exact ih0 _ _ _ | exact LeO.refl _ | refine LeO.ite ?_ ?_
theorem tryF_mono (k : Nat) (d n : Int) (xs : List S107) : LeO (tryF k d n xs) (tryF (k + 1) d n xs) := LeO.bind (tryL_mono k d n 0) (fun _ => LeO.refl _)
theorem rs_factor.mono_l (kk : Nat) : ∀ k n xs d, LeO (rs_factor.l0 kk k n xs d) (rs_factor.l0 (kk + 1) (k + 1) n xs d)
 | 0 => fun _ _ _ r h => by simp [rs_factor.l0] at h
 | k + 1 => by
  intro n xs d
  have ih0 := rs_factor.mono_l kk k
  have ih1 := tryF_mono kk
  unfold rs_factor.l0
  with_reducible repeat' first | exact ih0 _ _ _ | exact ih1 _ _ _ | exact LeO.refl _ | refine LeO.ite ?_ ?_ | refine LeO.bind ?_ (fun _ => ?_)
theorem rs_factor.mono (a0 : Int) (k : Nat) : LeO (rs_factor.f k a0) (rs_factor.f (k + 1) a0) := LeO.bind (tryF_mono k 2 a0 []) (fun _ => rs_factor.mono_l k k _ _ _)
theorem rs_factor.calls (k : Nat) (a0 : Int) (r : List S107) (w : World) (h : rs_factor.f k a0 = some r) :
  Calls Try.prog 116 #[.int .i64 a0] w fun e w' => ∃ v0_ : Value, e = .returned (v0_) ∧ Kd.R k107 107 w' w.heap.size (fun _ => True) v0_ r ∧ Below w.heap.size w w' := by
 have hu107 := Try.underlying107
 obtain ⟨⟨n1, xs1⟩, hF, hL⟩ := Option.bind_eq_some_iff.mp h
 clear h
 have HF := zm hF
 have HL := zm hL
 clear hF hL
 have hmf : ∀ (fn : Fn) (first cap : Array Value) (w : World), (Instr.makeFunc fn first cap).run Try.prog w = .ok (.func fn first cap) w := fun _ _ _ _ => rfl
 have hI0 : Aside0 (TInv w ((w.alloc (Obj.cells #[Value.int IntKind.i64 a0] 3)).alloc (Obj.cells #[Value.slice none 0 0] 103)) w.heap.size (w.heap.size + 1) a0 []) := by
  refine ⟨Nat.le_refl _, Nat.le_succ _, ?_, ⟨.slice none 0 0, ?_, Kd.R_nil _ _ _ _ _⟩, below_alloc (below_alloc (Below.refl _ _) _) _⟩
  ·rw [Below.heap_alloc _ _ _ (by simp)]; exact heap_alloc_new w _
  have := heap_alloc_new (w.alloc (Obj.cells #[Value.int IntKind.i64 a0] 3)) (Obj.cells #[Value.slice none 0 0] 103)
  simpa using this
 go_enter Try.func116, Try.ntmps116
 go_wp2_with (first | (go_at_call 124; refine (try_calls k 2 a0 n1 [] xs1 w.heap.size (w.heap.size + 1) w _ hI0.out HF.out).mono ?_; rintro e w1 ⟨rfl, hT⟩; have HT := zm hT; clear hT))
 clear hI0 HF
 go_loopg [5] k (fun kq v5 w' => ∃ (n : Int) (xs : List S107) (d : Int), v5 = .int .i64 d ∧ Aside0 (rs_factor.l0 k kq n xs d = some r) ∧ Aside0 (TInv w w' w.heap.size (w.heap.size + 1) n xs))
 case atStart => exact ⟨n1, xs1, 3, zX, HL, HT⟩
 case round =>
  clear HL HT
  obtain ⟨n, xs, d, rfl, HA, HI⟩ := hrel
  cases gk with
  | zero => exact absurd HA.out (by simp [rs_factor.l0])
  | succ k1 =>
   have H := HA.out
   clear HA
   simp only [rs_factor.l0] at H
   have hcell := cell_of_one HI.out.2.2.1
   by_cases c1 : wrap64 (d * d) ≤ n
   ·rw [if_pos c1] at H
    obtain ⟨⟨n2, xs2⟩, hF2, hL2⟩ := Option.bind_eq_some_iff.mp H
    have HF2 := zm hF2
    have H' := zm hL2
    clear H hF2 hL2
    have c1b0 := decide_eq_true c1; clear c1
    go_wp2_with (first | (go_at_call 124; refine (try_calls k d n n2 xs xs2 w.heap.size (w.heap.size + 1) w _ (by (with_reducible repeat (first | exact HI.out | apply TInv.drewN))) HF2.out).mono ?_; rintro e w1 ⟨rfl, hT⟩; have HT := zm hT; clear hT))
    go_roundg k1
    case measure => omega
    case rel => exact ⟨n2, xs2, (wrap64 (d + 2)), zX, H', HT⟩
   rw [if_neg c1] at H
   have c1b0 := decide_eq_false c1; clear c1
   by_cases c2 : n > 1
   rotate_left
   ·rw [if_neg c2] at H
    obtain rfl := Option.some.inj H
    clear H
    have c2b0 := decide_eq_false c2; clear c2
    obtain ⟨h1, h2, h3, ⟨v, h4, h5⟩, h6⟩ := HI.out
    obtain ⟨A1, cc1, rfl⟩ := Kd.R_slice h5
    have HR := zm h5
    have HB := zm h6
    have hcell2 := cell_of_one h4
    clear h1 h2 h3 h4 h5 h6
    go_wp2
    go_ret
    exact ⟨_, rfl, HR.out, HB.out⟩
   rw [if_pos c2] at H
   obtain ⟨⟨n2, xs2⟩, hF2, hL2⟩ := Option.bind_eq_some_iff.mp H
   obtain rfl := Option.some.inj hL2
   have HF2 := zm hF2
   clear H hF2 hL2
   have c2b0 := decide_eq_true c2; clear c2
   go_wp2_with (first | (go_at_call 124; refine (try_calls k n n n2 xs xs2 w.heap.size (w.heap.size + 1) w _ (by (with_reducible repeat (first | exact HI.out | apply TInv.drewN))) HF2.out).mono ?_; rintro e w1 ⟨rfl, hT⟩; obtain ⟨h1, h2, h3, ⟨v, h4, h5⟩, h6⟩ := hT; obtain ⟨A1, cc1, rfl⟩ := Kd.R_slice h5; have HR := zm h5; have HB := zm h6; have hcell2 := cell_of_one h4; clear h1 h2 h3 h4 h5 h6))
   go_ret
   exact ⟨_, rfl, HR.out, HB.out⟩
def rs_prime.f (k : Nat) (a0 : Int) : Option (Bool) := (rs_factor.f k a0).bind fun t101 => (if (t101.length : Int) = 1 then (if 0 < (t101.length : Int) then (some (((rd_T107 t101 0).f1) == 1)) else (none)) else (some false))
theorem rs_prime.mono : ∀ a0 k, LeO (rs_prime.f k a0) (rs_prime.f (k + 1) a0) := by
 intro a0 k
 unfold rs_prime.f
 with_reducible repeat' first | exact rs_factor.mono _ _ | exact LeO.refl _ | exact LeO.none _ | refine LeO.ite ?_ ?_ | refine LeO.bind ?_ (fun _ => ?_)
theorem rs_prime.calls (k : Nat) (a0 : Int) (r : Bool) (w : World) (h : rs_prime.f k a0 = some r) :
  Calls Try.prog 118 #[.int .i64 a0] w fun e w' => e = .returned (.bool r) ∧ Below w.heap.size w w' := by
 have HB := zm (Below.refl w.heap.size w)
 have H := h; clear h; unfold rs_prime.f at H
 obtain ⟨t101, A2, H⟩ := zO H
 by_cases c3 : (t101.length : Int) = 1
 rotate_left
 ·rw [if_neg c3] at H
  obtain ⟨c3b0, c3b1⟩ := zU c3
  obtain rfl := Option.some.inj H
  go_enter Try.func118, Try.ntmps118
  go_wp2_with (first | ((with_reducible refine gate_callee (f := 116) rfl ?_); refine zG (some 5) Try.func116 #[.int .i64 a0] ?_; (with_reducible refine (rs_factor.calls k a0 t101 _ A2.out).mono ?_); rintro e w7 ⟨v102, rfl, ho0, hb⟩; refine ⟨_, rfl, ?_⟩; have HO103 := zm (Kd.R_lower ho0 (zS HB)); replace HB := zBb HB hb; obtain ⟨Ao8, co8, eo8⟩ := Kd.R_slice HO103.out; subst eo8))
  go_ret
  exact ⟨zQ, zT⟩
 rw [if_pos c3] at H
 obtain ⟨c3b0, c3b1⟩ := zE c3; clear c3
 by_cases c4 : 0 < (t101.length : Int)
 rotate_left
 ·rw [if_neg c4] at H
  exact absurd H (by simp)
 rw [if_pos c4] at H
 have c4b0 : decide (0 < (t101.length : Int)) = true := decide_eq_true c4
 have c4b1 : decide (0 < t101.length) = true := decide_eq_true (by omega)
 clear c4
 obtain rfl := Option.some.inj H
 go_enter Try.func118, Try.ntmps118
 go_wp2_with (first | ((with_reducible refine gate_callee (f := 116) rfl ?_); refine zG (some 5) Try.func116 #[.int .i64 a0] ?_; (with_reducible refine (rs_factor.calls k a0 t101 _ A2.out).mono ?_); rintro e w5 ⟨v102, rfl, ho0, hb⟩; refine ⟨_, rfl, ?_⟩; have HO103 := zm (Kd.R_lower ho0 (zS HB)); replace HB := zBb HB hb; obtain ⟨Ao6, co6, eo6⟩ := Kd.R_slice HO103.out; subst eo6; have p104 : 0 ≤ (0 : Int) := (by omega); have q104 : 0 < (t101.length : Int) := zD; obtain ⟨ad104, e104, hx104_0, hx104_1⟩ := at_T107 (Kd.R_reads' HO103.out).2.2 0 p104 q104; cases e104; have qi104 : (0 < t101.length) = True := eq_true (by omega); (try rw [show ((0 : Int)).toNat = 0 from rfl] at hx104_0); (try rw [show 0 * 2 = 0 from rfl] at hx104_0); (try rw [Addr.add_zero'] at hx104_0); (try rw [show ((0 : Int)).toNat = 0 from rfl] at hx104_1); (try rw [show 0 * 2 = 0 from rfl] at hx104_1); (try rw [Addr.add_zero'] at hx104_1); replace p104 := eq_true p104; replace q104 := eq_true q104))
 go_ret
 exact ⟨zQ, zT⟩
def rs_IsPrime.f (k : Nat) (a0 : Int) : Option (Bool × Int) := (rs_bad.f (([a0] : List Int))).bind fun t104 => (if t104 = true then (some (false, 3)) else ((rs_prime.f k a0).bind fun t105 => (some (t105, 0))))
theorem rs_IsPrime.mono : ∀ a0 k, LeO (rs_IsPrime.f k a0) (rs_IsPrime.f (k + 1) a0) := by
 intro a0 k
 unfold rs_IsPrime.f
 with_reducible repeat' first | exact rs_prime.mono _ _ | exact LeO.refl _ | exact LeO.none _ | refine LeO.ite ?_ ?_ | refine LeO.bind ?_ (fun _ => ?_)
theorem rs_IsPrime.calls (k : Nat) (a0 : Int) (r1 : Bool) (r2 : Int) (w : World) (h : rs_IsPrime.f k a0 = some (r1, r2)) :
  Calls Try.prog 104 #[.int .i64 a0] w fun e w' => e = .returned (.tuple #[.bool r1, .int .i64 r2]) ∧ Below w.heap.size w w' := by
 have HB := zm (Below.refl w.heap.size w)
 have H := h; clear h; unfold rs_IsPrime.f at H
 obtain ⟨y101, Ny101⟩ := zA ((([a0] : List Int)) : List Int); rw [← Ny101.out] at H
 obtain ⟨t104, A2, H⟩ := zO H
 by_cases c3 : t104 = true
 ·subst c3
  rw [if_pos rfl] at H
  simp only [Option.some.injEq, Prod.mk.injEq] at H
  obtain ⟨rfl, rfl⟩ := H
  go_enter Try.func104, Try.ntmps104
  go_wp2_with (first | ((with_reducible refine gate_dst (N := 5) rfl ?_); refine Kd.R_lit (Kd.int .i64) _ 3 ?hg (N := 5) ?hd (xs := ([a0] : List Int)) (inner := [.int .i64 a0]) (ok := fun _ => True) (okp := fun _ => True) ?hr ?hp (fun _ hk => hk) trivial (Below.refl _ _) (Nat.le_refl _) (by simp) ?_; (case hd => rfl); (case hg => rfl); (case hr => go_simp <;> rfl); (case hp => exact (Reps.one (show Kd.M (Kd.int .i64) _ _ _ a0 [.int .i64 a0] from rfl) (Reps.none _ _))); intro v102 w4 ho5 hb hg_ hnew_; clear hg_ hnew_; (first | rw [← Ny101.out] at ho5 | (simp only [Int.reduceToNat] at ho5; rw [← Ny101.out] at ho5)); have HO103 := zm (Kd.R_lower ho5 (zS HB)); replace HB := zBb HB hb; clear hb ho5; obtain ⟨Ao6, co6, eo6⟩ := Kd.R_slice HO103.out; subst eo6) | ((with_reducible refine gate_callee (f := 115) rfl ?_); refine zG (some 6) Try.func115 #[.slice Ao6 y101.length co6] ?_; (with_reducible refine (rs_bad.calls _ _ y101 true _ (zC ((Kd.R_reads' HO103.out).2.2)) ((Kd.R_reads' HO103.out).2.1) A2.out).mono ?_); rintro e w' ⟨rfl, ⟨nd, rfl⟩⟩; refine ⟨_, rfl, ?_⟩))
  go_ret2
  exact ⟨zQ, zT⟩
 replace c3 := Bool.eq_false_iff.mpr c3
 subst c3
 rw [if_neg Bool.false_ne_true] at H
 obtain ⟨t105, A7, H⟩ := zO H
 simp only [Option.some.injEq, Prod.mk.injEq] at H
 obtain ⟨rfl, rfl⟩ := H
 go_enter Try.func104, Try.ntmps104
 go_wp2_with (first | ((with_reducible refine gate_dst (N := 5) rfl ?_); refine Kd.R_lit (Kd.int .i64) _ 3 ?hg (N := 5) ?hd (xs := ([a0] : List Int)) (inner := [.int .i64 a0]) (ok := fun _ => True) (okp := fun _ => True) ?hr ?hp (fun _ hk => hk) trivial (Below.refl _ _) (Nat.le_refl _) (by simp) ?_; (case hd => rfl); (case hg => rfl); (case hr => go_simp <;> rfl); (case hp => exact (Reps.one (show Kd.M (Kd.int .i64) _ _ _ a0 [.int .i64 a0] from rfl) (Reps.none _ _))); intro v102 w8 ho9 hb hg_ hnew_; clear hg_ hnew_; (first | rw [← Ny101.out] at ho9 | (simp only [Int.reduceToNat] at ho9; rw [← Ny101.out] at ho9)); have HO103 := zm (Kd.R_lower ho9 (zS HB)); replace HB := zBb HB hb; clear hb ho9; obtain ⟨Ao10, co10, eo10⟩ := Kd.R_slice HO103.out; subst eo10) | ((with_reducible refine gate_callee (f := 115) rfl ?_); refine zG (some 6) Try.func115 #[.slice Ao10 y101.length co10] ?_; (with_reducible refine (rs_bad.calls _ _ y101 false _ (zC ((Kd.R_reads' HO103.out).2.2)) ((Kd.R_reads' HO103.out).2.1) A2.out).mono ?_); rintro e w' ⟨rfl, ⟨nd, rfl⟩⟩; refine ⟨_, rfl, ?_⟩) | ((with_reducible refine gate_callee (f := 118) rfl ?_); refine zG (some 8) Try.func118 #[.int .i64 a0] ?_; (with_reducible refine (rs_prime.calls k a0 t105 _ A7.out).mono ?_); rintro e w11 ⟨rfl, hb⟩; refine ⟨_, rfl, ?_⟩; replace HO103 := zRb HO103 hb; replace HB := zBb HB hb))
 go_ret2
 exact ⟨zQ, zT⟩
def pm_prime.j0 : Nat → Int → Bool → Option (Int)
 | 0, _, _ => none
 | k + 1, x0, x10 => if x10 = true then (some 7) else ((rs_IsPrime.f k x0).bind fun bt101 => (if bt101.2 = 0 then (if bt101.1 = true then (some 0) else (some 7)) else (some 7)))
def pm_prime.f (k : Nat) (a0 : Int) : Option (Int) := if a0 < 2 then (pm_prime.j0 k a0 true) else (pm_prime.j0 k a0 (decide (a0 > 65521)))
theorem pm_prime.mono_l : ∀ k, (∀ y0 y1, LeO (pm_prime.j0 k y0 y1) (pm_prime.j0 (k + 1) y0 y1))
 | 0 => fun _ _ r h => by simp [pm_prime.j0] at h
 | k + 1 => by
  have ih0 := pm_prime.mono_l k
  intro y0 y1
  unfold pm_prime.j0
  with_reducible repeat' first | exact ih0 _ _ | exact rs_IsPrime.mono _ _ | exact LeO.refl _ | exact LeO.none _ | refine LeO.ite ?_ ?_ | refine LeO.bind ?_ (fun _ => ?_)
theorem pm_prime.mono : ∀ a0 k, LeO (pm_prime.f k a0) (pm_prime.f (k + 1) a0) := by
 intro a0 k
 have ih0 := pm_prime.mono_l k
 unfold pm_prime.f
 with_reducible repeat' first | exact ih0 _ _ | exact rs_IsPrime.mono _ _ | exact LeO.refl _ | exact LeO.none _ | refine LeO.ite ?_ ?_ | refine LeO.bind ?_ (fun _ => ?_)
theorem pm_prime.calls (k : Nat) (a0 : Int) (r : Int) (w : World) (h : pm_prime.f k a0 = some r) :
  Calls Try.prog 80 #[.int .i64 a0] w fun e w' => e = .returned (.int .i64 r) ∧ Below w.heap.size w w' := by
 have HB := zm (Below.refl w.heap.size w)
 have H := h; clear h; unfold pm_prime.f at H
 have HC2 := zm H
 clear H
 go_enter Try.func80, Try.ntmps80
 go_upto_region 1 with (fail)
 go_cut [10] (fun v10 wc => ∃ (kq : Nat) (x10_1 : Bool), v10 = .bool x10_1 ∧ Aside0 (pm_prime.j0 kq a0 x10_1 = some r) ∧ Aside0 (kq ≤ k) ∧ Aside0 (Below w.heap.size w wc))
 case first =>
  have H := HC2.out
  clear HC2
  by_cases c3 : a0 < 2
  ·rw [if_pos c3] at H
   have c3b0 := decide_eq_true c3; clear c3
   (first | rw [c3b0] | (simp only [i64_w, i32_w]; rw [c3b0]) | skip)
   have H' := zm H
   clear H
   go_wp2
   go_meet
   case rel => exact ⟨_, (true), zX, H', ⟨by first | omega | exact Nat.le_refl _⟩, ⟨zT⟩⟩
  rw [if_neg c3] at H
  have c3b0 := decide_eq_false c3; clear c3
  (first | rw [c3b0] | (simp only [i64_w, i32_w]; rw [c3b0]) | skip)
  have H' := zm H
  clear H
  go_wp2
  go_meet
  case rel => exact ⟨_, (decide (a0 > 65521)), zX, H', ⟨by first | omega | exact Nat.le_refl _⟩, ⟨zT⟩⟩
 case rest =>
  clear HC2
  obtain ⟨kq, x10_1, rfl, HA, HJ1, HB⟩ := hcut
  cases kq with
  | zero => exact absurd HA.out (by simp [pm_prime.j0])
  | succ kj1 =>
   have H := HA.out
   clear HA
   simp only [pm_prime.j0] at H
   by_cases c4 : x10_1 = true
   ·subst c4
    rw [if_pos rfl] at H
    obtain rfl := Option.some.inj H
    go_wp2
    go_ret
    exact ⟨zQ, zT⟩
   replace c4 := Bool.eq_false_iff.mpr c4
   subst c4
   rw [if_neg Bool.false_ne_true] at H
   obtain ⟨⟨t101, t102⟩, A5, H⟩ := zO H; try dsimp only at H
   by_cases c6 : t102 = 0
   rotate_left
   ·rw [if_neg c6] at H
    obtain ⟨c6b0, c6b1⟩ := zU c6
    obtain rfl := Option.some.inj H
    go_wp2_with (first | ((with_reducible refine gate_callee (f := 104) rfl ?_); refine zG (some 13) Try.func104 #[.int .i64 a0] ?_; (with_reducible refine (rs_IsPrime.calls kj1 a0 t101 t102 _ A5.out).mono ?_); rintro e w10 ⟨rfl, hb⟩; refine ⟨_, rfl, ?_⟩; replace HB := zBb HB hb))
    go_ret
    exact ⟨zQ, zT⟩
   rw [if_pos c6] at H
   obtain ⟨c6b0, c6b1⟩ := zE c6; clear c6
   by_cases c7 : t101 = true
   ·subst c7
    rw [if_pos rfl] at H
    obtain rfl := Option.some.inj H
    go_wp2_with (first | ((with_reducible refine gate_callee (f := 104) rfl ?_); refine zG (some 13) Try.func104 #[.int .i64 a0] ?_; (with_reducible refine (rs_IsPrime.calls kj1 a0 true t102 _ A5.out).mono ?_); rintro e w8 ⟨rfl, hb⟩; refine ⟨_, rfl, ?_⟩; replace HB := zBb HB hb))
    go_ret
    exact ⟨zQ, zT⟩
   replace c7 := Bool.eq_false_iff.mpr c7
   subst c7
   rw [if_neg Bool.false_ne_true] at H
   obtain rfl := Option.some.inj H
   go_wp2_with (first | ((with_reducible refine gate_callee (f := 104) rfl ?_); refine zG (some 13) Try.func104 #[.int .i64 a0] ?_; (with_reducible refine (rs_IsPrime.calls kj1 a0 false t102 _ A5.out).mono ?_); rintro e w9 ⟨rfl, hb⟩; refine ⟨_, rfl, ?_⟩; replace HB := zBb HB hb))
   go_ret
   exact ⟨zQ, zT⟩
def badC (p x : Int) : Bool := decide (x < 0) || decide (p ≤ x)
def badCIdx (p : Int) : Nat → List Int → Int
 | _, [] => -1
 | i, x :: xs => if badC p x = true then (i : Int) else badCIdx p (i + 1) xs
theorem badC_calls (p x : Int) (B : Nat) (w : World) (hB : w.heap[B]? = some (.cells #[.int .i64 p] 3 (0, 0))) : Calls Try.prog 82 #[.int .i64 x, .pointer (some ⟨B, 0, none⟩)] w fun e w' => e = .returned (.bool (badC p x)) ∧ Drawn0 w w' := by
 have hcell := cell_of_one hB
 have hfree := free_of_one hB
 clear hB
 by_cases h1 : x < 0
 ·have b : badC p x = true := by simp [badC, h1]
  have B' := zm b
  clear b
  go_enter Try.func82, Try.ntmps82
  go_wp2
  repeat (go_quiet (fail); try go_wp2)
  go_ret
  rw [B'.out]
  exact ⟨rfl, by repeat (first | exact Drawn0.refl _ | apply Drawn0.step)⟩
 have b : badC p x = decide (p ≤ x) := by simp [badC, h1]
 have B' := zm b
 clear b
 go_enter Try.func82, Try.ntmps82
 go_wp2
 repeat (go_quiet (fail); try go_wp2)
 go_ret
 rw [B'.out]
 exact ⟨rfl, by repeat (first | exact Drawn0.refl _ | apply Drawn0.step)⟩
theorem badCIdx_step (p : Int) (l : List Int) (i : Nat) (h : i < l.length) : badCIdx p i (l.drop i) = if badC p (l.getD i 0) = true then (i : Int) else badCIdx p (i + 1) (l.drop (i + 1)) := by
 rw [List.drop_eq_getElem_cons h]
 simp only [badCIdx, List.getD_eq_getElem?_getD, List.getElem?_eq_getElem h, Option.getD_some]
theorem IndexFunc_badC (p : Int) (B : Nat) (A0 : Option Addr) (c0 : Nat) (l0 : List Int) (w : World) (hB : w.heap[B]? = some (.cells #[.int .i64 p] 3 (0, 0))) (hr0 : Kd.C (Kd.int .i64) w A0 l0.length l0) (hc0 : l0.length ≤ c0) :
  Calls Try.prog 105 #[.slice A0 l0.length c0, .func (.func 82) #[] #[.pointer (some ⟨B, 0, none⟩)]] w fun e w' => e = .returned (.int .i64 (badCIdx p 0 l0)) ∧ Drawn0 w w' := by
 have hmax := hr0.2.1
 have HR0 := zm hr0
 have HC0 := zm hc0
 have HB := zm hB
 clear hr0 hc0 hB
 go_enter Try.func105, Try.ntmps105
 go_wp2
 repeat (go_quiet (fail); try go_wp2)
 go_loopg [8] l0.length (fun kq v8 w' => ∃ (x : Int), v8 = .int .i64 x ∧ Aside0 (0 ≤ x ∧ x + kq = l0.length ∧ badCIdx p 0 l0 = badCIdx p x.toNat (l0.drop x.toNat)) ∧ Drawn0 w w')
 case atStart => exact ⟨0, zX, ⟨by omega, by simp, by simp⟩, by repeat (first | exact Drawn0.refl _ | apply Drawn0.step)⟩
 case round =>
  obtain ⟨x, rfl, HA, ⟨m1, rfl⟩⟩ := hrel
  obtain ⟨hx0, hxk, hidx⟩ := HA.out
  have HI := zm hidx
  clear hidx HA
  cases gk with
  | zero =>
   have c4b0 : decide (x < (l0.length : Int)) = false := decide_eq_false (by omega)
   have HE : Aside0 (badCIdx p 0 l0 = -1) := ⟨by rw [HI.out, List.drop_eq_nil_of_le (by omega)]; rfl⟩
   clear hxk
   go_wp2
   repeat (go_quiet (fail); try go_wp2)
   go_ret
   rw [HE.out]
   exact ⟨rfl, by repeat (first | exact Drawn0.refl _ | apply Drawn0.step)⟩
  | succ k1 =>
   have q257 : x < (l0.length : Int) := by omega
   have c4b0 : decide (x < (l0.length : Int)) = true := decide_eq_true q257
   have HS := zm (badCIdx_step p l0 x.toNat (by omega))
   have HK := zm hxk
   clear hxk
   obtain ⟨ad257, e257, hx257_0⟩ := Kd.at_int HR0.out x hx0 q257
   cases e257
   have HRD := zm (show rd l0 x = l0.getD x.toNat 0 from rfl)
   replace hx0 := eq_true hx0
   replace q257 := eq_true q257
   cases hb : badC p (rd l0 x) with
   | true =>
    have HE : Aside0 (badCIdx p 0 l0 = x) := ⟨by rw [HI.out, HS.out, if_pos (by rw [← HRD.out]; exact hb)]; have := of_eq_true hx0; omega⟩
    have HBb := zm hb
    clear hb
    go_wp2_with (first | (go_at_call 82; refine (badC_calls p _ B _ (by (with_reducible repeat (first | exact HB.out | refine blk_drewN ?_ _ | refine blk_drew ?_)))).mono ?_; rintro e w' ⟨rfl, ⟨nd, rfl⟩⟩; rw [HBb.out]))
    go_ret
    rw [HE.out]
    exact ⟨rfl, by repeat (first | exact Drawn0.refl _ | apply Drawn0.step)⟩
   | false =>
    have HE : Aside0 (badCIdx p 0 l0 = badCIdx p (x.toNat + 1) (l0.drop (x.toNat + 1))) := ⟨by rw [HI.out, HS.out, if_neg (by rw [← HRD.out, hb]; simp)]⟩
    have HBb := zm hb
    clear hb
    go_wp2_with (first | (go_at_call 82; refine (badC_calls p _ B _ (by (with_reducible repeat (first | exact HB.out | refine blk_drewN ?_ _ | refine blk_drew ?_)))).mono ?_; rintro e w' ⟨rfl, ⟨nd, rfl⟩⟩; rw [HBb.out]))
    go_roundg k1
    case measure => omega
    case rel => exact ⟨x + 1, by rw [show wrap64 (x + 1) = x + 1 by have := of_eq_true hx0; have := HK.out; unfold wrap64; omega], ⟨by have := of_eq_true hx0; omega, by have := HK.out; omega, by rw [HE.out, show (x + 1).toNat = x.toNat + 1 by have := of_eq_true hx0; omega]⟩, by repeat (first | exact Drawn0.refl _ | apply Drawn0.step)⟩
theorem badCIdx_iff (p : Int) (l : List Int) : ∀ i, 0 ≤ badCIdx p i l ↔ l.any (badC p) = true := by
 induction l with
 | nil => intro i; simp [badCIdx]
 | cons x xs ih =>
  intro i
  have e : badCIdx p i (x :: xs) = if badC p x = true then (i : Int) else badCIdx p (i + 1) xs := rfl
  rw [e, List.any_cons]
  by_cases h : badC p x = true
  ·rw [if_pos h, h]; simp
  rw [if_neg h, ih (i + 1), Bool.eq_false_iff.2 h]; simp
theorem badCIdx_ge (p : Int) (l : List Int) : decide (0 ≤ badCIdx p 0 l) = l.any (badC p) := by
 rw [Bool.eq_iff_iff, decide_eq_true_eq]; exact badCIdx_iff p l 0
theorem ContainsFunc_badC (p : Int) (B : Nat) (A0 : Option Addr) (c0 : Nat) (l0 : List Int) (w : World) (hB : w.heap[B]? = some (.cells #[.int .i64 p] 3 (0, 0))) (hr0 : Kd.C (Kd.int .i64) w A0 l0.length l0) (hc0 : l0.length ≤ c0) :
  Calls Try.prog 81 #[.slice A0 l0.length c0, .func (.func 82) #[] #[.pointer (some ⟨B, 0, none⟩)]] w fun e w' => e = .returned (.bool (l0.any (badC p))) ∧ Drawn0 w w' := by
 have HR0 := zm hr0
 have HC0 := zm hc0
 have HB := zm hB
 have HG := zm (badCIdx_ge p l0)
 clear hr0 hc0 hB
 go_enter Try.func81, Try.ntmps81
 go_wp2_with (first | (go_at_call 105; (with_reducible refine (IndexFunc_badC p B _ _ l0 _ HB.out HR0.out HC0.out).mono ?_); rintro e w' ⟨rfl, ⟨nd, rfl⟩⟩))
 repeat (go_quiet (first | (go_at_call 105; (with_reducible refine (IndexFunc_badC p B _ _ l0 _ HB.out HR0.out HC0.out).mono ?_); rintro e w' ⟨rfl, ⟨nd, rfl⟩⟩)); try go_wp2)
 go_ret
 exact ⟨by rw [← HG.out]; rfl, by repeat (first | exact Drawn0.refl _ | apply Drawn0.step)⟩
def pm_Check.g (a0 : Int) (l1 : List Int) : Int := if l1.length > 65 then 4 else if l1.any (badC a0) = true then 1 else if (l1.length : Int) > 0 then (if rd l1 (wrap64 ((l1.length : Int) - 1)) = 0 then 1 else 0) else 0
def pm_Check.f (k : Nat) (a0 : Int) (l1 : List Int) : Option Int := (pm_prime.f k a0).bind fun e => if e = 0 then some (pm_Check.g a0 l1) else some e
theorem pm_Check.mono (a0 : Int) (l1 : List Int) (k : Nat) : LeO (pm_Check.f k a0 l1) (pm_Check.f (k + 1) a0 l1) := LeO.bind (pm_prime.mono a0 k) (fun _ => LeO.refl _)
theorem pm_Check.calls (k : Nat) (a0 : Int) (A1 : Option Addr) (c1 : Nat) (l1 : List Int) (r : Int) (w : World) (hr1 : Kd.C (Kd.int .i64) w A1 l1.length l1) (hc1 : l1.length ≤ c1) (h : pm_Check.f k a0 l1 = some r) :
  Calls Try.prog 45 #[.int .i64 a0, .slice A1 l1.length c1] w fun e w' => e = .returned (.int .i64 r) ∧ Below w.heap.size w w' := by
 obtain ⟨e, hp, hE⟩ := Option.bind_eq_some_iff.mp h
 clear h
 have hmf : ∀ (fn : Fn) (first cap : Array Value) (w : World), (Instr.makeFunc fn first cap).run Try.prog w = .ok (.func fn first cap) w := fun _ _ _ _ => rfl
 have hmax := hr1.2.1
 have HR1 := zm hr1
 have HC1 := zm hc1
 have HP := zm hp
 have HB0 : Aside0 ((w.alloc (Obj.cells #[Value.int IntKind.i64 a0] 3)).heap[w.heap.size]? = some (.cells #[.int .i64 a0] 3 (0, 0))) := ⟨heap_alloc_new w _⟩
 have HBel : Aside0 (Below w.heap.size w (w.alloc (Obj.cells #[Value.int IntKind.i64 a0] 3))) := ⟨below_alloc (Below.refl _ _) _⟩
 have hcell := cell_of_one HB0.out
 have hfree := free_of_one HB0.out
 have HSZ : Aside0 (w.heap.size < (w.alloc (Obj.cells #[Value.int IntKind.i64 a0] 3)).heap.size) := ⟨by simp⟩
 clear hr1 hc1 hp
 by_cases he : e = 0
 rotate_left
 ·rw [if_neg he] at hE
  obtain rfl := Option.some.inj hE
  clear hE
  have c1b0 : (e != 0) = true := bne_iff_ne.mpr he
  have c1b1 : (e == 0) = false := beq_eq_false_iff_ne.mpr he
  go_enter Try.func45, Try.ntmps45
  go_wp2_with (first | (go_at_call 80; (with_reducible refine (pm_prime.calls k a0 e _ HP.out).mono ?_); rintro e w1 ⟨rfl, hb1⟩; have HB1 := zm hb1; clear hb1))
  go_ret
  exact ⟨rfl, below_then HBel.out (Nat.le_of_lt HSZ.out) HB1.out⟩
 subst he
 rw [if_pos rfl] at hE
 obtain rfl := Option.some.inj hE
 clear hE
 have h0r : (0 != 0) = false := rfl
 by_cases c65 : l1.length > 65
 ·have HG : Aside0 (pm_Check.g a0 l1 = 4) := ⟨by unfold pm_Check.g; rw [if_pos c65]⟩
  have c5b0 : decide ((65 : Int) < (l1.length : Int)) = true := decide_eq_true (by omega)
  clear c65
  rw [HG.out]
  go_enter Try.func45, Try.ntmps45
  go_wp2_with (first | (go_at_call 80; (with_reducible refine (pm_prime.calls k a0 0 _ HP.out).mono ?_); rintro e w1 ⟨rfl, hb1⟩; have HB1 := zm hb1; have HBK := zm (blk_below HB0.out hb1); have HR2 := zm (Kd.C_below (Kd.C_alloc HR1.out _) hb1); clear hb1) | (go_at_call 81; (with_reducible refine (ContainsFunc_badC a0 w.heap.size _ _ l1 _ (by (with_reducible repeat (first | exact HBK.out | refine blk_drewN ?_ _ | refine blk_drew ?_))) (by (with_reducible repeat (first | exact HR2.out | apply Kd.C_drewN | apply Kd.C_drew))) HC1.out).mono ?_); rintro e w' ⟨rfl, ⟨nd, rfl⟩⟩; rw [HAN.out]))
  repeat (go_quiet (first | (go_at_call 80; (with_reducible refine (pm_prime.calls k a0 0 _ HP.out).mono ?_); rintro e w1 ⟨rfl, hb1⟩; have HB1 := zm hb1; have HBK := zm (blk_below HB0.out hb1); have HR2 := zm (Kd.C_below (Kd.C_alloc HR1.out _) hb1); clear hb1) | (go_at_call 81; (with_reducible refine (ContainsFunc_badC a0 w.heap.size _ _ l1 _ (by (with_reducible repeat (first | exact HBK.out | refine blk_drewN ?_ _ | refine blk_drew ?_))) (by (with_reducible repeat (first | exact HR2.out | apply Kd.C_drewN | apply Kd.C_drew))) HC1.out).mono ?_); rintro e w' ⟨rfl, ⟨nd, rfl⟩⟩; rw [HAN.out])); try go_wp2)
  go_ret
  exact ⟨rfl, by repeat (first | (with_reducible first | exact below_then HBel.out (Nat.le_of_lt HSZ.out) HB1.out | apply pw_below_drewN | apply below_drew1) | exact below_then HBel.out (Nat.le_of_lt HSZ.out) HB1.out)⟩
 have c5b0 : decide ((65 : Int) < (l1.length : Int)) = false := decide_eq_false (by omega)
 cases han : l1.any (badC a0) with
 | true =>
  have HG : Aside0 (pm_Check.g a0 l1 = 1) := ⟨by unfold pm_Check.g; rw [if_neg c65, if_pos han]⟩
  have HAN := zm han
  clear c65 han
  rw [HG.out]
  go_enter Try.func45, Try.ntmps45
  go_wp2_with (first | (go_at_call 80; (with_reducible refine (pm_prime.calls k a0 0 _ HP.out).mono ?_); rintro e w1 ⟨rfl, hb1⟩; have HB1 := zm hb1; have HBK := zm (blk_below HB0.out hb1); have HR2 := zm (Kd.C_below (Kd.C_alloc HR1.out _) hb1); clear hb1) | (go_at_call 81; (with_reducible refine (ContainsFunc_badC a0 w.heap.size _ _ l1 _ (by (with_reducible repeat (first | exact HBK.out | refine blk_drewN ?_ _ | refine blk_drew ?_))) (by (with_reducible repeat (first | exact HR2.out | apply Kd.C_drewN | apply Kd.C_drew))) HC1.out).mono ?_); rintro e w' ⟨rfl, ⟨nd, rfl⟩⟩; rw [HAN.out]))
  repeat (go_quiet (first | (go_at_call 80; (with_reducible refine (pm_prime.calls k a0 0 _ HP.out).mono ?_); rintro e w1 ⟨rfl, hb1⟩; have HB1 := zm hb1; have HBK := zm (blk_below HB0.out hb1); have HR2 := zm (Kd.C_below (Kd.C_alloc HR1.out _) hb1); clear hb1) | (go_at_call 81; (with_reducible refine (ContainsFunc_badC a0 w.heap.size _ _ l1 _ (by (with_reducible repeat (first | exact HBK.out | refine blk_drewN ?_ _ | refine blk_drew ?_))) (by (with_reducible repeat (first | exact HR2.out | apply Kd.C_drewN | apply Kd.C_drew))) HC1.out).mono ?_); rintro e w' ⟨rfl, ⟨nd, rfl⟩⟩; rw [HAN.out])); try go_wp2)
  go_ret
  exact ⟨rfl, by repeat (first | (with_reducible first | exact below_then HBel.out (Nat.le_of_lt HSZ.out) HB1.out | apply pw_below_drewN | apply below_drew1) | exact below_then HBel.out (Nat.le_of_lt HSZ.out) HB1.out)⟩
 | false =>
  by_cases c0 : (l1.length : Int) > 0
  rotate_left
  ·have c6b0 : decide ((0 : Int) < (l1.length : Int)) = false := decide_eq_false c0
   have c6n : (0 < l1.length) = False := eq_false (by omega)
   have HG : Aside0 (pm_Check.g a0 l1 = 0) := ⟨by unfold pm_Check.g; rw [if_neg c65, if_neg (by rw [han]; simp), if_neg c0]⟩
   have HAN := zm han
   clear c65 han c0
   rw [HG.out]
   go_enter Try.func45, Try.ntmps45
   go_wp2_with (first | (go_at_call 80; (with_reducible refine (pm_prime.calls k a0 0 _ HP.out).mono ?_); rintro e w1 ⟨rfl, hb1⟩; have HB1 := zm hb1; have HBK := zm (blk_below HB0.out hb1); have HR2 := zm (Kd.C_below (Kd.C_alloc HR1.out _) hb1); clear hb1) | (go_at_call 81; (with_reducible refine (ContainsFunc_badC a0 w.heap.size _ _ l1 _ (by (with_reducible repeat (first | exact HBK.out | refine blk_drewN ?_ _ | refine blk_drew ?_))) (by (with_reducible repeat (first | exact HR2.out | apply Kd.C_drewN | apply Kd.C_drew))) HC1.out).mono ?_); rintro e w' ⟨rfl, ⟨nd, rfl⟩⟩; rw [HAN.out]))
   repeat (go_quiet (first | (go_at_call 80; (with_reducible refine (pm_prime.calls k a0 0 _ HP.out).mono ?_); rintro e w1 ⟨rfl, hb1⟩; have HB1 := zm hb1; have HBK := zm (blk_below HB0.out hb1); have HR2 := zm (Kd.C_below (Kd.C_alloc HR1.out _) hb1); clear hb1) | (go_at_call 81; (with_reducible refine (ContainsFunc_badC a0 w.heap.size _ _ l1 _ (by (with_reducible repeat (first | exact HBK.out | refine blk_drewN ?_ _ | refine blk_drew ?_))) (by (with_reducible repeat (first | exact HR2.out | apply Kd.C_drewN | apply Kd.C_drew))) HC1.out).mono ?_); rintro e w' ⟨rfl, ⟨nd, rfl⟩⟩; rw [HAN.out])); try go_wp2)
   go_ret
   exact ⟨rfl, by repeat (first | (with_reducible first | exact below_then HBel.out (Nat.le_of_lt HSZ.out) HB1.out | apply pw_below_drewN | apply below_drew1) | exact below_then HBel.out (Nat.le_of_lt HSZ.out) HB1.out)⟩
  have c6b0 : decide ((0 : Int) < (l1.length : Int)) = true := decide_eq_true c0
  have c6n : (0 < l1.length) = True := eq_true (by omega)
  obtain ⟨ji, hji⟩ : ∃ j_ : Int, wrap64 ((l1.length : Int) - 1) = j_ := ⟨_, rfl⟩
  have hjiw : (IntKind.i64.wrap ((l1.length : Int) - 1)) = ji := (i64_w _).trans hji
  have hj0 : 0 ≤ ji := by rw [← hji]; unfold wrap64; omega
  have hj1 : ji < (l1.length : Int) := by rw [← hji]; unfold wrap64; omega
  by_cases cz : rd l1 ji = 0
  ·have HG : Aside0 (pm_Check.g a0 l1 = 1) := ⟨by unfold pm_Check.g; rw [if_neg c65, if_neg (by rw [han]; simp), if_pos c0, hji, if_pos cz]⟩
   have HAN := zm han
   have c7b0 : (rd l1 ji == 0) = true := beq_iff_eq.mpr cz
   have HJ0 := zm hj0
   have HJ1 := zm hj1
   replace hj0 := eq_true hj0
   replace hj1 := eq_true hj1
   clear c65 han cz c0
   rw [HG.out]
   go_enter Try.func45, Try.ntmps45
   go_wp2_with (first | (go_at_call 80; (with_reducible refine (pm_prime.calls k a0 0 _ HP.out).mono ?_); rintro e w1 ⟨rfl, hb1⟩; have HB1 := zm hb1; have HBK := zm (blk_below HB0.out hb1); have HR2 := zm (Kd.C_below (Kd.C_alloc HR1.out _) hb1); clear hb1; obtain ⟨adx, ex, hx⟩ := Kd.at_int HR2.out ji HJ0.out HJ1.out; cases ex) | (go_at_call 81; (with_reducible refine (ContainsFunc_badC a0 w.heap.size _ _ l1 _ (by (with_reducible repeat (first | exact HBK.out | refine blk_drewN ?_ _ | refine blk_drew ?_))) (by (with_reducible repeat (first | exact HR2.out | apply Kd.C_drewN | apply Kd.C_drew))) HC1.out).mono ?_); rintro e w' ⟨rfl, ⟨nd, rfl⟩⟩; rw [HAN.out]))
   repeat (go_quiet (first | (go_at_call 80; (with_reducible refine (pm_prime.calls k a0 0 _ HP.out).mono ?_); rintro e w1 ⟨rfl, hb1⟩; have HB1 := zm hb1; have HBK := zm (blk_below HB0.out hb1); have HR2 := zm (Kd.C_below (Kd.C_alloc HR1.out _) hb1); clear hb1; obtain ⟨adx, ex, hx⟩ := Kd.at_int HR2.out ji HJ0.out HJ1.out; cases ex) | (go_at_call 81; (with_reducible refine (ContainsFunc_badC a0 w.heap.size _ _ l1 _ (by (with_reducible repeat (first | exact HBK.out | refine blk_drewN ?_ _ | refine blk_drew ?_))) (by (with_reducible repeat (first | exact HR2.out | apply Kd.C_drewN | apply Kd.C_drew))) HC1.out).mono ?_); rintro e w' ⟨rfl, ⟨nd, rfl⟩⟩; rw [HAN.out])); try go_wp2)
   go_ret
   exact ⟨rfl, by repeat (first | (with_reducible first | exact below_then HBel.out (Nat.le_of_lt HSZ.out) HB1.out | apply pw_below_drewN | apply below_drew1) | exact below_then HBel.out (Nat.le_of_lt HSZ.out) HB1.out)⟩
  have HG : Aside0 (pm_Check.g a0 l1 = 0) := ⟨by unfold pm_Check.g; rw [if_neg c65, if_neg (by rw [han]; simp), if_pos c0, hji, if_neg cz]⟩
  have HAN := zm han
  have c7b0 : (rd l1 ji == 0) = false := beq_eq_false_iff_ne.mpr cz
  have HJ0 := zm hj0
  have HJ1 := zm hj1
  replace hj0 := eq_true hj0
  replace hj1 := eq_true hj1
  clear c65 han cz c0
  rw [HG.out]
  go_enter Try.func45, Try.ntmps45
  go_wp2_with (first | (go_at_call 80; (with_reducible refine (pm_prime.calls k a0 0 _ HP.out).mono ?_); rintro e w1 ⟨rfl, hb1⟩; have HB1 := zm hb1; have HBK := zm (blk_below HB0.out hb1); have HR2 := zm (Kd.C_below (Kd.C_alloc HR1.out _) hb1); clear hb1; obtain ⟨adx, ex, hx⟩ := Kd.at_int HR2.out ji HJ0.out HJ1.out; cases ex) | (go_at_call 81; (with_reducible refine (ContainsFunc_badC a0 w.heap.size _ _ l1 _ (by (with_reducible repeat (first | exact HBK.out | refine blk_drewN ?_ _ | refine blk_drew ?_))) (by (with_reducible repeat (first | exact HR2.out | apply Kd.C_drewN | apply Kd.C_drew))) HC1.out).mono ?_); rintro e w' ⟨rfl, ⟨nd, rfl⟩⟩; rw [HAN.out]))
  repeat (go_quiet (first | (go_at_call 80; (with_reducible refine (pm_prime.calls k a0 0 _ HP.out).mono ?_); rintro e w1 ⟨rfl, hb1⟩; have HB1 := zm hb1; have HBK := zm (blk_below HB0.out hb1); have HR2 := zm (Kd.C_below (Kd.C_alloc HR1.out _) hb1); clear hb1; obtain ⟨adx, ex, hx⟩ := Kd.at_int HR2.out ji HJ0.out HJ1.out; cases ex) | (go_at_call 81; (with_reducible refine (ContainsFunc_badC a0 w.heap.size _ _ l1 _ (by (with_reducible repeat (first | exact HBK.out | refine blk_drewN ?_ _ | refine blk_drew ?_))) (by (with_reducible repeat (first | exact HR2.out | apply Kd.C_drewN | apply Kd.C_drew))) HC1.out).mono ?_); rintro e w' ⟨rfl, ⟨nd, rfl⟩⟩; rw [HAN.out])); try go_wp2)
  go_ret
  exact ⟨rfl, by repeat (first | (with_reducible first | exact below_then HBel.out (Nat.le_of_lt HSZ.out) HB1.out | apply pw_below_drewN | apply below_drew1) | exact below_then HBel.out (Nat.le_of_lt HSZ.out) HB1.out)⟩
def fp_Trim.l0 : Nat → List Int → Int → Option (List Int)
 | 0, _, _ => none
 | k + 1, x0, x3 => if x3 > 0 then (if 0 ≤ (wrap64 (x3 - 1)) then (if (wrap64 (x3 - 1)) < (x0.length : Int) then (if (rd x0 (wrap64 (x3 - 1))) = 0 then (fp_Trim.l0 k x0 (wrap64 (x3 - 1))) else (if 0 ≤ x3 then (if x3 ≤ (x0.length : Int) then (some (x0.take (x3 : Int).toNat)) else (none)) else (none))) else (none)) else (none)) else (if 0 ≤ x3 then (if x3 ≤ (x0.length : Int) then (some (x0.take (x3 : Int).toNat)) else (none)) else (none))
def fp_Trim.f (k : Nat) (l0 : List Int) : Option (List Int) := fp_Trim.l0 k l0 (l0.length : Int)
theorem fp_Trim.mono_l : ∀ k, (∀ y0 y1, LeO (fp_Trim.l0 k y0 y1) (fp_Trim.l0 (k + 1) y0 y1))
 | 0 => fun _ _ r h => by simp [fp_Trim.l0] at h
 | k + 1 => by
  have ih0 := fp_Trim.mono_l k
  intro y0 y1
  unfold fp_Trim.l0
  with_reducible repeat' first | exact ih0 _ _ | exact LeO.refl _ | exact LeO.none _ | refine LeO.ite ?_ ?_ | refine LeO.bind ?_ (fun _ => ?_)
theorem fp_Trim.mono : ∀ a0 k, LeO (fp_Trim.f k a0) (fp_Trim.f (k + 1) a0) := by
 intro a0 k
 have ih0 := fp_Trim.mono_l k
 unfold fp_Trim.f
 with_reducible repeat' first | exact ih0 _ _ | exact LeO.refl _ | exact LeO.none _ | refine LeO.ite ?_ ?_ | refine LeO.bind ?_ (fun _ => ?_)
theorem fp_Trim.calls (k : Nat) (P0_ : Nat → Prop) (A0 : Option Addr) (c0 : Nat) (l0 : List Int) (r : List Int) (w : World) (hs0 : Kd.V (Kd.int .i64) 3 w w.heap.size (fun k_ => P0_ k_) (.slice A0 l0.length c0) l0) (h : fp_Trim.f k l0 = some r) :
  Calls Try.prog 92 #[.slice A0 l0.length c0] w fun e w' => ∃ v0_ : Value, e = .returned (v0_) ∧ Kd.V (Kd.int .i64) 3 w' w.heap.size (fun k_ => (P0_ k_ ∨ w.heap.size ≤ k_)) v0_ r ∧ Below w.heap.size w w' := by
 have HO0 := zm (show Kd.V (Kd.int .i64) 3 w w.heap.size (fun k_ => (P0_ k_ ∨ w.heap.size ≤ k_)) (.slice A0 l0.length c0) l0 from Kd.V_mono hs0 (fun k_ hk => .inl hk))
 have HB := zm (Below.refl w.heap.size w)
 have H := h; clear h; unfold fp_Trim.f at H
 have H' := zm H
 clear H
 go_enter Try.func92, Try.ntmps92
 go_wp2
 go_loopg [3] k (fun kq v3 w' => ∃ (x3_1 : Int), v3 = .int .i64 x3_1 ∧ Aside0 (fp_Trim.l0 kq l0 x3_1 = some r) ∧ Aside0 (kq ≤ k) ∧ Aside0 (Kd.V (Kd.int .i64) 3 w' w.heap.size (fun k_ => (P0_ k_ ∨ w.heap.size ≤ k_)) (.slice A0 l0.length c0) l0) ∧ Aside0 (Below w.heap.size w w'))
 case atStart => exact ⟨((l0.length : Int)), zX, H', ⟨Nat.le_refl _⟩, ⟨zV HO0.out⟩, ⟨zT⟩⟩
 case round =>
  clear H'
  obtain ⟨x3_1, rfl, HA, HK1, HO_0, HB⟩ := hrel
  cases gk with
  | zero => exact absurd HA.out (by simp [fp_Trim.l0])
  | succ k1 =>
   have H := HA.out
   clear HA
   simp only [fp_Trim.l0] at H
   by_cases c2 : x3_1 > 0
   rotate_left
   ·rw [if_neg c2] at H
    have c2b0 := decide_eq_false c2; clear c2
    by_cases c10 : 0 ≤ x3_1
    rotate_left
    ·rw [if_neg c10] at H
     exact absurd H (by simp)
    rw [if_pos c10] at H
    have c10b0 := eq_true c10; have c10b1 := decide_eq_true c10; clear c10
    by_cases c11 : x3_1 ≤ (l0.length : Int)
    rotate_left
    ·rw [if_neg c11] at H
     exact absurd H (by simp)
    rw [if_pos c11] at H
    have c11b0 := eq_true c11; have c11b1 := decide_eq_true c11; clear c11
    obtain ⟨y107, hy107⟩ : ∃ y_ : List Int, y_ = (l0.take (x3_1 : Int).toNat) := ⟨_, rfl⟩
    replace H : (some y107) = some r := by first | (rw [hy107]; with_reducible exact H) | (have H2_ := (Option.bind_some _ _).symm.trans H; rw [hy107]; with_reducible exact H2_) | (have H2_ := (Option.bind_some _ _).symm.trans H; with_reducible exact H2_) | with_reducible exact H | (rw [hy107]; exact H) | exact H
    have Ny107 := zm hy107
    clear hy107
    obtain rfl := Option.some.inj H
    have q12 : (x3_1 : Int) ≤ ((l0.length : Int) : Int) := zD
    obtain ⟨i012, hi012, _, hsz12, _⟩ := info_parts info3
    have hroom12 : l0.length ≤ c0 := (Kd.V_reads' HO_0.out).2.1
    have hC12 : Kd.F (Kd.int .i64) _ _ A0 l0.length l0 := (Kd.V_at (base := w.heap.size) HO_0.out).2.2
    have hcut12 := cut_cap (P := Try.prog) 25 3 .i64 Try.underlying25 hi012 A0 l0.length c0 x3_1 zD q12 hroom12
    have hr12 := Kd.F_take (m := (x3_1 : Int).toNat) hC12 (by omega)
    have hy12 : y107.length = (x3_1 : Int).toNat := (by rw [Ny107.out, List.length_take]; omega)
    rw [← Ny107.out] at hr12
    rw [← hy12] at hcut12
    have HO111 := zm (show Kd.V (Kd.int .i64) 3 _ w.heap.size _ (.slice A0 y107.length y107.length) y107 from Kd.V_mk (by omega) hr12)
    have HC111 := zm (show y107.length ≤ y107.length from by omega)
    clear hr12 hC12 hroom12 hi012 hsz12
    have KY12 := zm hy12
    clear hy12
    replace q12 := eq_true q12
    go_wp2
    go_ret
    exact ⟨_, zQ, zV HO111.out, zT⟩
   rw [if_pos c2] at H
   have c2b0 := decide_eq_true c2; clear c2
   obtain ⟨ji3, hji3⟩ : ∃ j_ : Int, (wrap64 (x3_1 - 1)) = j_ := ⟨_, rfl⟩
   first | rw [hji3] at H | simp only [hji3] at H
   have hji3w : (IntKind.i64.wrap (x3_1 - 1)) = ji3 := (i64_w _).trans hji3
   by_cases c4 : 0 ≤ (ji3)
   rotate_left
   ·rw [if_neg c4] at H
    exact absurd H (by simp)
   rw [if_pos c4] at H
   have c4b0 := decide_eq_true c4; clear c4
   by_cases c5 : (ji3) < (l0.length : Int)
   rotate_left
   ·rw [if_neg c5] at H
    exact absurd H (by simp)
   rw [if_pos c5] at H
   have c5b0 := decide_eq_true c5; clear c5
   by_cases c6 : (rd l0 (ji3)) = 0
   ·rw [if_pos c6] at H
    obtain ⟨c6b0, c6b1⟩ := zE c6; clear c6
    have H' := zm H
    clear H
    obtain ⟨p101, q101, ad101, e101, hx101_0⟩ := zI ((Kd.V_reads' HO_0.out).2.2) ((ji3)) zD zD
    cases e101
    go_wp2
    go_roundg k1
    case measure => have := HK1.out; omega
    case rel => exact ⟨(ji3), (by first | rfl | (simp; done) | (simp only [← hji3] <;> (first | rfl | simp)) | (simp [*]; done)), H', ⟨by have := HK1.out; omega⟩, ⟨zV HO_0.out⟩, ⟨zT⟩⟩
   rw [if_neg c6] at H
   obtain ⟨c6b0, c6b1⟩ := zU c6
   by_cases c7 : 0 ≤ x3_1
   rotate_left
   ·rw [if_neg c7] at H
    exact absurd H (by simp)
   rw [if_pos c7] at H
   have c7b0 := eq_true c7; have c7b1 := decide_eq_true c7; clear c7
   by_cases c8 : x3_1 ≤ (l0.length : Int)
   rotate_left
   ·rw [if_neg c8] at H
    exact absurd H (by simp)
   rw [if_pos c8] at H
   have c8b0 := eq_true c8; have c8b1 := decide_eq_true c8; clear c8
   obtain ⟨y102, hy102⟩ : ∃ y_ : List Int, y_ = (l0.take (x3_1 : Int).toNat) := ⟨_, rfl⟩
   replace H : (some y102) = some r := by first | (rw [hy102]; with_reducible exact H) | (have H2_ := (Option.bind_some _ _).symm.trans H; rw [hy102]; with_reducible exact H2_) | (have H2_ := (Option.bind_some _ _).symm.trans H; with_reducible exact H2_) | with_reducible exact H | (rw [hy102]; exact H) | exact H
   have Ny102 := zm hy102
   clear hy102
   obtain rfl := Option.some.inj H
   obtain ⟨p101, q101, ad101, e101, hx101_0⟩ := zI ((Kd.V_reads' HO_0.out).2.2) ((ji3)) zD zD
   cases e101
   have q9 : (x3_1 : Int) ≤ ((l0.length : Int) : Int) := zD
   obtain ⟨i09, hi09, _, hsz9, _⟩ := info_parts info3
   have hroom9 : l0.length ≤ c0 := (Kd.V_reads' HO_0.out).2.1
   have hC9 : Kd.F (Kd.int .i64) _ _ (some ad101) l0.length l0 := (Kd.V_at (base := w.heap.size) HO_0.out).2.2
   have hcut9 := cut_cap (P := Try.prog) 25 3 .i64 Try.underlying25 hi09 (some ad101) l0.length c0 x3_1 zD q9 hroom9
   have hr9 := Kd.F_take (m := (x3_1 : Int).toNat) hC9 (by omega)
   have hy9 : y102.length = (x3_1 : Int).toNat := (by rw [Ny102.out, List.length_take]; omega)
   rw [← Ny102.out] at hr9
   rw [← hy9] at hcut9
   have HO106 := zm (show Kd.V (Kd.int .i64) 3 _ w.heap.size _ (.slice (some ad101) y102.length y102.length) y102 from Kd.V_mk (by omega) hr9)
   have HC106 := zm (show y102.length ≤ y102.length from by omega)
   clear hr9 hC9 hroom9 hi09 hsz9
   have KY9 := zm hy9
   clear hy9
   replace q9 := eq_true q9
   go_wp2
   go_ret
   exact ⟨_, by first | rfl | (simp [errW_none, errW_some] <;> rfl) | (simp only [← hji3]; first | rfl | (simp [errW_none, errW_some] <;> rfl)) | (simp [*, errW_none, errW_some] <;> rfl), zV HO106.out, zT⟩
def fp_at.f (l0 : List Int) (a1 : Int) : Option (Int) := if a1 < (l0.length : Int) then (if 0 ≤ a1 then (some (rd l0 a1)) else (none)) else (some 0)
theorem fp_at.calls (A0 : Option Addr) (c0 : Nat) (l0 : List Int) (a1 : Int) (r : Int) (w : World) (hr0 : Kd.C (Kd.int .i64) w A0 l0.length l0) (hc0 : l0.length ≤ c0) (h : fp_at.f l0 a1 = some r) :
  Calls Try.prog 95 #[.slice A0 l0.length c0, .int .i64 a1] w fun e w' => e = .returned (.int .i64 r) ∧ Drawn0 w w' := by
 have HR0 := zm hr0
 have HC0 := zm hc0
 clear hr0 hc0
 have H := h; clear h; unfold fp_at.f at H
 by_cases c3 : a1 < (l0.length : Int)
 rotate_left
 ·rw [if_neg c3] at H
  have c3b0 := decide_eq_false c3; clear c3
  obtain rfl := Option.some.inj H
  go_enter Try.func95, Try.ntmps95
  go_wp2
  go_ret
  exact ⟨by first | rfl | (simp; done) | (simp [*]; done), by repeat (first | exact Drawn0.refl _ | apply Drawn0.step)⟩
 rw [if_pos c3] at H
 have c3b0 := decide_eq_true c3; clear c3
 by_cases c4 : 0 ≤ a1
 rotate_left
 ·rw [if_neg c4] at H
  exact absurd H (by simp)
 rw [if_pos c4] at H
 have c4b0 := decide_eq_true c4; clear c4
 obtain rfl := Option.some.inj H
 obtain ⟨p101, q101, ad101, e101, hx101_0⟩ := zI (HR0.out) (a1) zD zD
 cases e101
 go_enter Try.func95, Try.ntmps95
 go_wp2
 go_ret
 exact ⟨by first | rfl | (simp; done) | (simp [*]; done), by repeat (first | exact Drawn0.refl _ | apply Drawn0.step)⟩
def fp_Sub.l0 : Nat → Int → List Int → List Int → List Int → Int → Int → Option (List Int)
 | 0, _, _, _, _, _, _ => none
 | k + 1, x0, x1, x2, x7, x16, x17 => if x17 < x16 then ((fp_at.f x1 x17).bind fun t104 => ((fp_at.f x2 x17).bind fun t105 => (if x0 = 0 then (none) else (if 0 ≤ x17 then (if x17 < (x7.length : Int) then (fp_Sub.l0 k x0 x1 x2 (x7.set (x17 : Int).toNat (Int.tmod (wrap64 ((wrap64 (t104 + x0)) - t105)) x0)) x16 (wrap64 (x17 + 1))) else (none)) else (none))))) else ((fp_Trim.f k x7).bind fun t107 => (some t107))
def fp_Sub.f (k : Nat) (a0 : Int) (l1 : List Int) (l2 : List Int) : Option (List Int) := if 0 ≤ (mx (l1.length : Int) (l2.length : Int)) then (if (mx (l1.length : Int) (l2.length : Int) : Int).toNat ≤ 35184372088832 then ((some (List.replicate (mx (l1.length : Int) (l2.length : Int) : Int).toNat 0 : List Int)).bind fun y101 => (fp_Sub.l0 k a0 l1 l2 y101 (y101.length : Int) 0)) else (none)) else (none)
theorem fp_Sub.mono_l : ∀ k, (∀ y0 y1 y2 y3 y4 y5, LeO (fp_Sub.l0 k y0 y1 y2 y3 y4 y5) (fp_Sub.l0 (k + 1) y0 y1 y2 y3 y4 y5))
 | 0 => fun _ _ _ _ _ _ r h => by simp [fp_Sub.l0] at h
 | k + 1 => by
  have ih0 := fp_Sub.mono_l k
  intro y0 y1 y2 y3 y4 y5
  unfold fp_Sub.l0
  with_reducible repeat' first | exact ih0 _ _ _ _ _ _ | exact fp_Trim.mono _ _ | exact LeO.refl _ | exact LeO.none _ | refine LeO.ite ?_ ?_ | refine LeO.bind ?_ (fun _ => ?_)
theorem fp_Sub.mono : ∀ a0 a1 a2 k, LeO (fp_Sub.f k a0 a1 a2) (fp_Sub.f (k + 1) a0 a1 a2) := by
 intro a0 a1 a2 k
 have ih0 := fp_Sub.mono_l k
 unfold fp_Sub.f
 with_reducible repeat' first | exact ih0 _ _ _ _ _ _ | exact fp_Trim.mono _ _ | exact LeO.refl _ | exact LeO.none _ | refine LeO.ite ?_ ?_ | refine LeO.bind ?_ (fun _ => ?_)
theorem fp_Sub.calls (k : Nat) (a0 : Int) (A1 : Option Addr) (c1 : Nat) (l1 : List Int) (A2 : Option Addr) (c2 : Nat) (l2 : List Int) (r : List Int) (w : World) (hr1 : Kd.C (Kd.int .i64) w A1 l1.length l1) (hc1 : l1.length ≤ c1) (hr2 : Kd.C (Kd.int .i64) w A2 l2.length l2) (hc2 : l2.length ≤ c2) (h : fp_Sub.f k a0 l1 l2 = some r) :
  Calls Try.prog 61 #[.int .i64 a0, .slice A1 l1.length c1, .slice A2 l2.length c2] w fun e w' => ∃ v0_ : Value, e = .returned (v0_) ∧ Kd.V (Kd.int .i64) 3 w' w.heap.size (fun k_ => (w.heap.size ≤ k_)) v0_ r ∧ Below w.heap.size w w' := by
 have HR1 := zm hr1
 have HC1 := zm hc1
 clear hr1 hc1
 have HR2 := zm hr2
 have HC2 := zm hc2
 clear hr2 hc2
 have HB := zm (Below.refl w.heap.size w)
 have H := h; clear h; unfold fp_Sub.f at H
 obtain ⟨ji4, hji4⟩ : ∃ j_ : Int, (mx (l1.length : Int) (l2.length : Int)) = j_ := ⟨_, rfl⟩
 first | rw [hji4] at H | simp only [hji4] at H
 (try (have hji4l : 0 ≤ ji4 := by (rw [← hji4]; unfold mx; (repeat' split) <;> omega)))
 (try (have hji4m : 0 ≤ ji4 := by omega))
 have hji4_ : (if (l1.length : Int) < (l2.length : Int) then (l2.length : Int) else (l1.length : Int)) = ji4 := hji4
 (try (have hji4_n := hji4_; simp only [Int.ofNat_lt] at hji4_n))
 by_cases c5 : 0 ≤ (ji4)
 rotate_left
 ·rw [if_neg c5] at H
  exact absurd H (by simp)
 rw [if_pos c5] at H
 have c5b0 := eq_true c5; have c5b1 := decide_eq_true c5; clear c5
 by_cases c6 : (ji4 : Int).toNat ≤ 35184372088832
 rotate_left
 ·rw [if_neg c6] at H
  exact absurd H (by simp)
 rw [if_pos c6] at H
 have c6b0 := eq_true c6; have c6b1 := decide_eq_true c6; clear c6
 obtain ⟨y101, Ny101, H⟩ := zY H
 have H' := zm H
 clear H
 go_enter Try.func61, Try.ntmps61
 go_wp2_with (first | ((with_reducible refine gate_dst (N := 14) rfl ?_); refine Kd.R_make (Kd.int .i64) _ 3 rfl (N := 14) rfl 25 _ _ rfl ji4 rfl rfl Try.underlying25 (.int .i64 0) 8 info3 rfl (by decide) (by omega) 0 (ok := fun _ => True) (okp := fun _ => True) rfl (fun _ hk => hk) trivial zD (Nat.le_trans (Nat.mul_le_mul_right _ (zD : ji4.toNat ≤ 35184372088832)) (by omega)) (Below.refl _ _) (Nat.le_refl _) ?_; intro v102 w7 ho8 hb hg_ hnew_; clear hg_ hnew_; (first | rw [← Ny101.out] at ho8 | (simp only [Int.reduceToNat] at ho8; rw [← Ny101.out] at ho8)); have HO103 := zm (Kd.R_lower (Kd.R_newM (M := fun k_ => (w.heap.size ≤ k_)) ho8 (zS HB) (fun k_ h_ => h_)) (zS HB)); replace HB := zBb HB hb; clear hb ho8; obtain ⟨Ao9, co9, eo9⟩ := Kd.R_slice HO103.out; subst eo9))
 go_loopg [17] k (fun kq v17 w' => ∃ (x7_1 : List Int) (x17_1 : Int), v17 = .int .i64 x17_1 ∧ Aside0 (fp_Sub.l0 kq a0 l1 l2 x7_1 (y101.length : Int) x17_1 = some r) ∧ Aside0 (kq ≤ k) ∧ Aside0 (Kd.R (Kd.int .i64) 3 w' w.heap.size (fun k_ => (w.heap.size ≤ k_)) (.slice Ao9 y101.length co9) x7_1) ∧ Aside0 (Below w.heap.size w w'))
 case atStart => exact ⟨(y101), (0), zX, H', ⟨Nat.le_refl _⟩, ⟨zR (Kd.R_mono HO103.out (fun _ hk => hk.1))⟩, ⟨zT⟩⟩
 case round =>
  clear H'
  obtain ⟨x7_1, x17_1, rfl, HA, HK1, HO_7, HB⟩ := hrel
  have hl7_1 := (Kd.R_reads' HO_7.out).1
  rw [hl7_1] at HO_7
  (try simp only [hl7_1])
  cases gk with
  | zero => exact absurd HA.out (by simp [fp_Sub.l0])
  | succ k1 =>
   have H := HA.out
   clear HA
   simp only [fp_Sub.l0] at H
   by_cases c10 : x17_1 < (y101.length : Int)
   rotate_left
   ·rw [if_neg c10] at H
    have c10b0 : decide (x17_1 < (y101.length : Int)) = false := decide_eq_false c10
    (try (have c10b0_hl7_1 := c10b0; simp only [hl7_1] at c10b0_hl7_1))
    clear c10
    obtain ⟨t107, A19, H⟩ := zO H
    obtain rfl := Option.some.inj H
    go_wp2_with (first | ((with_reducible refine gate_callee (f := 92) rfl ?_); refine zG (some 36) Try.func92 #[.slice Ao9 x7_1.length co9] ?_; (with_reducible refine (fp_Trim.calls k1 (fun k_ => some k_ = (.slice Ao9 x7_1.length co9 : Value).ownBlock) _ _ x7_1 t107 _ (Kd.R_V (Kd.R_tight rfl (HO_7.out))) A19.out).mono ?_); rintro e w20 ⟨v108, rfl, ho0, hb⟩; refine ⟨_, rfl, ?_⟩; have HO109 := zWV (fun k_ => (w.heap.size ≤ k_)) ho0 HB (fun k_ hk_ => Or.elim hk_ (fun hs_ => ((HO_7.out).1 k_ hs_.symm)) (fun hn_ => (Nat.le_trans (zS HB) hn_))); replace HO_7 := zRb HO_7 hb; replace HB := zBb HB hb))
    go_ret
    exact ⟨_, by first | rfl | (simp [errW_none, errW_some] <;> rfl) | (simp only [← hji4]; first | rfl | (simp [errW_none, errW_some] <;> rfl)) | (simp [*, errW_none, errW_some] <;> rfl), zV HO109.out, zT⟩
   rw [if_pos c10] at H
   have c10b0 : decide (x17_1 < (y101.length : Int)) = true := decide_eq_true c10
   (try (have c10b0_hl7_1 := c10b0; simp only [hl7_1] at c10b0_hl7_1))
   clear c10
   obtain ⟨t104, A11, H⟩ := zO H
   obtain ⟨t105, A12, H⟩ := zO H
   by_cases c13 : a0 = 0
   ·rw [if_pos c13] at H
    exact absurd H (by simp)
   rw [if_neg c13] at H
   obtain ⟨c13b0, c13b1⟩ := zU c13
   by_cases c14 : 0 ≤ x17_1
   rotate_left
   ·rw [if_neg c14] at H
    exact absurd H (by simp)
   rw [if_pos c14] at H
   have c14b0 := decide_eq_true c14; clear c14
   by_cases c15 : x17_1 < (x7_1.length : Int)
   rotate_left
   ·rw [if_neg c15] at H
    exact absurd H (by simp)
   rw [if_pos c15] at H
   have c15b0 : decide (x17_1 < (x7_1.length : Int)) = true := decide_eq_true c15
   (try (have c15b0_hl7_1 := c15b0; simp only [hl7_1] at c15b0_hl7_1))
   clear c15
   obtain ⟨y106, Ny106⟩ := zA ((x7_1.set (x17_1 : Int).toNat (Int.tmod (wrap64 ((wrap64 (t104 + a0)) - t105)) a0)) : List Int); rw [← Ny106.out] at H
   have H' := zm H
   clear H
   go_wp2_with (first | ((with_reducible refine gate_callee (f := 95) rfl ?_); refine zG (some 24) Try.func95 #[.slice A1 l1.length c1, .int .i64 x17_1] ?_; (with_reducible refine (fp_at.calls _ _ l1 x17_1 t104 _ (zC (Kd.C_below HR1.out HB.out)) HC1.out A11.out).mono ?_); rintro e w' ⟨rfl, ⟨nd, rfl⟩⟩; refine ⟨_, rfl, ?_⟩; (try (rw [drewN_self wr]; generalize hq_ : World.drewN wr _ = wr; have n0_ : Aside0 (Kd.R (Kd.int .i64) 3 wr w.heap.size (fun k_ => (w.heap.size ≤ k_)) (.slice Ao9 x7_1.length co9) x7_1) := ⟨by rw [← hq_]; exact (zR HO_7.out)⟩; have n1_ : Aside0 (Below w.heap.size w wr) := ⟨by rw [← hq_]; exact (zT)⟩; clear HO_7 HB hq_; have HO_7 := n0_; have HB := n1_; clear n0_ n1_))) | ((with_reducible refine gate_callee (f := 95) rfl ?_); refine zG (some 29) Try.func95 #[.slice A2 l2.length c2, .int .i64 x17_1] ?_; (with_reducible refine (fp_at.calls _ _ l2 x17_1 t105 _ (zC (Kd.C_below HR2.out HB.out)) HC2.out A12.out).mono ?_); rintro e w' ⟨rfl, ⟨nd, rfl⟩⟩; refine ⟨_, rfl, ?_⟩; (try (rw [drewN_self wr]; generalize hq_ : World.drewN wr _ = wr; have n0_ : Aside0 (Kd.R (Kd.int .i64) 3 wr w.heap.size (fun k_ => (w.heap.size ≤ k_)) (.slice Ao9 x7_1.length co9) x7_1) := ⟨by rw [← hq_]; exact (zR HO_7.out)⟩; have n1_ : Aside0 (Below w.heap.size w wr) := ⟨by rw [← hq_]; exact (zT)⟩; clear HO_7 HB hq_; have HO_7 := n0_; have HB := n1_; clear n0_ n1_)); have p16 : 0 ≤ (x17_1 : Int) := zD; have q16 : (x17_1 : Int) < ((x7_1.length : Int) : Int) := zD; obtain ⟨go16, co16, eo16, gb16, gl16, cl16, HG16⟩ := Kd.R_form HO_7.out (by omega); (first | cases eo16 | (injection eo16 with ea_ en_ ec_; (first | subst ea_ | (injection ea_ with ea_; subst ea_)); subst ec_; clear en_)); have GB16 := zm gb16; have GG16 := zm HG16; clear gb16 gl16 HG16; obtain ⟨hx16_0, hf16_0⟩ := Kd.R_celln 0 HO_7.out (x17_1 : Int) p16 q16; replace p16 := eq_true p16; replace q16 := eq_true q16; obtain ⟨hy17_, hz17_⟩ := Kd.R_celln 0 HO_7.out (x17_1 : Int) zD zD; have HP17 := Kd.R_putg HO_7.out (x17_1 : Int) (Int.tmod (wrap64 ((wrap64 (t104 + a0)) - t105)) a0)) | ((with_reducible refine gate_store (t := 3) (p := 33) rfl ?_); refine store_event (t := 3) (p := 33) (v := ?vo_w18) (w1 := (wr.setCell ⟨go16, (x17_1 : Int).toNat, none⟩ (.int .i64 (Int.tmod (wrap64 ((wrap64 (t104 + a0)) - t105)) a0)))) ?hg ?ho ?hn ?hr ?_; (case ho => rfl); (case hg => rfl); (case hn => rfl); (case hr => go_simp <;> rfl); intro w18 hw; have hg : wr.grownBy w18 (some go16) := (by rw [hw]; exact HP17.2); have hp_ : Kd.R (Kd.int .i64) 3 w18 w.heap.size (fun k_ => (w.heap.size ≤ k_)) (.slice (some ⟨go16, 0, none⟩) x7_1.length co9) y106 := (by rw [hw, Ny106.out]; exact HP17.1); clear HP17; replace HO_7 := zm (hp_); replace HB := zm ((by rw [hw]; exact below_set (HB.out) GB16.out : Below w.heap.size w w18)); clear hg hw hp_))
   (try simp only [← hl7_1])
   (first | go_roundg k1 | (simp only [show ∀ g_ : Nat, ({ block := g_, off := (ji4).toNat } : Addr) = ({ block := g_, off := 0 } : Addr).add (ji4).toNat from fun g_ => by simp [Addr.add]]; go_roundg k1))
   case measure => have := HK1.out; omega
   case rel => exact ⟨(y106), (wrap64 (x17_1 + 1)), zX, H', ⟨by have := HK1.out; omega⟩, ⟨by (try simp only [hl7_1]); (with_reducible repeat (first | apply Kd.R_alloc | apply Kd.R_drewN | apply Kd.R_drew)); exact HO_7.out⟩, ⟨zT⟩⟩
def fp_Mod.f (a0 : Int) (a1 : Int) : Option (Int) := if a0 = 0 then (none) else (if (Int.tmod a1 a0) < 0 then (some (wrap64 ((Int.tmod a1 a0) + a0))) else (some (Int.tmod a1 a0)))
theorem fp_Mod.calls (a0 : Int) (a1 : Int) (r : Int) (w : World) (h : fp_Mod.f a0 a1 = some r) :
  Calls Try.prog 119 #[.int .i64 a0, .int .i64 a1] w fun e w' => e = .returned (.int .i64 r) ∧ Drawn0 w w' := by
 have H := h; clear h; unfold fp_Mod.f at H
 by_cases c3 : a0 = 0
 ·rw [if_pos c3] at H
  exact absurd H (by simp)
 rw [if_neg c3] at H
 obtain ⟨c3b0, c3b1⟩ := zU c3
 by_cases c4 : (Int.tmod a1 a0) < 0
 ·rw [if_pos c4] at H
  have c4b0 := decide_eq_true c4; clear c4
  obtain rfl := Option.some.inj H
  go_enter Try.func119, Try.ntmps119
  go_wp2
  go_ret
  exact ⟨by first | rfl | (simp; done) | (simp [*]; done), by repeat (first | exact Drawn0.refl _ | apply Drawn0.step)⟩
 rw [if_neg c4] at H
 have c4b0 := decide_eq_false c4; clear c4
 obtain rfl := Option.some.inj H
 go_enter Try.func119, Try.ntmps119
 go_wp2
 go_ret
 exact ⟨by first | rfl | (simp; done) | (simp [*]; done), by repeat (first | exact Drawn0.refl _ | apply Drawn0.step)⟩
def fp_Inv.l0 : Nat → Int → Int → Int → Int → Int → Option (Int)
 | 0, _, _, _, _, _ => none
 | k + 1, x0, x5, x6, x7, x8 => if x6 > 0 then (if x6 = 0 then (none) else (fp_Inv.l0 k x0 x6 (wrap64 (x5 - (wrap64 ((wrap64 (Int.tdiv x5 x6)) * x6)))) x8 (wrap64 (x7 - (wrap64 ((wrap64 (Int.tdiv x5 x6)) * x8)))))) else ((fp_Mod.f x0 x7).bind fun t101 => (some t101))
def fp_Inv.f (k : Nat) (a0 : Int) (a1 : Int) : Option (Int) := fp_Inv.l0 k a0 a0 a1 0 1
theorem fp_Inv.mono_l : ∀ k, (∀ y0 y1 y2 y3 y4, LeO (fp_Inv.l0 k y0 y1 y2 y3 y4) (fp_Inv.l0 (k + 1) y0 y1 y2 y3 y4))
 | 0 => fun _ _ _ _ _ r h => by simp [fp_Inv.l0] at h
 | k + 1 => by
  have ih0 := fp_Inv.mono_l k
  intro y0 y1 y2 y3 y4
  unfold fp_Inv.l0
  with_reducible repeat' first | exact ih0 _ _ _ _ _ | exact LeO.refl _ | exact LeO.none _ | refine LeO.ite ?_ ?_ | refine LeO.bind ?_ (fun _ => ?_)
theorem fp_Inv.mono : ∀ a0 a1 k, LeO (fp_Inv.f k a0 a1) (fp_Inv.f (k + 1) a0 a1) := by
 intro a0 a1 k
 have ih0 := fp_Inv.mono_l k
 unfold fp_Inv.f
 with_reducible repeat' first | exact ih0 _ _ _ _ _ | exact LeO.refl _ | exact LeO.none _ | refine LeO.ite ?_ ?_ | refine LeO.bind ?_ (fun _ => ?_)
theorem fp_Inv.calls (k : Nat) (a0 : Int) (a1 : Int) (r : Int) (w : World) (h : fp_Inv.f k a0 a1 = some r) :
  Calls Try.prog 114 #[.int .i64 a0, .int .i64 a1] w fun e w' => e = .returned (.int .i64 r) ∧ Drawn0 w w' := by
 have H := h; clear h; unfold fp_Inv.f at H
 have H' := zm H
 clear H
 go_enter Try.func114, Try.ntmps114
 go_wp2
 go_loopg [5, 6, 7, 8] k (fun kq v5 v6 v7 v8 w' => ∃ (x5_1 : Int) (x6_1 : Int) (x7_1 : Int) (x8_1 : Int), v5 = .int .i64 x5_1 ∧ v6 = .int .i64 x6_1 ∧ v7 = .int .i64 x7_1 ∧ v8 = .int .i64 x8_1 ∧ Aside0 (fp_Inv.l0 kq a0 x5_1 x6_1 x7_1 x8_1 = some r) ∧ Aside0 (kq ≤ k) ∧ Drawn0 w w')
 case atStart => exact ⟨(a0), (a1), (0), (1), zX, zX, zX, zX, H', ⟨Nat.le_refl _⟩, by repeat (first | exact Drawn0.refl _ | apply Drawn0.step)⟩
 case round =>
  clear H'
  obtain ⟨x5_1, x6_1, x7_1, x8_1, rfl, rfl, rfl, rfl, HA, HK1, ⟨m1, rfl⟩⟩ := hrel
  cases gk with
  | zero => exact absurd HA.out (by simp [fp_Inv.l0])
  | succ k1 =>
   have H := HA.out
   clear HA
   simp only [fp_Inv.l0] at H
   by_cases c3 : x6_1 > 0
   rotate_left
   ·rw [if_neg c3] at H
    have c3b0 := decide_eq_false c3; clear c3
    obtain ⟨t101, A5, H⟩ := zO H
    obtain rfl := Option.some.inj H
    go_wp2_with (first | ((with_reducible refine gate_callee (f := 119) rfl ?_); refine zG (some 31) Try.func119 #[.int .i64 a0, .int .i64 x7_1] ?_; (with_reducible refine (fp_Mod.calls a0 x7_1 t101 _ A5.out).mono ?_); rintro e w' ⟨rfl, ⟨nd, rfl⟩⟩; refine ⟨_, rfl, ?_⟩))
    go_ret
    exact ⟨by first | rfl | (simp; done) | (simp [*]; done), by repeat (first | exact Drawn0.refl _ | apply Drawn0.step)⟩
   rw [if_pos c3] at H
   have c3b0 := decide_eq_true c3; clear c3
   by_cases c4 : x6_1 = 0
   ·rw [if_pos c4] at H
    exact absurd H (by simp)
   rw [if_neg c4] at H
   obtain ⟨c4b0, c4b1⟩ := zU c4
   have H' := zm H
   clear H
   go_wp2
   go_roundg k1
   case measure => have := HK1.out; omega
   case rel => exact ⟨(x6_1), (wrap64 (x5_1 - (wrap64 ((wrap64 (Int.tdiv x5_1 x6_1)) * x6_1)))), (x8_1), (wrap64 (x7_1 - (wrap64 ((wrap64 (Int.tdiv x5_1 x6_1)) * x8_1)))), zX, zX, zX, zX, H', ⟨by have := HK1.out; omega⟩, by repeat (first | exact Drawn0.refl _ | apply Drawn0.step)⟩
mutual
def fp_DivMod.l0 : Nat → Int → List Int → List Int → Int → List Int → Int → Int → Option (List Int × List Int)
 | 0, _, _, _, _, _, _, _ => none
 | k + 1, x0, x2, x8, x9, x10, x11, x12 => if x12 ≥ 0 then (if 0 ≤ (wrap64 ((wrap64 (x12 + x9)) - 1)) then (if (wrap64 ((wrap64 (x12 + x9)) - 1)) < (x8.length : Int) then (if x0 = 0 then (none) else (if 0 ≤ x12 then (if x12 < (x10.length : Int) then (fp_DivMod.l1 k x0 x2 x8 x9 (x10.set (x12 : Int).toNat (Int.tmod (wrap64 ((rd x8 (wrap64 ((wrap64 (x12 + x9)) - 1))) * x11)) x0)) x11 x12 (Int.tmod (wrap64 ((rd x8 (wrap64 ((wrap64 (x12 + x9)) - 1))) * x11)) x0) x2 (x2.length : Int) 0) else (none)) else (none))) else (none)) else (none)) else ((fp_Trim.f k x10).bind fun t112 => (if 0 ≤ (wrap64 (x9 - 1)) then (if (wrap64 (x9 - 1)) ≤ (x8.length : Int) then ((fp_Trim.f k (x8.take ((wrap64 (x9 - 1)) : Int).toNat)).bind fun t120 => (some (t112, t120))) else (none)) else (none)))
def fp_DivMod.l1 : Nat → Int → List Int → List Int → Int → List Int → Int → Int → Int → List Int → Int → Int → Option (List Int × List Int)
 | 0, _, _, _, _, _, _, _, _, _, _, _ => none
 | k + 1, x0, x2, x8, x9, x10, x11, x12, x13, x62, x63, x64 => if x64 < x63 then (if 0 ≤ x64 then (if x64 < (x62.length : Int) then (if 0 ≤ (wrap64 (x12 + x64)) then (if (wrap64 (x12 + x64)) < (x8.length : Int) then ((fp_Mod.f x0 (wrap64 ((rd x8 (wrap64 (x12 + x64))) - (wrap64 (x13 * (rd x62 x64)))))).bind fun t127 => (fp_DivMod.l1 k x0 x2 (x8.set ((wrap64 (x12 + x64)) : Int).toNat t127) x9 x10 x11 x12 x13 x62 x63 (wrap64 (x64 + 1)))) else (none)) else (none)) else (none)) else (none)) else (fp_DivMod.l0 k x0 x2 x8 x9 x10 x11 (wrap64 (x12 - 1)))
end
def fp_DivMod.f (k : Nat) (a0 : Int) (l1 : List Int) (l2 : List Int) : Option (List Int × List Int) := (some (([] : List Int) : List Int)).bind fun y101 => (if y101.length + l1.length < 17592186044416 then ((some (y101 ++ l1 : List Int)).bind fun y104 => (if (l1.length : Int) < (l2.length : Int) then (some (([] : List Int), y104)) else (if 0 ≤ (wrap64 ((wrap64 ((l1.length : Int) - (l2.length : Int))) + 1)) then (if (wrap64 ((wrap64 ((l1.length : Int) - (l2.length : Int))) + 1) : Int).toNat ≤ 35184372088832 then (if 0 ≤ (wrap64 ((l2.length : Int) - 1)) then (if (wrap64 ((l2.length : Int) - 1)) < (l2.length : Int) then ((fp_Inv.f k a0 (rd l2 (wrap64 ((l2.length : Int) - 1)))).bind fun t111 => (fp_DivMod.l0 k a0 l2 y104 (l2.length : Int) (List.replicate (wrap64 ((wrap64 ((l1.length : Int) - (l2.length : Int))) + 1) : Int).toNat 0) t111 (wrap64 ((l1.length : Int) - (l2.length : Int))))) else (none)) else (none)) else (none)) else (none)))) else (none))
theorem fp_DivMod.mono_l : ∀ k, (∀ y0 y1 y2 y3 y4 y5 y6, LeO (fp_DivMod.l0 k y0 y1 y2 y3 y4 y5 y6) (fp_DivMod.l0 (k + 1) y0 y1 y2 y3 y4 y5 y6)) ∧ (∀ y0 y1 y2 y3 y4 y5 y6 y7 y8 y9 y10, LeO (fp_DivMod.l1 k y0 y1 y2 y3 y4 y5 y6 y7 y8 y9 y10) (fp_DivMod.l1 (k + 1) y0 y1 y2 y3 y4 y5 y6 y7 y8 y9 y10))
 | 0 => ⟨fun _ _ _ _ _ _ _ r h => by simp [fp_DivMod.l0] at h, fun _ _ _ _ _ _ _ _ _ _ _ r h => by simp [fp_DivMod.l1] at h⟩
 | k + 1 => by
  obtain ⟨ih0, ih1⟩ := fp_DivMod.mono_l k
  refine ⟨?_, ?_⟩
  ·intro y0 y1 y2 y3 y4 y5 y6
   unfold fp_DivMod.l0
   with_reducible repeat' first | exact ih0 _ _ _ _ _ _ _ | exact ih1 _ _ _ _ _ _ _ _ _ _ _ | exact fp_Inv.mono _ _ _ | exact fp_Trim.mono _ _ | exact LeO.refl _ | exact LeO.none _ | refine LeO.ite ?_ ?_ | refine LeO.bind ?_ (fun _ => ?_)
  intro y0 y1 y2 y3 y4 y5 y6 y7 y8 y9 y10
  unfold fp_DivMod.l1
  with_reducible repeat' first | exact ih0 _ _ _ _ _ _ _ | exact ih1 _ _ _ _ _ _ _ _ _ _ _ | exact fp_Inv.mono _ _ _ | exact fp_Trim.mono _ _ | exact LeO.refl _ | exact LeO.none _ | refine LeO.ite ?_ ?_ | refine LeO.bind ?_ (fun _ => ?_)
theorem fp_DivMod.mono : ∀ a0 a1 a2 k, LeO (fp_DivMod.f k a0 a1 a2) (fp_DivMod.f (k + 1) a0 a1 a2) := by
 intro a0 a1 a2 k
 obtain ⟨ih0, ih1⟩ := fp_DivMod.mono_l k
 unfold fp_DivMod.f
 with_reducible repeat' first | exact ih0 _ _ _ _ _ _ _ | exact ih1 _ _ _ _ _ _ _ _ _ _ _ | exact fp_Inv.mono _ _ _ | exact fp_Trim.mono _ _ | exact LeO.refl _ | exact LeO.none _ | refine LeO.ite ?_ ?_ | refine LeO.bind ?_ (fun _ => ?_)
def fp_DivMod.T17 : Bool × List (List Nat × List Nat) := (true, [([], []), ([0], [0]), ([], []), ([], []), ([3], [3]), ([2, 4], [2, 4]), ([5, 1], [5]), ([1, 6, 0, 1], [1]), ([6, 7, 0, 1, 2, 3, 4, 5, 6, 7], [6])])
def fp_DivMod.B17 : List Nat := [0, 1, 0, 0, 8, 28, 63, 127, 255]
theorem fp_DivMod.tab17 : rtab .any (opsOf Try.f106 17) = fp_DivMod.T17 := by kernel_rfl
theorem fp_DivMod.bits17 : waitsOk fp_DivMod.T17.2 fp_DivMod.B17 = true := by kernel_rfl
theorem fp_DivMod.calls (k : Nat) (a0 : Int) (A1 : Option Addr) (c1 : Nat) (l1 : List Int) (A2 : Option Addr) (c2 : Nat) (l2 : List Int) (r1 : List Int) (r2 : List Int) (w : World) (hr1 : Kd.C (Kd.int .i64) w A1 l1.length l1) (hc1 : l1.length ≤ c1) (hr2 : Kd.C (Kd.int .i64) w A2 l2.length l2) (hc2 : l2.length ≤ c2) (h : fp_DivMod.f k a0 l1 l2 = some (r1, r2)) :
  Calls Try.prog 106 #[.int .i64 a0, .slice A1 l1.length c1, .slice A2 l2.length c2] w fun e w' => ∃ v0_ v1_ : Value, e = .returned (.tuple #[v0_, v1_]) ∧ Kd.V (Kd.int .i64) 3 w' w.heap.size (fun k_ => (w.heap.size ≤ k_)) v0_ r1 ∧ Kd.V (Kd.int .i64) 3 w' w.heap.size (fun k_ => (w.heap.size ≤ k_)) v1_ r2 ∧ Below w.heap.size w w' := by
 have HR1 := zm hr1
 have HC1 := zm hc1
 clear hr1 hc1
 have HR2 := zm hr2
 have HC2 := zm hc2
 clear hr2 hc2
 have HB := zm (Below.refl w.heap.size w)
 have H := h; clear h; unfold fp_DivMod.f at H
 obtain ⟨y101, Ny101, H⟩ := zY H
 by_cases c4 : y101.length + l1.length < 17592186044416
 rotate_left
 ·rw [if_neg c4] at H
  exact absurd H (by simp)
 rw [if_pos c4] at H
 have LMc4 := zm c4
 clear c4
 obtain ⟨y104, Ny104, H⟩ := zY H
 by_cases c5 : (l1.length : Int) < (l2.length : Int)
 ·rw [if_pos c5] at H
  have c5b0 : decide ((l1.length : Int) < (l2.length : Int)) = true := decide_eq_true c5
  have c5b1 : decide (l1.length < l2.length) = true := decide_eq_true (Int.ofNat_lt.mp c5)
  clear c5
  simp only [Option.some.injEq, Prod.mk.injEq] at H
  obtain ⟨rfl, rfl⟩ := H
  go_enter Try.func106, Try.ntmps106
  go_wp2_with (first | ((with_reducible refine gate_dst (N := 16) rfl ?_); refine Kd.R_lit (Kd.int .i64) _ 3 ?hg (N := 16) ?hd (xs := ([] : List Int)) (inner := []) (ok := fun _ => True) (okp := fun _ => True) ?hr ?hp (fun _ hk => hk) trivial (Below.refl _ _) (Nat.le_refl _) (by simp) ?_; (case hd => rfl); (case hg => rfl); (case hr => go_simp <;> rfl); (case hp => exact (Reps.none _ _)); intro v102 w6 ho7 hb hg_ hnew_; clear hg_ hnew_; (first | rw [← Ny101.out] at ho7 | (simp only [Int.reduceToNat] at ho7; rw [← Ny101.out] at ho7)); have HO103 := zm (Kd.R_lower (Kd.R_newM (M := fun k_ => (w.heap.size ≤ k_)) ho7 (zS HB) (fun k_ h_ => h_)) (zS HB)); replace HB := zBb HB hb; clear hb ho7) | ((with_reducible refine gate_builtin (b := .append) (xs := #[.tmp 16, .tmp 17]) rfl ?_); at_builtin; refine Kd.R_append_rows (Kd.int .i64) (w0 := w) w.heap.size rfl (.tmp 16) (.tmp 17) 25 3 (.int .i64 0) 8 rfl Try.underlying25 info3 rfl (by decide) (by omega) v102 y101 l1 _ _ _ (fun k_ => (w.heap.size ≤ k_)) (fun _ => False) rfl rfl ?aO ?aR (fun _ _ h => h) (fun _ h => h.elim) ?aF ?aB ?aS ?aL ?_; (case aR => exact zC (Kd.C_below HR1.out HB.out)); (case aB => exact (zT)); (case aF => exact (fun k_ hk => (Nat.le_trans (zS HB) hk))); (case aO => exact (zR (Kd.R_mono HO103.out (fun _ hk => hk.1)))); (case aS => exact (zS HB)); (case aL => have := LMc4.out; omega); intro v105 w8 ho hb hg hat; rw [← Ny104.out] at ho; replace HB := zm (hb); have HO106 := zm (ho); clear HO103; clear ho hb hg hat))
  go_ret2
  exact ⟨_, _, zQ, zL, Kd.R_V (zR HO106.out), zT⟩
 rw [if_neg c5] at H
 have c5b0 : decide ((l1.length : Int) < (l2.length : Int)) = false := decide_eq_false c5
 have c5b1 : decide (l1.length < l2.length) = false := decide_eq_false (fun h => c5 (Int.ofNat_lt.mpr h))
 clear c5
 obtain ⟨ji9, hji9⟩ : ∃ j_ : Int, (wrap64 ((wrap64 ((l1.length : Int) - (l2.length : Int))) + 1)) = j_ := ⟨_, rfl⟩
 first | rw [hji9] at H | simp only [hji9] at H
 have hji9w : (IntKind.i64.wrap ((wrap64 ((l1.length : Int) - (l2.length : Int))) + 1)) = ji9 := (i64_w _).trans hji9
 by_cases c10 : 0 ≤ (ji9)
 rotate_left
 ·rw [if_neg c10] at H
  exact absurd H (by simp)
 rw [if_pos c10] at H
 have c10b0 := eq_true c10; have c10b1 := decide_eq_true c10; clear c10
 by_cases c11 : (ji9 : Int).toNat ≤ 35184372088832
 rotate_left
 ·rw [if_neg c11] at H
  exact absurd H (by simp)
 rw [if_pos c11] at H
 have c11b0 := eq_true c11; have c11b1 := decide_eq_true c11; clear c11
 obtain ⟨y107, Ny107⟩ := zA ((List.replicate (ji9 : Int).toNat 0) : List Int); rw [← Ny107.out] at H
 obtain ⟨ji12, hji12⟩ : ∃ j_ : Int, (wrap64 ((l2.length : Int) - 1)) = j_ := ⟨_, rfl⟩
 first | rw [hji12] at H | simp only [hji12] at H
 have hji12w : (IntKind.i64.wrap ((l2.length : Int) - 1)) = ji12 := (i64_w _).trans hji12
 by_cases c13 : 0 ≤ (ji12)
 rotate_left
 ·rw [if_neg c13] at H
  exact absurd H (by simp)
 rw [if_pos c13] at H
 have c13b0 := decide_eq_true c13; clear c13
 by_cases c14 : (ji12) < (l2.length : Int)
 rotate_left
 ·rw [if_neg c14] at H
  exact absurd H (by simp)
 rw [if_pos c14] at H
 have c14b0 := decide_eq_true c14; clear c14
 obtain ⟨t111, A15, H⟩ := zO H
 have H' := zm H
 clear H
 go_enter Try.func106, Try.ntmps106
 go_wp2_with (first | ((with_reducible refine gate_dst (N := 16) rfl ?_); refine Kd.R_lit (Kd.int .i64) _ 3 ?hg (N := 16) ?hd (xs := ([] : List Int)) (inner := []) (ok := fun _ => True) (okp := fun _ => True) ?hr ?hp (fun _ hk => hk) trivial (Below.refl _ _) (Nat.le_refl _) (by simp) ?_; (case hd => rfl); (case hg => rfl); (case hr => go_simp <;> rfl); (case hp => exact (Reps.none _ _)); intro v102 w16 ho17 hb hg_ hnew_; clear hg_ hnew_; (first | rw [← Ny101.out] at ho17 | (simp only [Int.reduceToNat] at ho17; rw [← Ny101.out] at ho17)); have HO103 := zm (Kd.R_lower (Kd.R_newM (M := fun k_ => (w.heap.size ≤ k_)) ho17 (zS HB) (fun k_ h_ => h_)) (zS HB)); replace HB := zBb HB hb; clear hb ho17) | ((with_reducible refine gate_builtin (b := .append) (xs := #[.tmp 16, .tmp 17]) rfl ?_); at_builtin; refine Kd.R_append_rows (Kd.int .i64) (w0 := w) w.heap.size rfl (.tmp 16) (.tmp 17) 25 3 (.int .i64 0) 8 rfl Try.underlying25 info3 rfl (by decide) (by omega) v102 y101 l1 _ _ _ (fun k_ => (w.heap.size ≤ k_)) (fun _ => False) rfl rfl ?aO ?aR (fun _ _ h => h) (fun _ h => h.elim) ?aF ?aB ?aS ?aL ?_; (case aR => exact zC (Kd.C_below HR1.out HB.out)); (case aB => exact (zT)); (case aF => exact (fun k_ hk => (Nat.le_trans (zS HB) hk))); (case aO => exact (zR (Kd.R_mono HO103.out (fun _ hk => hk.1)))); (case aS => exact (zS HB)); (case aL => have := LMc4.out; omega); intro v105 w18 ho hb hg hat; rw [← Ny104.out] at ho; replace HB := zm (hb); have HO106 := zm (ho); clear HO103; clear ho hb hg hat) | ((with_reducible refine gate_dst (N := 31) rfl ?_); refine Kd.R_make (Kd.int .i64) _ 3 rfl (N := 31) rfl 25 _ _ rfl ji9 rfl rfl Try.underlying25 (.int .i64 0) 8 info3 rfl (by decide) (by omega) 0 (ok := fun _ => True) (okp := fun _ => True) rfl (fun _ hk => hk) trivial zD (Nat.le_trans (Nat.mul_le_mul_right _ (zD : ji9.toNat ≤ 35184372088832)) (by omega)) (Below.refl _ _) (Nat.le_refl _) ?_; intro v108 w19 ho20 hb hg_ hnew_; clear hg_ hnew_; (first | rw [← Ny107.out] at ho20 | (simp only [Int.reduceToNat] at ho20; rw [← Ny107.out] at ho20)); have HO109 := zm (Kd.R_lower (Kd.R_new' (Kd.R_newM (M := fun k_ => (w.heap.size ≤ k_)) ho20 (zS HB) (fun k_ h_ => h_)) (Kd.R_lt (zR HO106.out))) (zS HB)); replace HO106 := zm (Kd.R_elder' (zR HO106.out) (Kd.R_base ho20) hb); replace HB := zBb HB hb; clear hb ho20; have p110 : 0 ≤ ((ji12) : Int) := zD; have q110 : (ji12) < (l2.length : Int) := zD; obtain ⟨ad110, e110, hx110_0⟩ := Kd.at_int HR2.out (ji12) p110 q110; cases e110; replace hx110_0 := (HB.out.cell (World.block_lt_of_cell? w _ hx110_0)).trans hx110_0; replace p110 := eq_true p110; replace q110 := eq_true q110) | ((with_reducible refine gate_callee (f := 114) rfl ?_); refine zH (some 38) Try.func114 #[.int .i64 a0, .int .i64 (rd l2 (ji12))] rfl (by (try simp only [List.map_toArray, List.map_cons, List.map_nil]); first | done | (simp only [hji12]; rfl) | rfl | (simp only [List.length_drop, List.length_take]; rfl)) ?_; (with_reducible refine (fp_Inv.calls k a0 (rd l2 (ji12)) t111 _ A15.out).mono ?_); rintro e w' ⟨rfl, ⟨nd, rfl⟩⟩; refine ⟨_, rfl, ?_⟩))
 go_loopg [12] k (fun kq v12 w' => ∃ (x8_1 : List Int) (x10_1 : List Int) (x12_1 : Int), v12 = .int .i64 x12_1 ∧ Aside0 (fp_DivMod.l0 kq a0 l2 x8_1 (l2.length : Int) x10_1 t111 x12_1 = some (r1, r2)) ∧ Aside0 (kq ≤ k) ∧ Aside0 (Kd.R (Kd.int .i64) 3 w' w.heap.size (fun k_ => (w.heap.size ≤ k_) ∧ some k_ ≠ (v108 : Value).ownBlock) v105 x8_1) ∧ Aside0 (Kd.R (Kd.int .i64) 3 w' w.heap.size (fun k_ => (w.heap.size ≤ k_) ∧ some k_ ≠ (v105 : Value).ownBlock) v108 x10_1) ∧ Aside0 (Below w.heap.size w w'))
 case atStart => exact ⟨(y104), (y107), (wrap64 ((l1.length : Int) - (l2.length : Int))), zX, H', ⟨Nat.le_refl _⟩, ⟨zR HO106.out⟩, ⟨zR (Kd.R_mono HO109.out (fun _ hk => ⟨hk.1.1, hk.2⟩))⟩, ⟨zT⟩⟩
 case round =>
  clear H'
  obtain ⟨x8_1, x10_1, x12_1, rfl, HA, HK1, HO_8, HO_10, HB⟩ := hrel
  cases gk with
  | zero => exact absurd HA.out (by simp [fp_DivMod.l0])
  | succ k1 =>
   have H := HA.out
   clear HA
   simp only [fp_DivMod.l0] at H
   by_cases c21 : x12_1 ≥ 0
   rotate_left
   ·rw [if_neg c21] at H
    have c21b0 := decide_eq_false c21; clear c21
    obtain ⟨t112, A42, H⟩ := zO H
    have hji43 : (wrap64 ((l2.length : Int) - 1)) = ji12 := hji12
    first | rw [hji43] at H | simp only [hji43] at H
    (try rw [hji43] at A42)
    have hji43w : (IntKind.i64.wrap ((l2.length : Int) - 1)) = ji12 := (i64_w _).trans hji43
    by_cases c44 : 0 ≤ (ji12)
    rotate_left
    ·rw [if_neg c44] at H
     exact absurd H (by simp)
    rw [if_pos c44] at H
    have c44b0 := eq_true c44; have c44b1 := decide_eq_true c44; clear c44
    by_cases c45 : (ji12) ≤ (x8_1.length : Int)
    rotate_left
    ·rw [if_neg c45] at H
     exact absurd H (by simp)
    rw [if_pos c45] at H
    have c45b0 := eq_true c45; have c45b1 := decide_eq_true c45; clear c45
    obtain ⟨y115, Ny115⟩ := zA ((x8_1.take ((ji12) : Int).toNat) : List Int); rw [← Ny115.out] at H
    obtain ⟨t120, A46, H⟩ := zO H
    simp only [Option.some.injEq, Prod.mk.injEq] at H
    obtain ⟨rfl, rfl⟩ := H
    try go_wp2
    replace HO_8 := zm (Kd.R_drew HO_8.out)
    replace HO_10 := zm (Kd.R_drew HO_10.out)
    replace HB := zm (below_drew1 HB.out)
    obtain ⟨Ao49, co49, eo49⟩ := Kd.R_slice HO_8.out
    (first | subst eo49 | (injection eo49 with f1_ f2_ f3_; have f4_ := f1_.symm; have f5_ := f3_.symm; clear f1_ f2_ f3_; subst f4_; subst f5_))
    have q48 : ((ji12) : Int) ≤ ((x8_1.length : Int) : Int) := zD
    obtain ⟨i048, hi048, _, hsz48, _⟩ := info_parts info3
    have hroom48 : x8_1.length ≤ co49 := (Kd.R_reads' HO_8.out).2.1
    have hC48 : Kd.F (Kd.int .i64) _ _ Ao49 x8_1.length x8_1 := (Kd.V_at (base := w.heap.size) (Kd.R_V HO_8.out)).2.2
    have hcut48 := cut_to (P := Try.prog) 25 3 .i64 Try.underlying25 hi048 Ao49 x8_1.length co49 (ji12) zD q48 hroom48
    have hr48 := Kd.F_take (m := ((ji12) : Int).toNat) hC48 (by omega)
    have hy48 : y115.length = ((ji12) : Int).toNat := (by rw [Ny115.out, List.length_take]; omega)
    rw [← Ny115.out] at hr48
    rw [← hy48] at hcut48
    have HO119 := zm (show Kd.V (Kd.int .i64) 3 _ w.heap.size _ (.slice Ao49 y115.length co49) y115 from Kd.V_mk (by omega) hr48)
    have HC119 := zm (show y115.length ≤ co49 from by omega)
    clear hr48 hC48 hroom48 hi048 hsz48
    have KY48 := zm hy48
    clear hy48
    replace q48 := eq_true q48
    obtain ⟨Ao50, co50, eo50⟩ := Kd.R_slice HO_10.out
    (first | subst eo50 | (injection eo50 with f1_ f2_ f3_; have f4_ := f1_.symm; have f5_ := f3_.symm; clear f1_ f2_ f3_; subst f4_; subst f5_))
    refine start_ (n := 9) (S := fun w' => True) (ds := []) #[false, false, false, false, false, false, false, false, false] (by kernel_rfl) rfl rfl trivial (fun hHeld => ?_); refine with_tabW fp_DivMod.tab17 fp_DivMod.bits17 (fun HT_ HW_ => ?_)
    generalize wr.drew = w47 at HO_8 HO_10 HB HO119 hHeld ⊢
    refine zP 0 87 ?_; refine zP 2 89 ?_; refine zP 3 90 ?_; refine zP 4 91 ?_; refine zP 5 92 ?_
    refine one_ (i := 1) (N := some 88) #[true, true, true, true, true, true, false, false, false] rfl rfl (one_of HT_.out (by kernel_rfl)) (by decide) (fun K hK => ?_)
    refine goes_ Try.func92 (by kernel_rfl) rfl #[.slice Ao50 x10_1.length co50] (by rfl) rfl rfl (by (try simp only [List.map_toArray, List.map_cons, List.map_nil]); first | done | rfl | (simp only [List.length_drop, List.length_take]; rfl)) ?_
    with_reducible refine (fp_Trim.calls k1 (fun k_ => some k_ = (.slice Ao50 x10_1.length co50 : Value).ownBlock) _ _ x10_1 t112 _ ?side1 A42.out).mono ?_
    (case side1 => exact Kd.R_V (Kd.R_tight rfl (HO_10.out)))
    rintro e w51 ⟨v113, rfl, ho0, hb⟩
    refine ⟨_, rfl, ?_⟩
    replace HO119 := zVb HO119 hb
    have HO114 := zm (Kd.V_lower (Kd.V_mono (ok' := fun k_ => (w.heap.size ≤ k_) ∧ some k_ ≠ (.slice Ao49 x8_1.length co49 : Value).ownBlock) ho0 (fun k_ hk_ => ⟨Or.elim hk_ (fun hs_ => ((HO_10.out).1 k_ hs_.symm).1) (fun hn_ => (Nat.le_trans (zS HB) hn_)), Or.elim hk_ (fun hs_ => ((HO_10.out).1 k_ hs_.symm).2) (fun hn_ => (Kd.fresh' (Kd.R_lt (zR HO_8.out)) k_ hn_))⟩)) (zS HB))
    replace HO_8 := zRb HO_8 hb
    replace HO_10 := zRb HO_10 hb
    replace HB := zBb HB hb
    (try clear hb)
    (try clear hb2)
    (try clear hk)
    (try clear hi)
    (try clear ho0)
    refine hK.out _ _ trivial (fun hHeld => ?_)
    clear hK K
    refine norm_ (a' := ?_) ?_ ?_
    rotate_left
    ·show Act.put _ (some 88) _ = _
     simp only [Act.put, List.setIfInBounds_toArray, List.set_cons_zero, List.set_cons_succ, i64_w, i32_w]
     rfl
    refine one_ (i := 6) (N := some 93) #[true, true, true, true, true, true, true, false, false] rfl rfl (one_of HT_.out (by kernel_rfl)) (by decide) (fun K hK => ?_)
    refine goes_ Try.func92 (by kernel_rfl) rfl #[.slice Ao49 y115.length co49] (by rfl) rfl rfl (by (try simp only [List.map_toArray, List.map_cons, List.map_nil]); first | done | rfl | (simp only [List.length_drop, List.length_take]; rfl)) ?_
    with_reducible refine (fp_Trim.calls k1 (fun k_ => ((w.heap.size ≤ k_) ∧ some k_ ≠ (.slice Ao50 x10_1.length co50 : Value).ownBlock)) _ _ y115 t120 _ ?side1 A46.out).mono ?_
    (case side1 => exact HO119.out)
    rintro e w52 ⟨v121, rfl, ho0, hb⟩
    refine ⟨_, rfl, ?_⟩
    replace HO_8 := zRb HO_8 hb
    replace HO119 := zVb HO119 hb
    replace HO114 := zVb HO114 hb
    have HO122 := zm (Kd.V_lower (Kd.V_mono (ok' := fun k_ => (w.heap.size ≤ k_) ∧ some k_ ≠ (.slice Ao50 x10_1.length co50 : Value).ownBlock) ho0 (fun k_ hk_ => ⟨Or.elim hk_ (fun hs_ => hs_.1) (fun hn_ => (Nat.le_trans (zS HB) hn_)), Or.elim hk_ (fun hs_ => hs_.2) (fun hn_ => (Kd.fresh' (Kd.R_lt (zR HO_10.out)) k_ hn_))⟩)) (zS HB))
    replace HO_10 := zRb HO_10 hb
    replace HB := zBb HB hb
    (try clear hb)
    (try clear hb2)
    (try clear hk)
    (try clear hi)
    (try clear ho0)
    refine hK.out _ _ trivial (fun hHeld => ?_)
    clear hK K
    refine norm_ (a' := ?_) ?_ ?_
    rotate_left
    ·show Act.put _ (some 93) _ = _
     simp only [Act.put, List.setIfInBounds_toArray, List.set_cons_zero, List.set_cons_succ, i64_w, i32_w]
     rfl
    refine zP 7 6 ?_; refine zP 8 7 ?_
    refine done_ (done_of HT_.out (by kernel_rfl)) ?_
    try go_wp2
    go_ret2
    exact ⟨_, _, by first | rfl | (simp [errW_none, errW_some] <;> rfl) | (simp only [← hji9, ← hji12, ← hji43]; first | rfl | (simp [errW_none, errW_some] <;> rfl)) | (simp [*, errW_none, errW_some] <;> rfl), zV (Kd.V_mono HO114.out (fun _ hk => hk.1)), zV (Kd.V_mono HO122.out (fun _ hk => hk.1)), zT⟩
   rw [if_pos c21] at H
   have c21b0 := decide_eq_true c21; clear c21
   obtain ⟨ji22, hji22⟩ : ∃ j_ : Int, (wrap64 ((wrap64 (x12_1 + (l2.length : Int))) - 1)) = j_ := ⟨_, rfl⟩
   first | rw [hji22] at H | simp only [hji22] at H
   have hji22w : (IntKind.i64.wrap ((wrap64 (x12_1 + (l2.length : Int))) - 1)) = ji22 := (i64_w _).trans hji22
   by_cases c23 : 0 ≤ (ji22)
   rotate_left
   ·rw [if_neg c23] at H
    exact absurd H (by simp)
   rw [if_pos c23] at H
   have c23b0 := decide_eq_true c23; clear c23
   by_cases c24 : (ji22) < (x8_1.length : Int)
   rotate_left
   ·rw [if_neg c24] at H
    exact absurd H (by simp)
   rw [if_pos c24] at H
   have c24b0 := decide_eq_true c24; clear c24
   by_cases c25 : a0 = 0
   ·rw [if_pos c25] at H
    exact absurd H (by simp)
   rw [if_neg c25] at H
   obtain ⟨c25b0, c25b1⟩ := zU c25
   by_cases c26 : 0 ≤ x12_1
   rotate_left
   ·rw [if_neg c26] at H
    exact absurd H (by simp)
   rw [if_pos c26] at H
   have c26b0 := decide_eq_true c26; clear c26
   by_cases c27 : x12_1 < (x10_1.length : Int)
   rotate_left
   ·rw [if_neg c27] at H
    exact absurd H (by simp)
   rw [if_pos c27] at H
   have c27b0 := decide_eq_true c27; clear c27
   obtain ⟨y124, Ny124⟩ := zA ((x10_1.set (x12_1 : Int).toNat (Int.tmod (wrap64 ((rd x8_1 (ji22)) * t111)) a0)) : List Int); rw [← Ny124.out] at H
   have H' := zm H
   clear H
   obtain ⟨Ao29, co29, eo29⟩ := Kd.R_slice HO_8.out
   subst eo29
   obtain ⟨p123, q123, ad123, e123, hx123_0⟩ := zI ((Kd.R_reads' HO_8.out).2.2) ((ji22)) zD zD
   cases e123
   have p28 : 0 ≤ (x12_1 : Int) := zD
   have q28 : (x12_1 : Int) < ((x10_1.length : Int) : Int) := zD
   obtain ⟨go28, co28, eo28, gb28, gl28, cl28, HG28⟩ := Kd.R_form HO_10.out (by omega)
   (first | cases eo28 | (injection eo28 with ea_ en_ ec_; (first | subst ea_ | (injection ea_ with ea_; subst ea_)); subst ec_; clear en_))
   have GB28 := zm gb28
   have GG28 := zm HG28
   clear gb28 gl28 HG28
   obtain ⟨hx28_0, hf28_0⟩ := Kd.R_celln 0 HO_10.out (x12_1 : Int) p28 q28
   replace p28 := eq_true p28
   replace q28 := eq_true q28
   have HP30 := Kd.R_putg HO_10.out (x12_1 : Int) (Int.tmod (wrap64 ((rd x8_1 (ji22)) * t111)) a0)
   go_wp2_with (first | ((with_reducible refine gate_store (t := 3) (p := 61) rfl ?_); refine store_event (t := 3) (p := 61) (v := ?vo_w31) (w1 := (wr.setCell ⟨go28, (x12_1 : Int).toNat, none⟩ (.int .i64 (Int.tmod (wrap64 ((rd x8_1 (ji22)) * t111)) a0)))) ?hg ?ho ?hn ?hr ?_; (case ho => rfl); (case hg => rfl); (case hn => rfl); (case hr => go_simp <;> rfl); intro w31 hw; have hg : wr.grownBy w31 (some go28) := (by rw [hw]; exact HP30.2); have hp_ : Kd.R (Kd.int .i64) 3 w31 w.heap.size (fun k_ => (w.heap.size ≤ k_) ∧ some k_ ≠ (.slice (some ad123) x8_1.length co29 : Value).ownBlock) (.slice (some ⟨go28, 0, none⟩) x10_1.length co28) y124 := (by rw [hw, Ny124.out]; exact HP30.1); clear HP30; replace HO_8 := zm (Kd.R_after (v := (.slice (some ⟨go28, 0, none⟩) x10_1.length co28)) (v1 := (.slice (some ⟨go28, 0, none⟩) x10_1.length co28)) (ok := (fun k_ => (w.heap.size ≤ k_))) (zR HO_8.out) hg (.inl rfl)); replace HO_10 := zm (hp_); replace HB := zm ((by rw [hw]; exact below_set (HB.out) GB28.out : Below w.heap.size w w31)); clear hg hw hp_))
   go_loopg [64] k1 (fun kq v64 w' => ∃ (x8_2 : List Int) (x64_2 : Int), v64 = .int .i64 x64_2 ∧ Aside0 (fp_DivMod.l1 kq a0 l2 x8_2 (l2.length : Int) y124 t111 x12_1 (Int.tmod (wrap64 ((rd x8_1 (ji22)) * t111)) a0) l2 (l2.length : Int) x64_2 = some (r1, r2)) ∧ Aside0 (kq ≤ k1) ∧ Aside0 (Kd.R (Kd.int .i64) 3 w' w.heap.size (fun k_ => (w.heap.size ≤ k_) ∧ some k_ ≠ ((.slice (some ⟨go28, 0, none⟩) x10_1.length co28) : Value).ownBlock) (.slice (some ad123) x8_1.length co29) x8_2) ∧ Aside0 (Kd.R (Kd.int .i64) 3 w' w.heap.size (fun k_ => (w.heap.size ≤ k_) ∧ some k_ ≠ ((.slice (some ad123) x8_1.length co29) : Value).ownBlock) (.slice (some ⟨go28, 0, none⟩) x10_1.length co28) y124) ∧ Aside0 (Below w.heap.size w w'))
   case atStart => exact ⟨(x8_1), (0), zX, H', ⟨Nat.le_refl _⟩, ⟨zR HO_8.out⟩, ⟨zR HO_10.out⟩, ⟨zT⟩⟩
   case round =>
    clear H'
    obtain ⟨x8_2, x64_2, rfl, HA, HK2, HO_8, HO_10, HB⟩ := hrel
    have hl8_2 := (Kd.R_reads' HO_8.out).1
    rw [hl8_2] at HO_8
    (try simp only [hl8_2])
    (try simp only [hl8_2] at HO_10)
    have hl10_2 := (Kd.R_reads' HO_10.out).1
    rw [hl10_2] at HO_10
    (try simp only [hl10_2])
    (try simp only [hl10_2] at HO_8)
    cases gk with
    | zero => exact absurd HA.out (by simp [fp_DivMod.l1])
    | succ k2 =>
     have H := HA.out
     clear HA
     simp only [fp_DivMod.l1] at H
     by_cases c32 : x64_2 < (l2.length : Int)
     rotate_left
     ·rw [if_neg c32] at H
      have c32b0 : decide (x64_2 < (l2.length : Int)) = false := decide_eq_false c32
      (try (have c32b0_hl8_2 := c32b0; simp only [hl8_2] at c32b0_hl8_2))
      (try (have c32b0_hl10_2 := c32b0; simp only [hl10_2] at c32b0_hl10_2))
      clear c32
      have H' := zm H
      clear H
      go_wp2
      (try simp only [← hl8_2, ← hl10_2])
      (first | go_roundg k2 | (simp only [show ∀ g_ : Nat, ({ block := g_, off := (ji9).toNat } : Addr) = ({ block := g_, off := 0 } : Addr).add (ji9).toNat from fun g_ => by simp [Addr.add], show ∀ g_ : Nat, ({ block := g_, off := (ji12).toNat } : Addr) = ({ block := g_, off := 0 } : Addr).add (ji12).toNat from fun g_ => by simp [Addr.add], show ∀ g_ : Nat, ({ block := g_, off := (ji22).toNat } : Addr) = ({ block := g_, off := 0 } : Addr).add (ji22).toNat from fun g_ => by simp [Addr.add]]; go_roundg k2))
      case measure => have := HK1.out; have := HK2.out; omega
      case rel => exact ⟨(x8_2), (y124), (wrap64 (x12_1 - 1)), zX, H', ⟨by have := HK1.out; have := HK2.out; omega⟩, ⟨by (try simp only [hl8_2]); (try simp only [hl10_2]); (with_reducible repeat (first | apply Kd.R_alloc | apply Kd.R_drewN | apply Kd.R_drew)); exact HO_8.out⟩, ⟨by (try simp only [hl8_2]); (try simp only [hl10_2]); (with_reducible repeat (first | apply Kd.R_alloc | apply Kd.R_drewN | apply Kd.R_drew)); exact HO_10.out⟩, ⟨zT⟩⟩
     rw [if_pos c32] at H
     have c32b0 : decide (x64_2 < (l2.length : Int)) = true := decide_eq_true c32
     (try (have c32b0_hl8_2 := c32b0; simp only [hl8_2] at c32b0_hl8_2))
     (try (have c32b0_hl10_2 := c32b0; simp only [hl10_2] at c32b0_hl10_2))
     clear c32
     by_cases c33 : 0 ≤ x64_2
     rotate_left
     ·rw [if_neg c33] at H
      exact absurd H (by simp)
     rw [if_pos c33] at H
     have c33b0 := decide_eq_true c33; clear c33
     by_cases c34 : x64_2 < (l2.length : Int)
     rotate_left
     ·rw [if_neg c34] at H
      exact absurd H (by simp)
     rw [if_pos c34] at H
     have c34b0 : decide (x64_2 < (l2.length : Int)) = true := decide_eq_true c34
     (try (have c34b0_hl8_2 := c34b0; simp only [hl8_2] at c34b0_hl8_2))
     (try (have c34b0_hl10_2 := c34b0; simp only [hl10_2] at c34b0_hl10_2))
     clear c34
     obtain ⟨ji35, hji35⟩ : ∃ j_ : Int, (wrap64 (x12_1 + x64_2)) = j_ := ⟨_, rfl⟩
     first | rw [hji35] at H | simp only [hji35] at H
     have hji35w : (IntKind.i64.wrap (x12_1 + x64_2)) = ji35 := (i64_w _).trans hji35
     by_cases c36 : 0 ≤ (ji35)
     rotate_left
     ·rw [if_neg c36] at H
      exact absurd H (by simp)
     rw [if_pos c36] at H
     have c36b0 := decide_eq_true c36; clear c36
     by_cases c37 : (ji35) < (x8_2.length : Int)
     rotate_left
     ·rw [if_neg c37] at H
      exact absurd H (by simp)
     rw [if_pos c37] at H
     have c37b0 : decide ((ji35) < (x8_2.length : Int)) = true := decide_eq_true c37
     (try (have c37b0_hl8_2 := c37b0; simp only [hl8_2] at c37b0_hl8_2))
     (try (have c37b0_hl10_2 := c37b0; simp only [hl10_2] at c37b0_hl10_2))
     clear c37
     obtain ⟨t127, A38, H⟩ := zO H
     obtain ⟨y128, Ny128⟩ := zA ((x8_2.set ((ji35) : Int).toNat t127) : List Int); rw [← Ny128.out] at H
     have H' := zm H
     clear H
     obtain ⟨p125, q125, ad125, e125, hx125_0⟩ := zI (HR2.out) (x64_2) zD zD
     obtain rfl : ad110 = ad125 := (by injection e125)
     replace hx125_0 := (HB.out.cell (World.block_lt_of_cell? w _ hx125_0)).trans hx125_0
     obtain ⟨p126, q126, ad126, e126, hx126_0⟩ := zI ((Kd.R_reads' HO_8.out).2.2) ((ji35)) zD zD
     obtain rfl : ad123 = ad126 := (by injection e126)
     go_wp2_with (first | ((with_reducible refine gate_callee (f := 119) rfl ?_); refine zH (some 84) Try.func119 #[.int .i64 a0, .int .i64 (wrap64 ((rd x8_2 (ji35)) - (wrap64 ((Int.tmod (wrap64 ((rd x8_1 (ji22)) * t111)) a0) * (rd l2 x64_2)))))] rfl (by (try simp only [List.map_toArray, List.map_cons, List.map_nil]); first | done | (simp only [hji22, hji35]; rfl) | rfl | (simp only [List.length_drop, List.length_take]; rfl)) ?_; (with_reducible refine (fp_Mod.calls a0 (wrap64 ((rd x8_2 (ji35)) - (wrap64 ((Int.tmod (wrap64 ((rd x8_1 (ji22)) * t111)) a0) * (rd l2 x64_2))))) t127 _ A38.out).mono ?_); rintro e w' ⟨rfl, ⟨nd, rfl⟩⟩; refine ⟨_, rfl, ?_⟩; (try (rw [drewN_self wr]; generalize hq_ : World.drewN wr _ = wr; have n0_ : Aside0 (Kd.R (Kd.int .i64) 3 wr w.heap.size (fun k_ => (w.heap.size ≤ k_) ∧ some k_ ≠ (.slice (some ad123) x8_2.length co29 : Value).ownBlock) (.slice (some ⟨go28, 0, none⟩) y124.length co28) y124) := ⟨by rw [← hq_]; exact (zR HO_10.out)⟩; have n1_ : Aside0 (Kd.R (Kd.int .i64) 3 wr w.heap.size (fun k_ => (w.heap.size ≤ k_) ∧ some k_ ≠ (.slice (some ⟨go28, 0, none⟩) y124.length co28 : Value).ownBlock) (.slice (some ad123) x8_2.length co29) x8_2) := ⟨by rw [← hq_]; exact (zR HO_8.out)⟩; have n2_ : Aside0 (Below w.heap.size w wr) := ⟨by rw [← hq_]; exact (zT)⟩; clear HO_10 HO_8 HB hq_; have HO_10 := n0_; have HO_8 := n1_; have HB := n2_; clear n0_ n1_ n2_)); have p39 : 0 ≤ ((ji35) : Int) := zD; have q39 : ((ji35) : Int) < ((x8_2.length : Int) : Int) := zD; obtain ⟨go39, co39, eo39, gb39, gl39, cl39, HG39⟩ := Kd.R_form HO_8.out (by omega); (first | cases eo39 | (injection eo39 with ea_ en_ ec_; (first | subst ea_ | (injection ea_ with ea_; subst ea_)); subst ec_; clear en_)); have GB39 := zm gb39; have GG39 := zm HG39; clear gb39 gl39 HG39; (first | simp only [add_plain] at hx123_0 | skip); (first | simp only [add_plain] at hx126_0 | skip); obtain ⟨hx39_0, hf39_0⟩ := Kd.R_celln 0 HO_8.out ((ji35) : Int) p39 q39; replace p39 := eq_true p39; replace q39 := eq_true q39; obtain ⟨hy40_, hz40_⟩ := Kd.R_celln 0 HO_8.out ((ji35) : Int) zD zD; have HP40 := Kd.R_putg HO_8.out ((ji35) : Int) t127) | ((with_reducible refine gate_store (t := 3) (p := 85) rfl ?_); refine store_event (t := 3) (p := 85) (v := ?vo_w41) (w1 := (wr.setCell ⟨go39, ((ji35) : Int).toNat, none⟩ (.int .i64 t127))) ?hg ?ho ?hn ?hr ?_; (case ho => rfl); (case hg => rfl); (case hn => rfl); (case hr => go_simp <;> rfl); intro w41 hw; have hg : wr.grownBy w41 (some go39) := (by rw [hw]; exact HP40.2); have hp_ : Kd.R (Kd.int .i64) 3 w41 w.heap.size (fun k_ => (w.heap.size ≤ k_) ∧ some k_ ≠ (.slice (some ⟨go28, 0, none⟩) y124.length co28 : Value).ownBlock) (.slice (some ⟨go39, 0, none⟩) x8_2.length co29) y128 := (by rw [hw, Ny128.out]; exact HP40.1); clear HP40; replace HO_8 := zm (hp_); replace HO_10 := zm (Kd.R_after (v := (.slice (some ⟨go39, 0, none⟩) x8_2.length co29)) (v1 := (.slice (some ⟨go39, 0, none⟩) x8_2.length co29)) (ok := (fun k_ => (w.heap.size ≤ k_))) (zR HO_10.out) hg (.inl rfl)); replace HB := zm ((by rw [hw]; exact below_set (HB.out) GB39.out : Below w.heap.size w w41)); clear hg hw hp_))
     (try simp only [← hl8_2, ← hl10_2])
     (first | go_roundg k2 | (simp only [show ∀ g_ : Nat, ({ block := g_, off := (ji9).toNat } : Addr) = ({ block := g_, off := 0 } : Addr).add (ji9).toNat from fun g_ => by simp [Addr.add], show ∀ g_ : Nat, ({ block := g_, off := (ji12).toNat } : Addr) = ({ block := g_, off := 0 } : Addr).add (ji12).toNat from fun g_ => by simp [Addr.add], show ∀ g_ : Nat, ({ block := g_, off := (ji22).toNat } : Addr) = ({ block := g_, off := 0 } : Addr).add (ji22).toNat from fun g_ => by simp [Addr.add]]; go_roundg k2))
     case measure => have := HK1.out; have := HK2.out; omega
     case rel => exact ⟨(y128), (wrap64 (x64_2 + 1)), zX, H', ⟨by have := HK1.out; have := HK2.out; omega⟩, ⟨by (try simp only [hl8_2]); (try simp only [hl10_2]); (with_reducible repeat (first | apply Kd.R_alloc | apply Kd.R_drewN | apply Kd.R_drew)); exact HO_8.out⟩, ⟨by (try simp only [hl8_2]); (try simp only [hl10_2]); (with_reducible repeat (first | apply Kd.R_alloc | apply Kd.R_drewN | apply Kd.R_drew)); exact HO_10.out⟩, ⟨zT⟩⟩
def fp_Rem.f (k : Nat) (a0 : Int) (l1 : List Int) (l2 : List Int) : Option (List Int) := (fp_DivMod.f k a0 l1 l2).bind fun bt101 => (some bt101.2)
theorem fp_Rem.mono : ∀ a0 a1 a2 k, LeO (fp_Rem.f k a0 a1 a2) (fp_Rem.f (k + 1) a0 a1 a2) := by
 intro a0 a1 a2 k
 unfold fp_Rem.f
 with_reducible repeat' first | exact fp_DivMod.mono _ _ _ _ | exact LeO.refl _ | exact LeO.none _ | refine LeO.ite ?_ ?_ | refine LeO.bind ?_ (fun _ => ?_)
theorem fp_Rem.calls (k : Nat) (a0 : Int) (A1 : Option Addr) (c1 : Nat) (l1 : List Int) (A2 : Option Addr) (c2 : Nat) (l2 : List Int) (r : List Int) (w : World) (hr1 : Kd.C (Kd.int .i64) w A1 l1.length l1) (hc1 : l1.length ≤ c1) (hr2 : Kd.C (Kd.int .i64) w A2 l2.length l2) (hc2 : l2.length ≤ c2) (h : fp_Rem.f k a0 l1 l2 = some r) :
  Calls Try.prog 83 #[.int .i64 a0, .slice A1 l1.length c1, .slice A2 l2.length c2] w fun e w' => ∃ v0_ : Value, e = .returned (v0_) ∧ Kd.V (Kd.int .i64) 3 w' w.heap.size (fun k_ => (w.heap.size ≤ k_)) v0_ r ∧ Below w.heap.size w w' := by
 have HR1 := zm hr1
 have HC1 := zm hc1
 clear hr1 hc1
 have HR2 := zm hr2
 have HC2 := zm hc2
 clear hr2 hc2
 have HB := zm (Below.refl w.heap.size w)
 have H := h; clear h; unfold fp_Rem.f at H
 obtain ⟨⟨t101, t104⟩, A4, H⟩ := zO H; try dsimp only at H
 obtain rfl := Option.some.inj H
 go_enter Try.func83, Try.ntmps83
 go_wp2_with (first | ((with_reducible refine gate_callee (f := 106) rfl ?_); refine zG (some 13) Try.func106 #[.int .i64 a0, .slice A1 l1.length c1, .slice A2 l2.length c2] ?_; (with_reducible refine (fp_DivMod.calls k a0 _ _ l1 _ _ l2 t101 t104 _ (zC (HR1.out)) HC1.out (zC (HR2.out)) HC2.out A4.out).mono ?_); rintro e w5 ⟨v102, v105, rfl, ho0, ho1, hb⟩; refine ⟨_, rfl, ?_⟩; have HO103 := zWV (fun k_ => (w.heap.size ≤ k_)) ho0 HB (fun k_ hk_ => (Nat.le_trans (zS HB) hk_)); have HO106 := zm (Kd.V_lower (Kd.V_mono (ok' := fun k_ => (w.heap.size ≤ k_)) ho1 (fun k_ hk_ => (Nat.le_trans (zS HB) hk_))) (zS HB)); replace HB := zBb HB hb; (try clear ho1)))
 go_ret
 exact ⟨_, zQ, zV HO106.out, zT⟩
mutual
def fp_Mul.j0 : Nat → Int → List Int → List Int → Bool → Option (List Int)
 | 0, _, _, _, _ => none
 | k + 1, x0, x1, x2, x19 => if x19 = true then (some ([] : List Int)) else (if 0 ≤ (wrap64 ((wrap64 ((x1.length : Int) + (x2.length : Int))) - 1)) then (if (wrap64 ((wrap64 ((x1.length : Int) + (x2.length : Int))) - 1) : Int).toNat ≤ 35184372088832 then (fp_Mul.l0 k x0 x2 (List.replicate (wrap64 ((wrap64 ((x1.length : Int) + (x2.length : Int))) - 1) : Int).toNat 0) x1 (x1.length : Int) 0) else (none)) else (none))
def fp_Mul.l0 : Nat → Int → List Int → List Int → List Int → Int → Int → Option (List Int)
 | 0, _, _, _, _, _, _ => none
 | k + 1, x0, x2, x7, x27, x28, x29 => if x29 < x28 then (if 0 ≤ x29 then (if x29 < (x27.length : Int) then (fp_Mul.l1 k x0 x2 x7 x29 (rd x27 x29) x27 x28 x29 x2 (x2.length : Int) 0) else (none)) else (none)) else ((fp_Trim.f k x7).bind fun t104 => (some t104))
def fp_Mul.l1 : Nat → Int → List Int → List Int → Int → Int → List Int → Int → Int → List Int → Int → Int → Option (List Int)
 | 0, _, _, _, _, _, _, _, _, _, _, _ => none
 | k + 1, x0, x2, x7, x8, x9, x27, x28, x29, x34, x35, x36 => if x36 < x35 then (if 0 ≤ x36 then (if x36 < (x34.length : Int) then (if 0 ≤ (wrap64 (x8 + x36)) then (if (wrap64 (x8 + x36)) < (x7.length : Int) then (if x0 = 0 then (none) else (fp_Mul.l1 k x0 x2 (x7.set ((wrap64 (x8 + x36)) : Int).toNat (Int.tmod (wrap64 ((rd x7 (wrap64 (x8 + x36))) + (wrap64 (x9 * (rd x34 x36))))) x0)) x8 x9 x27 x28 x29 x34 x35 (wrap64 (x36 + 1)))) else (none)) else (none)) else (none)) else (none)) else (fp_Mul.l0 k x0 x2 x7 x27 x28 (wrap64 (x29 + 1)))
end
def fp_Mul.f (k : Nat) (a0 : Int) (l1 : List Int) (l2 : List Int) : Option (List Int) := if (l1.length : Int) = 0 then (fp_Mul.j0 k a0 l1 l2 true) else (fp_Mul.j0 k a0 l1 l2 ((l2.length : Int) == 0))
theorem fp_Mul.mono_l : ∀ k, (∀ y0 y1 y2 y3, LeO (fp_Mul.j0 k y0 y1 y2 y3) (fp_Mul.j0 (k + 1) y0 y1 y2 y3)) ∧ (∀ y0 y1 y2 y3 y4 y5, LeO (fp_Mul.l0 k y0 y1 y2 y3 y4 y5) (fp_Mul.l0 (k + 1) y0 y1 y2 y3 y4 y5)) ∧ (∀ y0 y1 y2 y3 y4 y5 y6 y7 y8 y9 y10, LeO (fp_Mul.l1 k y0 y1 y2 y3 y4 y5 y6 y7 y8 y9 y10) (fp_Mul.l1 (k + 1) y0 y1 y2 y3 y4 y5 y6 y7 y8 y9 y10))
 | 0 => ⟨fun _ _ _ _ r h => by simp [fp_Mul.j0] at h, fun _ _ _ _ _ _ r h => by simp [fp_Mul.l0] at h, fun _ _ _ _ _ _ _ _ _ _ _ r h => by simp [fp_Mul.l1] at h⟩
 | k + 1 => by
  obtain ⟨ih0, ih1, ih2⟩ := fp_Mul.mono_l k
  refine ⟨?_, ?_, ?_⟩
  ·intro y0 y1 y2 y3
   unfold fp_Mul.j0
   with_reducible repeat' first | exact ih0 _ _ _ _ | exact ih1 _ _ _ _ _ _ | exact ih2 _ _ _ _ _ _ _ _ _ _ _ | exact fp_Trim.mono _ _ | exact LeO.refl _ | exact LeO.none _ | refine LeO.ite ?_ ?_ | refine LeO.bind ?_ (fun _ => ?_)
  ·intro y0 y1 y2 y3 y4 y5
   unfold fp_Mul.l0
   with_reducible repeat' first | exact ih0 _ _ _ _ | exact ih1 _ _ _ _ _ _ | exact ih2 _ _ _ _ _ _ _ _ _ _ _ | exact fp_Trim.mono _ _ | exact LeO.refl _ | exact LeO.none _ | refine LeO.ite ?_ ?_ | refine LeO.bind ?_ (fun _ => ?_)
  intro y0 y1 y2 y3 y4 y5 y6 y7 y8 y9 y10
  unfold fp_Mul.l1
  with_reducible repeat' first | exact ih0 _ _ _ _ | exact ih1 _ _ _ _ _ _ | exact ih2 _ _ _ _ _ _ _ _ _ _ _ | exact fp_Trim.mono _ _ | exact LeO.refl _ | exact LeO.none _ | refine LeO.ite ?_ ?_ | refine LeO.bind ?_ (fun _ => ?_)
theorem fp_Mul.mono : ∀ a0 a1 a2 k, LeO (fp_Mul.f k a0 a1 a2) (fp_Mul.f (k + 1) a0 a1 a2) := by
 intro a0 a1 a2 k
 obtain ⟨ih0, ih1, ih2⟩ := fp_Mul.mono_l k
 unfold fp_Mul.f
 with_reducible repeat' first | exact ih0 _ _ _ _ | exact ih1 _ _ _ _ _ _ | exact ih2 _ _ _ _ _ _ _ _ _ _ _ | exact fp_Trim.mono _ _ | exact LeO.refl _ | exact LeO.none _ | refine LeO.ite ?_ ?_ | refine LeO.bind ?_ (fun _ => ?_)
theorem fp_Mul.calls (k : Nat) (a0 : Int) (A1 : Option Addr) (c1 : Nat) (l1 : List Int) (A2 : Option Addr) (c2 : Nat) (l2 : List Int) (r : List Int) (w : World) (hr1 : Kd.C (Kd.int .i64) w A1 l1.length l1) (hc1 : l1.length ≤ c1) (hr2 : Kd.C (Kd.int .i64) w A2 l2.length l2) (hc2 : l2.length ≤ c2) (h : fp_Mul.f k a0 l1 l2 = some r) :
  Calls Try.prog 112 #[.int .i64 a0, .slice A1 l1.length c1, .slice A2 l2.length c2] w fun e w' => ∃ v0_ : Value, e = .returned (v0_) ∧ Kd.V (Kd.int .i64) 3 w' w.heap.size (fun k_ => (w.heap.size ≤ k_)) v0_ r ∧ Below w.heap.size w w' := by
 have HR1 := zm hr1
 have HC1 := zm hc1
 clear hr1 hc1
 have HR2 := zm hr2
 have HC2 := zm hc2
 clear hr2 hc2
 have HB := zm (Below.refl w.heap.size w)
 have H := h; clear h; unfold fp_Mul.f at H
 have HC4 := zm H
 clear H
 go_enter Try.func112, Try.ntmps112
 go_upto_region 1 with (fail)
 go_cut [19] (fun v19 wc => ∃ (kq : Nat) (x19_3 : Bool), v19 = .bool x19_3 ∧ Aside0 (fp_Mul.j0 kq a0 l1 l2 x19_3 = some r) ∧ Aside0 (kq ≤ k) ∧ Aside0 (Below w.heap.size w wc))
 case first =>
  have H := HC4.out
  clear HC4
  by_cases c5 : (l1.length : Int) = 0
  ·rw [if_pos c5] at H
   obtain ⟨c5b0, c5b1⟩ := zE c5; clear c5
   (first | rw [c5b0] | (simp only [i64_w, i32_w]; rw [c5b0]) | skip)
   have H' := zm H
   clear H
   go_wp2
   go_meet
   case rel => exact ⟨_, (true), zX, H', ⟨by first | omega | exact Nat.le_refl _⟩, ⟨zT⟩⟩
  rw [if_neg c5] at H
  obtain ⟨c5b0, c5b1⟩ := zU c5
  have c5b2 : ¬ (l1 = []) := fun h_ => c5 (by rw [h_]; rfl)
  (first | rw [c5b0] | (simp only [i64_w, i32_w]; rw [c5b0]) | skip)
  have H' := zm H
  clear H
  go_wp2
  go_meet
  case rel => exact ⟨_, (((l2.length : Int) == 0)), zX, H', ⟨by first | omega | exact Nat.le_refl _⟩, ⟨zT⟩⟩
 case rest =>
  clear HC4
  obtain ⟨kq, x19_3, rfl, HA, HJ3, HB⟩ := hcut
  cases kq with
  | zero => exact absurd HA.out (by simp [fp_Mul.j0])
  | succ kj3 =>
   have H := HA.out
   clear HA
   simp only [fp_Mul.j0] at H
   by_cases c6 : x19_3 = true
   ·subst c6
    rw [if_pos rfl] at H
    obtain rfl := Option.some.inj H
    go_wp2
    go_ret
    exact ⟨_, zQ, zL, zT⟩
   replace c6 := Bool.eq_false_iff.mpr c6
   subst c6
   rw [if_neg Bool.false_ne_true] at H
   obtain ⟨ji7, hji7⟩ : ∃ j_ : Int, (wrap64 ((wrap64 ((l1.length : Int) + (l2.length : Int))) - 1)) = j_ := ⟨_, rfl⟩
   first | rw [hji7] at H | simp only [hji7] at H
   have hji7w : (IntKind.i64.wrap ((wrap64 ((l1.length : Int) + (l2.length : Int))) - 1)) = ji7 := (i64_w _).trans hji7
   by_cases c8 : 0 ≤ (ji7)
   rotate_left
   ·rw [if_neg c8] at H
    exact absurd H (by simp)
   rw [if_pos c8] at H
   have c8b0 := eq_true c8; have c8b1 := decide_eq_true c8; clear c8
   by_cases c9 : (ji7 : Int).toNat ≤ 35184372088832
   rotate_left
   ·rw [if_neg c9] at H
    exact absurd H (by simp)
   rw [if_pos c9] at H
   have c9b0 := eq_true c9; have c9b1 := decide_eq_true c9; clear c9
   obtain ⟨y101, Ny101⟩ := zA ((List.replicate (ji7 : Int).toNat 0) : List Int); rw [← Ny101.out] at H
   have H' := zm H
   clear H
   go_wp2_with (first | ((with_reducible refine gate_dst (N := 26) rfl ?_); (try (refine gate_guard (by rfl) ?_; dsimp only)); refine Kd.R_make (Kd.int .i64) _ 3 rfl (N := 26) rfl 25 _ _ rfl ji7 rfl rfl Try.underlying25 (.int .i64 0) 8 info3 rfl (by decide) (by omega) 0 (ok := fun _ => True) (okp := fun _ => True) rfl (fun _ hk => hk) trivial zD (Nat.le_trans (Nat.mul_le_mul_right _ (zD : ji7.toNat ≤ 35184372088832)) (by omega)) (Below.refl _ _) (Nat.le_refl _) ?_; intro v102 w10 ho11 hb hg_ hnew_; clear hg_ hnew_; (first | rw [← Ny101.out] at ho11 | (simp only [Int.reduceToNat] at ho11; rw [← Ny101.out] at ho11)); have HO103 := zm (Kd.R_lower (Kd.R_newM (M := fun k_ => (w.heap.size ≤ k_)) ho11 (zS HB) (fun k_ h_ => h_)) (zS HB)); replace HB := zBb HB hb; clear hb ho11))
   go_loopg [29] kj3 (fun kq v29 w' => ∃ (x7_2 : List Int) (x29_2 : Int), v29 = .int .i64 x29_2 ∧ Aside0 (fp_Mul.l0 kq a0 l2 x7_2 l1 (l1.length : Int) x29_2 = some r) ∧ Aside0 (kq ≤ kj3) ∧ Aside0 (Kd.R (Kd.int .i64) 3 w' w.heap.size (fun k_ => (w.heap.size ≤ k_)) v102 x7_2) ∧ Aside0 (Below w.heap.size w w'))
   case atStart => exact ⟨(y101), (0), zX, H', ⟨Nat.le_refl _⟩, ⟨zR (Kd.R_mono HO103.out (fun _ hk => hk.1))⟩, ⟨zT⟩⟩
   case round =>
    clear H'
    obtain ⟨x7_2, x29_2, rfl, HA, HK2, HO_7, HB⟩ := hrel
    cases gk with
    | zero => exact absurd HA.out (by simp [fp_Mul.l0])
    | succ k2 =>
     have H := HA.out
     clear HA
     simp only [fp_Mul.l0] at H
     by_cases c12 : x29_2 < (l1.length : Int)
     rotate_left
     ·rw [if_neg c12] at H
      have c12b0 := decide_eq_false c12; clear c12
      obtain ⟨t104, A26, H⟩ := zO H
      obtain rfl := Option.some.inj H
      obtain ⟨Ao27, co27, eo27⟩ := Kd.R_slice HO_7.out
      subst eo27
      go_wp2_with (first | ((with_reducible refine gate_callee (f := 92) rfl ?_); refine zG (some 61) Try.func92 #[.slice Ao27 x7_2.length co27] ?_; (with_reducible refine (fp_Trim.calls k2 (fun k_ => some k_ = (.slice Ao27 x7_2.length co27 : Value).ownBlock) _ _ x7_2 t104 _ (Kd.R_V (Kd.R_tight rfl (HO_7.out))) A26.out).mono ?_); rintro e w28 ⟨v105, rfl, ho0, hb⟩; refine ⟨_, rfl, ?_⟩; have HO106 := zWV (fun k_ => (w.heap.size ≤ k_)) ho0 HB (fun k_ hk_ => Or.elim hk_ (fun hs_ => ((HO_7.out).1 k_ hs_.symm)) (fun hn_ => (Nat.le_trans (zS HB) hn_))); replace HO_7 := zRb HO_7 hb; replace HB := zBb HB hb))
      go_ret
      exact ⟨_, by first | rfl | (simp [errW_none, errW_some] <;> rfl) | (simp only [← hji7]; first | rfl | (simp [errW_none, errW_some] <;> rfl)) | (simp [*, errW_none, errW_some] <;> rfl), zV HO106.out, zT⟩
     rw [if_pos c12] at H
     have c12b0 := decide_eq_true c12; clear c12
     by_cases c13 : 0 ≤ x29_2
     rotate_left
     ·rw [if_neg c13] at H
      exact absurd H (by simp)
     rw [if_pos c13] at H
     have c13b0 := decide_eq_true c13; clear c13
     by_cases c14 : x29_2 < (l1.length : Int)
     rotate_left
     ·rw [if_neg c14] at H
      exact absurd H (by simp)
     rw [if_pos c14] at H
     have c14b0 := decide_eq_true c14; clear c14
     have H' := zm H
     clear H
     obtain ⟨p107, q107, ad107, e107, hx107_0⟩ := zI (HR1.out) (x29_2) zD zD
     cases e107
     replace hx107_0 := (HB.out.cell (World.block_lt_of_cell? w _ hx107_0)).trans hx107_0
     go_wp2
     go_loopg [36] k2 (fun kq v36 w' => ∃ (x7_3 : List Int) (x36_3 : Int), v36 = .int .i64 x36_3 ∧ Aside0 (fp_Mul.l1 kq a0 l2 x7_3 x29_2 (rd l1 x29_2) l1 (l1.length : Int) x29_2 l2 (l2.length : Int) x36_3 = some r) ∧ Aside0 (kq ≤ k2) ∧ Aside0 (Kd.R (Kd.int .i64) 3 w' w.heap.size (fun k_ => (w.heap.size ≤ k_)) v102 x7_3) ∧ Aside0 (Below w.heap.size w w'))
     case atStart => exact ⟨(x7_2), (0), zX, H', ⟨Nat.le_refl _⟩, ⟨zR HO_7.out⟩, ⟨zT⟩⟩
     case round =>
      clear H'
      obtain ⟨x7_3, x36_3, rfl, HA, HK3, HO_7, HB⟩ := hrel
      cases gk with
      | zero => exact absurd HA.out (by simp [fp_Mul.l1])
      | succ k3 =>
       have H := HA.out
       clear HA
       simp only [fp_Mul.l1] at H
       by_cases c15 : x36_3 < (l2.length : Int)
       rotate_left
       ·rw [if_neg c15] at H
        have c15b0 := decide_eq_false c15; clear c15
        have H' := zm H
        clear H
        go_wp2
        (first | go_roundg k3 | (simp only [show ∀ g_ : Nat, ({ block := g_, off := (ji7).toNat } : Addr) = ({ block := g_, off := 0 } : Addr).add (ji7).toNat from fun g_ => by simp [Addr.add]]; go_roundg k3))
        case measure => have := HJ3.out; have := HK2.out; have := HK3.out; omega
        case rel => exact ⟨(x7_3), (wrap64 (x29_2 + 1)), zX, H', ⟨by have := HJ3.out; have := HK2.out; have := HK3.out; omega⟩, ⟨zR HO_7.out⟩, ⟨zT⟩⟩
       rw [if_pos c15] at H
       have c15b0 := decide_eq_true c15; clear c15
       by_cases c16 : 0 ≤ x36_3
       rotate_left
       ·rw [if_neg c16] at H
        exact absurd H (by simp)
       rw [if_pos c16] at H
       have c16b0 := decide_eq_true c16; clear c16
       by_cases c17 : x36_3 < (l2.length : Int)
       rotate_left
       ·rw [if_neg c17] at H
        exact absurd H (by simp)
       rw [if_pos c17] at H
       have c17b0 := decide_eq_true c17; clear c17
       obtain ⟨ji18, hji18⟩ : ∃ j_ : Int, (wrap64 (x29_2 + x36_3)) = j_ := ⟨_, rfl⟩
       first | rw [hji18] at H | simp only [hji18] at H
       have hji18w : (IntKind.i64.wrap (x29_2 + x36_3)) = ji18 := (i64_w _).trans hji18
       by_cases c19 : 0 ≤ (ji18)
       rotate_left
       ·rw [if_neg c19] at H
        exact absurd H (by simp)
       rw [if_pos c19] at H
       have c19b0 := decide_eq_true c19; clear c19
       by_cases c20 : (ji18) < (x7_3.length : Int)
       rotate_left
       ·rw [if_neg c20] at H
        exact absurd H (by simp)
       rw [if_pos c20] at H
       have c20b0 := decide_eq_true c20; clear c20
       by_cases c21 : a0 = 0
       ·rw [if_pos c21] at H
        exact absurd H (by simp)
       rw [if_neg c21] at H
       obtain ⟨c21b0, c21b1⟩ := zU c21
       obtain ⟨y110, Ny110⟩ := zA ((x7_3.set ((ji18) : Int).toNat (Int.tmod (wrap64 ((rd x7_3 (ji18)) + (wrap64 ((rd l1 x29_2) * (rd l2 x36_3))))) a0)) : List Int); rw [← Ny110.out] at H
       have H' := zm H
       clear H
       obtain ⟨p108, q108, ad108, e108, hx108_0⟩ := zI (HR2.out) (x36_3) zD zD
       cases e108
       replace hx108_0 := (HB.out.cell (World.block_lt_of_cell? w _ hx108_0)).trans hx108_0
       obtain ⟨Ao23, co23, eo23⟩ := Kd.R_slice HO_7.out
       subst eo23
       obtain ⟨p109, q109, ad109, e109, hx109_0⟩ := zI ((Kd.R_reads' HO_7.out).2.2) ((ji18)) zD zD
       cases e109
       have p22 : 0 ≤ ((ji18) : Int) := zD
       have q22 : ((ji18) : Int) < ((x7_3.length : Int) : Int) := zD
       obtain ⟨go22, co22, eo22, gb22, gl22, cl22, HG22⟩ := Kd.R_form HO_7.out (by omega)
       (first | cases eo22 | (injection eo22 with ea_ en_ ec_; (first | subst ea_ | (injection ea_ with ea_; subst ea_)); subst ec_; clear en_))
       have GB22 := zm gb22
       have GG22 := zm HG22
       clear gb22 gl22 HG22
       (first | simp only [add_plain] at hx109_0 | skip)
       obtain ⟨hx22_0, hf22_0⟩ := Kd.R_celln 0 HO_7.out ((ji18) : Int) p22 q22
       replace p22 := eq_true p22
       replace q22 := eq_true q22
       have HP24 := Kd.R_putg HO_7.out ((ji18) : Int) (Int.tmod (wrap64 ((rd x7_3 (ji18)) + (wrap64 ((rd l1 x29_2) * (rd l2 x36_3))))) a0)
       go_wp2_with (first | ((with_reducible refine gate_store (t := 3) (p := 57) rfl ?_); refine store_event (t := 3) (p := 57) (v := ?vo_w25) (w1 := (wr.setCell ⟨go22, ((ji18) : Int).toNat, none⟩ (.int .i64 (Int.tmod (wrap64 ((rd x7_3 (ji18)) + (wrap64 ((rd l1 x29_2) * (rd l2 x36_3))))) a0)))) ?hg ?ho ?hn ?hr ?_; (case ho => rfl); (case hg => rfl); (case hn => rfl); (case hr => go_simp <;> rfl); intro w25 hw; have hg : wr.grownBy w25 (some go22) := (by rw [hw]; exact HP24.2); have hp_ : Kd.R (Kd.int .i64) 3 w25 w.heap.size (fun k_ => (w.heap.size ≤ k_)) (.slice (some ⟨go22, 0, none⟩) x7_3.length co23) y110 := (by rw [hw, Ny110.out]; exact HP24.1); clear HP24; replace HO_7 := zm (hp_); replace HB := zm ((by rw [hw]; exact below_set (HB.out) GB22.out : Below w.heap.size w w25)); clear hg hw hp_))
       (first | go_roundg k3 | (simp only [show ∀ g_ : Nat, ({ block := g_, off := (ji7).toNat } : Addr) = ({ block := g_, off := 0 } : Addr).add (ji7).toNat from fun g_ => by simp [Addr.add]]; go_roundg k3))
       case measure => have := HJ3.out; have := HK2.out; have := HK3.out; omega
       case rel => exact ⟨(y110), (wrap64 (x36_3 + 1)), zX, H', ⟨by have := HJ3.out; have := HK2.out; have := HK3.out; omega⟩, ⟨zR HO_7.out⟩, ⟨zT⟩⟩
def fp_MulMod.f (k : Nat) (a0 : Int) (l1 : List Int) (l2 : List Int) (l3 : List Int) : Option (List Int) := (fp_Mul.f k a0 l1 l2).bind fun t101 => ((fp_Rem.f k a0 t101 l3).bind fun t104 => (some t104))
theorem fp_MulMod.mono : ∀ a0 a1 a2 a3 k, LeO (fp_MulMod.f k a0 a1 a2 a3) (fp_MulMod.f (k + 1) a0 a1 a2 a3) := by
 intro a0 a1 a2 a3 k
 unfold fp_MulMod.f
 with_reducible repeat' first | exact fp_Mul.mono _ _ _ _ | exact fp_Rem.mono _ _ _ _ | exact LeO.refl _ | exact LeO.none _ | refine LeO.ite ?_ ?_ | refine LeO.bind ?_ (fun _ => ?_)
theorem fp_MulMod.calls (k : Nat) (a0 : Int) (A1 : Option Addr) (c1 : Nat) (l1 : List Int) (A2 : Option Addr) (c2 : Nat) (l2 : List Int) (A3 : Option Addr) (c3 : Nat) (l3 : List Int) (r : List Int) (w : World) (hr1 : Kd.C (Kd.int .i64) w A1 l1.length l1) (hc1 : l1.length ≤ c1) (hr2 : Kd.C (Kd.int .i64) w A2 l2.length l2) (hc2 : l2.length ≤ c2) (hr3 : Kd.C (Kd.int .i64) w A3 l3.length l3) (hc3 : l3.length ≤ c3) (h : fp_MulMod.f k a0 l1 l2 l3 = some r) :
  Calls Try.prog 94 #[.int .i64 a0, .slice A1 l1.length c1, .slice A2 l2.length c2, .slice A3 l3.length c3] w fun e w' => ∃ v0_ : Value, e = .returned (v0_) ∧ Kd.V (Kd.int .i64) 3 w' w.heap.size (fun k_ => (w.heap.size ≤ k_)) v0_ r ∧ Below w.heap.size w w' := by
 have HR1 := zm hr1
 have HC1 := zm hc1
 clear hr1 hc1
 have HR2 := zm hr2
 have HC2 := zm hc2
 clear hr2 hc2
 have HR3 := zm hr3
 have HC3 := zm hc3
 clear hr3 hc3
 have HB := zm (Below.refl w.heap.size w)
 have H := h; clear h; unfold fp_MulMod.f at H
 obtain ⟨t101, A5, H⟩ := zO H
 obtain ⟨t104, A6, H⟩ := zO H
 obtain rfl := Option.some.inj H
 go_enter Try.func94, Try.ntmps94
 go_wp2_with (first | ((with_reducible refine gate_callee (f := 112) rfl ?_); refine zG (some 13) Try.func112 #[.int .i64 a0, .slice A1 l1.length c1, .slice A2 l2.length c2] ?_; (with_reducible refine (fp_Mul.calls k a0 _ _ l1 _ _ l2 t101 _ (zC (HR1.out)) HC1.out (zC (HR2.out)) HC2.out A5.out).mono ?_); rintro e w7 ⟨v102, rfl, ho0, hb⟩; refine ⟨_, rfl, ?_⟩; have HO103 := zWV (fun k_ => (w.heap.size ≤ k_)) ho0 HB (fun k_ hk_ => (Nat.le_trans (zS HB) hk_)); replace HB := zBb HB hb; obtain ⟨Ao8, co8, eo8⟩ := Kd.V_slice HO103.out; subst eo8) | ((with_reducible refine gate_callee (f := 83) rfl ?_); refine zG (some 15) Try.func83 #[.int .i64 a0, .slice Ao8 t101.length co8, .slice A3 l3.length c3] ?_; (with_reducible refine (fp_Rem.calls k a0 _ _ t101 _ _ l3 t104 _ (zC ((Kd.V_reads' HO103.out).2.2)) ((Kd.V_reads' HO103.out).2.1) (zC (Kd.C_below HR3.out HB.out)) HC3.out A6.out).mono ?_); rintro e w9 ⟨v105, rfl, ho0, hb⟩; refine ⟨_, rfl, ?_⟩; replace HO103 := zVb HO103 hb; have HO106 := zWV (fun k_ => (w.heap.size ≤ k_)) ho0 HB (fun k_ hk_ => (Nat.le_trans (zS HB) hk_)); replace HB := zBb HB hb))
 go_ret
 exact ⟨_, zQ, zV HO106.out, zT⟩
mutual
def fp_PowMod.l0 : Nat → Int → ByteArray → List Int → List Int → List Int → Int → Int → Option (List Int)
 | 0, _, _, _, _, _, _, _ => none
 | k + 1, x0, x2, x3, x9, x10, x22, x23 => if x23 < x22 then (fp_PowMod.l1 k x0 x2 x3 x9 x10 x23 7 x22 x23) else (some x9)
def fp_PowMod.l1 : Nat → Int → ByteArray → List Int → List Int → List Int → Int → Int → Int → Int → Option (List Int)
 | 0, _, _, _, _, _, _, _, _, _ => none
 | k + 1, x0, x2, x3, x9, x10, x11, x12, x22, x23 => if x12 ≥ 0 then ((fp_MulMod.f k x0 x9 x9 x3).bind fun t110 => (if 0 ≤ x11 then (if x11 < (x2.size : Int) then (if 0 ≤ x12 then (if (Go.bits .and .u8 (shr .u8 (bt x2 x11) x12) 1) = 1 then ((fp_MulMod.f k x0 t110 x10 x3).bind fun t113 => (fp_PowMod.l1 k x0 x2 x3 t113 x10 x11 (wrap64 (x12 - 1)) x22 x23)) else (fp_PowMod.l1 k x0 x2 x3 t110 x10 x11 (wrap64 (x12 - 1)) x22 x23)) else (none)) else (none)) else (none))) else (fp_PowMod.l0 k x0 x2 x3 x9 x10 x22 (wrap64 (x23 + 1)))
end
def fp_PowMod.f (k : Nat) (a0 : Int) (l1 : List Int) (a2 : ByteArray) (l3 : List Int) : Option (List Int) := (fp_Rem.f k a0 (([1] : List Int)) l3).bind fun t104 => ((fp_Rem.f k a0 l1 l3).bind fun t107 => (fp_PowMod.l0 k a0 a2 l3 t104 t107 (a2.size : Int) 0))
theorem fp_PowMod.mono_l : ∀ k, (∀ y0 y1 y2 y3 y4 y5 y6, LeO (fp_PowMod.l0 k y0 y1 y2 y3 y4 y5 y6) (fp_PowMod.l0 (k + 1) y0 y1 y2 y3 y4 y5 y6)) ∧ (∀ y0 y1 y2 y3 y4 y5 y6 y7 y8, LeO (fp_PowMod.l1 k y0 y1 y2 y3 y4 y5 y6 y7 y8) (fp_PowMod.l1 (k + 1) y0 y1 y2 y3 y4 y5 y6 y7 y8))
 | 0 => ⟨fun _ _ _ _ _ _ _ r h => by simp [fp_PowMod.l0] at h, fun _ _ _ _ _ _ _ _ _ r h => by simp [fp_PowMod.l1] at h⟩
 | k + 1 => by
  obtain ⟨ih0, ih1⟩ := fp_PowMod.mono_l k
  refine ⟨?_, ?_⟩
  ·intro y0 y1 y2 y3 y4 y5 y6
   unfold fp_PowMod.l0
   with_reducible repeat' first | exact ih0 _ _ _ _ _ _ _ | exact ih1 _ _ _ _ _ _ _ _ _ | exact fp_MulMod.mono _ _ _ _ _ | exact fp_Rem.mono _ _ _ _ | exact LeO.refl _ | exact LeO.none _ | refine LeO.ite ?_ ?_ | refine LeO.bind ?_ (fun _ => ?_)
  intro y0 y1 y2 y3 y4 y5 y6 y7 y8
  unfold fp_PowMod.l1
  with_reducible repeat' first | exact ih0 _ _ _ _ _ _ _ | exact ih1 _ _ _ _ _ _ _ _ _ | exact fp_MulMod.mono _ _ _ _ _ | exact fp_Rem.mono _ _ _ _ | exact LeO.refl _ | exact LeO.none _ | refine LeO.ite ?_ ?_ | refine LeO.bind ?_ (fun _ => ?_)
theorem fp_PowMod.mono : ∀ a0 a1 a2 a3 k, LeO (fp_PowMod.f k a0 a1 a2 a3) (fp_PowMod.f (k + 1) a0 a1 a2 a3) := by
 intro a0 a1 a2 a3 k
 obtain ⟨ih0, ih1⟩ := fp_PowMod.mono_l k
 unfold fp_PowMod.f
 with_reducible repeat' first | exact ih0 _ _ _ _ _ _ _ | exact ih1 _ _ _ _ _ _ _ _ _ | exact fp_MulMod.mono _ _ _ _ _ | exact fp_Rem.mono _ _ _ _ | exact LeO.refl _ | exact LeO.none _ | refine LeO.ite ?_ ?_ | refine LeO.bind ?_ (fun _ => ?_)
theorem fp_PowMod.calls (k : Nat) (a0 : Int) (A1 : Option Addr) (c1 : Nat) (l1 : List Int) (a2 : ByteArray) (A3 : Option Addr) (c3 : Nat) (l3 : List Int) (r : List Int) (w : World) (hr1 : Kd.C (Kd.int .i64) w A1 l1.length l1) (hc1 : l1.length ≤ c1) (hr3 : Kd.C (Kd.int .i64) w A3 l3.length l3) (hc3 : l3.length ≤ c3) (h : fp_PowMod.f k a0 l1 a2 l3 = some r) :
  Calls Try.prog 99 #[.int .i64 a0, .slice A1 l1.length c1, .string a2, .slice A3 l3.length c3] w fun e w' => ∃ v0_ : Value, e = .returned (v0_) ∧ Kd.V (Kd.int .i64) 3 w' w.heap.size (fun k_ => (w.heap.size ≤ k_)) v0_ r ∧ Below w.heap.size w w' := by
 have HR1 := zm hr1
 have HC1 := zm hc1
 clear hr1 hc1
 have HR3 := zm hr3
 have HC3 := zm hc3
 clear hr3 hc3
 have HB := zm (Below.refl w.heap.size w)
 have H := h; clear h; unfold fp_PowMod.f at H
 obtain ⟨y101, Ny101⟩ := zA ((([1] : List Int)) : List Int); rw [← Ny101.out] at H
 obtain ⟨t104, A5, H⟩ := zO H
 obtain ⟨t107, A6, H⟩ := zO H
 have H' := zm H
 clear H
 go_enter Try.func99, Try.ntmps99
 go_wp2_with (first | ((with_reducible refine gate_dst (N := 14) rfl ?_); refine Kd.R_lit (Kd.int .i64) _ 3 ?hg (N := 14) ?hd (xs := ([1] : List Int)) (inner := [.int .i64 1]) (ok := fun _ => True) (okp := fun _ => True) ?hr ?hp (fun _ hk => hk) trivial (Below.refl _ _) (Nat.le_refl _) (by simp) ?_; (case hd => rfl); (case hg => rfl); (case hr => go_simp <;> rfl); (case hp => exact (Reps.one (show Kd.M (Kd.int .i64) _ _ _ 1 [.int .i64 1] from rfl) (Reps.none _ _))); intro v102 w7 ho8 hb hg_ hnew_; clear hg_ hnew_; (first | rw [← Ny101.out] at ho8 | (simp only [Int.reduceToNat] at ho8; rw [← Ny101.out] at ho8)); have HO103 := zm (Kd.R_lower (Kd.R_newM (M := fun k_ => (w.heap.size ≤ k_)) ho8 (zS HB) (fun k_ h_ => h_)) (zS HB)); replace HB := zBb HB hb; clear hb ho8; obtain ⟨Ao9, co9, eo9⟩ := Kd.R_slice HO103.out; subst eo9) | ((with_reducible refine gate_callee (f := 83) rfl ?_); refine zG (some 16) Try.func83 #[.int .i64 a0, .slice Ao9 y101.length co9, .slice A3 l3.length c3] ?_; (with_reducible refine (fp_Rem.calls k a0 _ _ y101 _ _ l3 t104 _ (zC ((Kd.R_reads' HO103.out).2.2)) ((Kd.R_reads' HO103.out).2.1) (zC (Kd.C_below HR3.out HB.out)) HC3.out A5.out).mono ?_); rintro e w10 ⟨v105, rfl, ho0, hb⟩; refine ⟨_, rfl, ?_⟩; have HO106 := zWV (fun k_ => (w.heap.size ≤ k_) ∧ some k_ ≠ (.slice Ao9 y101.length co9 : Value).ownBlock) ho0 HB (fun k_ hk_ => ⟨(Nat.le_trans (zS HB) hk_), (Kd.fresh' (Kd.R_lt (zR HO103.out)) k_ hk_)⟩); replace HO103 := zRb HO103 hb; replace HB := zBb HB hb) | ((with_reducible refine gate_callee (f := 83) rfl ?_); refine zG (some 20) Try.func83 #[.int .i64 a0, .slice A1 l1.length c1, .slice A3 l3.length c3] ?_; (with_reducible refine (fp_Rem.calls k a0 _ _ l1 _ _ l3 t107 _ (zC (Kd.C_below HR1.out HB.out)) HC1.out (zC (Kd.C_below HR3.out HB.out)) HC3.out A6.out).mono ?_); rintro e w11 ⟨v108, rfl, ho0, hb⟩; refine ⟨_, rfl, ?_⟩; replace HO106 := zVb HO106 hb; have HO109 := zWV (fun k_ => (w.heap.size ≤ k_) ∧ some k_ ≠ (.slice Ao9 y101.length co9 : Value).ownBlock) ho0 HB (fun k_ hk_ => ⟨(Nat.le_trans (zS HB) hk_), (Kd.fresh' (Kd.R_lt (zR HO103.out)) k_ hk_)⟩); replace HO103 := zRb HO103 hb; replace HB := zBb HB hb))
 go_loopg [9, 23] k (fun kq v9 v23 w' => ∃ (x9_1 : List Int) (x23_1 : Int), v23 = .int .i64 x23_1 ∧ Aside0 (fp_PowMod.l0 kq a0 a2 l3 x9_1 t107 (a2.size : Int) x23_1 = some r) ∧ Aside0 (kq ≤ k) ∧ Aside0 (Kd.V (Kd.int .i64) 3 w' w.heap.size (fun k_ => (w.heap.size ≤ k_)) v9 x9_1) ∧ Aside0 (Kd.V (Kd.int .i64) 3 w' w.heap.size (fun k_ => (w.heap.size ≤ k_)) v108 t107) ∧ Aside0 (Below w.heap.size w w'))
 case atStart => exact ⟨(t104), (0), zX, H', ⟨Nat.le_refl _⟩, ⟨zV (Kd.V_mono HO106.out (fun _ hk => hk.1))⟩, ⟨zV (Kd.V_mono HO109.out (fun _ hk => hk.1))⟩, ⟨zT⟩⟩
 case round =>
  clear H'
  obtain ⟨x9_1, x23_1, rfl, HA, HK1, HO_9, HO_10, HB⟩ := hrel
  cases gk with
  | zero => exact absurd HA.out (by simp [fp_PowMod.l0])
  | succ k1 =>
   have H := HA.out
   clear HA
   simp only [fp_PowMod.l0] at H
   by_cases c12 : x23_1 < (a2.size : Int)
   rotate_left
   ·rw [if_neg c12] at H
    have c12b0 := decide_eq_false c12; clear c12
    obtain rfl := Option.some.inj H
    go_wp2
    go_ret
    exact ⟨_, zQ, zV HO_9.out, zT⟩
   rw [if_pos c12] at H
   have c12b0 := decide_eq_true c12; clear c12
   have H' := zm H
   clear H
   go_wp2
   go_loopg [9, 12] k1 (fun kq v9 v12 w' => ∃ (x9_2 : List Int) (x12_2 : Int), v12 = .int .i64 x12_2 ∧ Aside0 (fp_PowMod.l1 kq a0 a2 l3 x9_2 t107 x23_1 x12_2 (a2.size : Int) x23_1 = some r) ∧ Aside0 (kq ≤ k1) ∧ Aside0 (Kd.V (Kd.int .i64) 3 w' w.heap.size (fun k_ => (w.heap.size ≤ k_)) v9 x9_2) ∧ Aside0 (Kd.V (Kd.int .i64) 3 w' w.heap.size (fun k_ => (w.heap.size ≤ k_)) v108 t107) ∧ Aside0 (Below w.heap.size w w'))
   case atStart => exact ⟨(x9_1), (7), zX, H', ⟨Nat.le_refl _⟩, ⟨zV HO_9.out⟩, ⟨zV HO_10.out⟩, ⟨zT⟩⟩
   case round =>
    clear H'
    obtain ⟨x9_2, x12_2, rfl, HA, HK2, HO_9, HO_10, HB⟩ := hrel
    cases gk with
    | zero => exact absurd HA.out (by simp [fp_PowMod.l1])
    | succ k2 =>
     have H := HA.out
     clear HA
     simp only [fp_PowMod.l1] at H
     by_cases c13 : x12_2 ≥ 0
     rotate_left
     ·rw [if_neg c13] at H
      have c13b0 := decide_eq_false c13; clear c13
      have H' := zm H
      clear H
      go_wp2
      go_roundg k2
      case measure => have := HK1.out; have := HK2.out; omega
      case rel => exact ⟨(x9_2), (wrap64 (x23_1 + 1)), zX, H', ⟨by have := HK1.out; have := HK2.out; omega⟩, ⟨zV HO_9.out⟩, ⟨zV HO_10.out⟩, ⟨zT⟩⟩
     rw [if_pos c13] at H
     have c13b0 := decide_eq_true c13; clear c13
     obtain ⟨t110, A14, H⟩ := zO H
     by_cases c15 : 0 ≤ x23_1
     rotate_left
     ·rw [if_neg c15] at H
      exact absurd H (by simp)
     rw [if_pos c15] at H
     have c15b0 := decide_eq_true c15; clear c15
     by_cases c16 : x23_1 < (a2.size : Int)
     rotate_left
     ·rw [if_neg c16] at H
      exact absurd H (by simp)
     rw [if_pos c16] at H
     have c16b0 := decide_eq_true c16; clear c16
     by_cases c18 : 0 ≤ x12_2
     rotate_left
     ·rw [if_neg c18] at H
      exact absurd H (by simp)
     rw [if_pos c18] at H
     have c18b0 := eq_true c18; have c18b1 := decide_eq_true c18; clear c18
     obtain ⟨ji19, hji19⟩ : ∃ j_ : Int, (shr .u8 (bt a2 x23_1) x12_2) = j_ := ⟨_, rfl⟩
     first | rw [hji19] at H | simp only [hji19] at H
     (try rw [hji19] at A14)
     have hji19_ : ((bt a2 x23_1) / 2 ^ min x12_2.toNat 8) = ji19 := hji19
     have hji19z : x12_2 ≤ 8 → ((bt a2 x23_1) / 2 ^ x12_2.toNat) = ji19 := shr_small hji19
     by_cases c20 : (Go.bits .and .u8 (ji19) 1) = 1
     rotate_left
     ·rw [if_neg c20] at H
      obtain ⟨c20b0, c20b1⟩ := zU c20
      have H' := zm H
      clear H
      obtain ⟨Ao27, co27, eo27⟩ := Kd.V_slice HO_9.out
      subst eo27
      go_wp2_with (first | ((with_reducible refine gate_callee (f := 94) rfl ?_); refine zG (some 34) Try.func94 #[.int .i64 a0, .slice Ao27 x9_2.length co27, .slice Ao27 x9_2.length co27, .slice A3 l3.length c3] ?_; (with_reducible refine (fp_MulMod.calls k2 a0 _ _ x9_2 _ _ x9_2 _ _ l3 t110 _ (zC ((Kd.V_reads' HO_9.out).2.2)) ((Kd.V_reads' HO_9.out).2.1) (zC ((Kd.V_reads' HO_9.out).2.2)) ((Kd.V_reads' HO_9.out).2.1) (zC (Kd.C_below HR3.out HB.out)) HC3.out A14.out).mono ?_); rintro e w28 ⟨v111, rfl, ho0, hb⟩; refine ⟨_, rfl, ?_⟩; replace HO_9 := zVb HO_9 hb; replace HO_10 := zVb HO_10 hb; have HO112 := zWV (fun k_ => (w.heap.size ≤ k_)) ho0 HB (fun k_ hk_ => (Nat.le_trans (zS HB) hk_)); replace HB := zBb HB hb; have p17 : 0 ≤ (x23_1 : Int) := zD; have q17 : x23_1 < (a2.size : Int) := zD; have hx17 := bt_at a2 x23_1; replace p17 := eq_true p17; replace q17 := eq_true q17))
      go_roundg k2
      case measure => have := HK1.out; have := HK2.out; omega
      case rel => exact ⟨(t110), (wrap64 (x12_2 - 1)), zX, H', ⟨by have := HK1.out; have := HK2.out; omega⟩, ⟨zV HO112.out⟩, ⟨zV HO_10.out⟩, ⟨zT⟩⟩
     rw [if_pos c20] at H
     obtain ⟨c20b0, c20b1⟩ := zE c20; clear c20
     obtain ⟨t113, A21, H⟩ := zO H
     have H' := zm H
     clear H
     obtain ⟨Ao22, co22, eo22⟩ := Kd.V_slice HO_9.out
     subst eo22
     go_wp2_with (first | ((with_reducible refine gate_callee (f := 94) rfl ?_); refine zG (some 34) Try.func94 #[.int .i64 a0, .slice Ao22 x9_2.length co22, .slice Ao22 x9_2.length co22, .slice A3 l3.length c3] ?_; (with_reducible refine (fp_MulMod.calls k2 a0 _ _ x9_2 _ _ x9_2 _ _ l3 t110 _ (zC ((Kd.V_reads' HO_9.out).2.2)) ((Kd.V_reads' HO_9.out).2.1) (zC ((Kd.V_reads' HO_9.out).2.2)) ((Kd.V_reads' HO_9.out).2.1) (zC (Kd.C_below HR3.out HB.out)) HC3.out A14.out).mono ?_); rintro e w23 ⟨v111, rfl, ho0, hb⟩; refine ⟨_, rfl, ?_⟩; replace HO_9 := zVb HO_9 hb; replace HO_10 := zVb HO_10 hb; have HO112 := zWV (fun k_ => (w.heap.size ≤ k_)) ho0 HB (fun k_ hk_ => (Nat.le_trans (zS HB) hk_)); replace HB := zBb HB hb; have p17 : 0 ≤ (x23_1 : Int) := zD; have q17 : x23_1 < (a2.size : Int) := zD; have hx17 := bt_at a2 x23_1; replace p17 := eq_true p17; replace q17 := eq_true q17; obtain ⟨Ao24, co24, eo24⟩ := Kd.V_slice HO112.out; subst eo24; obtain ⟨Ao25, co25, eo25⟩ := Kd.V_slice HO_10.out; subst eo25) | ((with_reducible refine gate_callee (f := 94) rfl ?_); refine zG (some 46) Try.func94 #[.int .i64 a0, .slice Ao24 t110.length co24, .slice Ao25 t107.length co25, .slice A3 l3.length c3] ?_; (with_reducible refine (fp_MulMod.calls k2 a0 _ _ t110 _ _ t107 _ _ l3 t113 _ (zC ((Kd.V_reads' HO112.out).2.2)) ((Kd.V_reads' HO112.out).2.1) (zC ((Kd.V_reads' HO_10.out).2.2)) ((Kd.V_reads' HO_10.out).2.1) (zC (Kd.C_below HR3.out HB.out)) HC3.out A21.out).mono ?_); rintro e w26 ⟨v114, rfl, ho0, hb⟩; refine ⟨_, rfl, ?_⟩; replace HO_9 := zVb HO_9 hb; replace HO_10 := zVb HO_10 hb; replace HO112 := zVb HO112 hb; have HO115 := zWV (fun k_ => (w.heap.size ≤ k_)) ho0 HB (fun k_ hk_ => (Nat.le_trans (zS HB) hk_)); replace HB := zBb HB hb))
     go_roundg k2
     case measure => have := HK1.out; have := HK2.out; omega
     case rel => exact ⟨(t113), (wrap64 (x12_2 - 1)), zX, H', ⟨by have := HK1.out; have := HK2.out; omega⟩, ⟨zV HO115.out⟩, ⟨zV HO_10.out⟩, ⟨zT⟩⟩
def fp_Power.f (k : Nat) (a0 : Int) (l1 : List Int) (l2 : List Int) : Option (List Int) := (fp_PowMod.f k a0 l1 (strOfNums (([(a0 / 256) % 256, (a0) % 256] : List Int))) l2).bind fun t104 => (some t104)
theorem fp_Power.mono : ∀ a0 a1 a2 k, LeO (fp_Power.f k a0 a1 a2) (fp_Power.f (k + 1) a0 a1 a2) := by
 intro a0 a1 a2 k
 unfold fp_Power.f
 with_reducible repeat' first | exact fp_PowMod.mono _ _ _ _ _ | exact LeO.refl _ | exact LeO.none _ | refine LeO.ite ?_ ?_ | refine LeO.bind ?_ (fun _ => ?_)
theorem fp_Power.calls (k : Nat) (a0 : Int) (A1 : Option Addr) (c1 : Nat) (l1 : List Int) (A2 : Option Addr) (c2 : Nat) (l2 : List Int) (r : List Int) (w : World) (hr1 : Kd.C (Kd.int .i64) w A1 l1.length l1) (hc1 : l1.length ≤ c1) (hr2 : Kd.C (Kd.int .i64) w A2 l2.length l2) (hc2 : l2.length ≤ c2) (h : fp_Power.f k a0 l1 l2 = some r) :
  Calls Try.prog 84 #[.int .i64 a0, .slice A1 l1.length c1, .slice A2 l2.length c2] w fun e w' => ∃ v0_ : Value, e = .returned (v0_) ∧ Kd.V (Kd.int .i64) 3 w' w.heap.size (fun k_ => (w.heap.size ≤ k_)) v0_ r ∧ Below w.heap.size w w' := by
 have HR1 := zm hr1
 have HC1 := zm hc1
 clear hr1 hc1
 have HR2 := zm hr2
 have HC2 := zm hc2
 clear hr2 hc2
 have HB := zm (Below.refl w.heap.size w)
 have H := h; clear h; unfold fp_Power.f at H
 obtain ⟨y101, Ny101⟩ := zA ((([(a0 / 256) % 256, (a0) % 256] : List Int)) : List Int); rw [← Ny101.out] at H
 obtain ⟨t104, A4, H⟩ := zO H
 obtain rfl := Option.some.inj H
 go_enter Try.func84, Try.ntmps84
 go_wp2_with (first | ((with_reducible refine gate_dst (N := 14) rfl ?_); refine Kd.R_lit (Kd.int .u8) _ 5 ?hg (N := 14) ?hd (xs := ([(a0 / 256) % 256, (a0) % 256] : List Int)) (inner := [.int .u8 ((a0 / 256) % 256), .int .u8 ((a0) % 256)]) (ok := fun _ => True) (okp := fun _ => True) ?hr ?hp (fun _ hk => hk) trivial (Below.refl _ _) (Nat.le_refl _) (by simp) ?_; (case hd => rfl); (case hg => rfl); (case hr => go_simp <;> rfl); (case hp => exact (Reps.one (show Kd.M (Kd.int .u8) _ _ _ ((a0 / 256) % 256) [.int .u8 ((a0 / 256) % 256)] from rfl) (Reps.one (show Kd.M (Kd.int .u8) _ _ _ ((a0) % 256) [.int .u8 ((a0) % 256)] from rfl) (Reps.none _ _)))); intro v102 w5 ho6 hb hg_ hnew_; clear hg_ hnew_; (first | rw [← Ny101.out] at ho6 | (simp only [Int.reduceToNat] at ho6; rw [← Ny101.out] at ho6)); have HO103 := zm (Kd.R_lower (Kd.R_newM (M := fun k_ => (w.heap.size ≤ k_)) ho6 (zS HB) (fun k_ h_ => h_)) (zS HB)); replace HB := zBb HB hb; clear hb ho6; have hcv7 := own_string (P := Try.prog) Try.underlying112 Try.underlying5 Try.underlying51 (Kd.own_of_R HO103.out)) | ((with_reducible refine gate_callee (f := 99) rfl ?_); refine zG (some 17) Try.func99 #[.int .i64 a0, .slice A1 l1.length c1, .string (strOfNums y101), .slice A2 l2.length c2] ?_; (with_reducible refine (fp_PowMod.calls k a0 _ _ l1 (strOfNums y101) _ _ l2 t104 _ (zC (Kd.C_below HR1.out HB.out)) HC1.out (zC (Kd.C_below HR2.out HB.out)) HC2.out A4.out).mono ?_); rintro e w8 ⟨v105, rfl, ho0, hb⟩; refine ⟨_, rfl, ?_⟩; have HO106 := zWV (fun k_ => (w.heap.size ≤ k_) ∧ some k_ ≠ (v102 : Value).ownBlock) ho0 HB (fun k_ hk_ => ⟨(Nat.le_trans (zS HB) hk_), (Kd.fresh' (Kd.R_lt (zR HO103.out)) k_ hk_)⟩); replace HO103 := zRb HO103 hb; replace HB := zBb HB hb))
 go_ret
 exact ⟨_, zQ, zV (Kd.V_mono HO106.out (fun _ hk => hk.1)), zT⟩
def fp_Scale.l0 : Nat → Int → Int → List Int → List Int → Int → Int → Option (List Int)
 | 0, _, _, _, _, _, _ => none
 | k + 1, x0, x2, x7, x13, x14, x15 => if x15 < x14 then (if 0 ≤ x15 then (if x15 < (x13.length : Int) then (if x0 = 0 then (none) else (if x15 < (x7.length : Int) then (fp_Scale.l0 k x0 x2 (x7.set (x15 : Int).toNat (Int.tmod (wrap64 ((rd x13 x15) * x2)) x0)) x13 x14 (wrap64 (x15 + 1))) else (none))) else (none)) else (none)) else ((fp_Trim.f k x7).bind fun t106 => (some t106))
def fp_Scale.f (k : Nat) (a0 : Int) (l1 : List Int) (a2 : Int) : Option (List Int) := if 0 ≤ (l1.length : Int) then (if ((l1.length : Int) : Int).toNat ≤ 35184372088832 then (fp_Scale.l0 k a0 a2 (List.replicate ((l1.length : Int) : Int).toNat 0) l1 (l1.length : Int) 0) else (none)) else (none)
theorem fp_Scale.mono_l : ∀ k, (∀ y0 y1 y2 y3 y4 y5, LeO (fp_Scale.l0 k y0 y1 y2 y3 y4 y5) (fp_Scale.l0 (k + 1) y0 y1 y2 y3 y4 y5))
 | 0 => fun _ _ _ _ _ _ r h => by simp [fp_Scale.l0] at h
 | k + 1 => by
  have ih0 := fp_Scale.mono_l k
  intro y0 y1 y2 y3 y4 y5
  unfold fp_Scale.l0
  with_reducible repeat' first | exact ih0 _ _ _ _ _ _ | exact fp_Trim.mono _ _ | exact LeO.refl _ | exact LeO.none _ | refine LeO.ite ?_ ?_ | refine LeO.bind ?_ (fun _ => ?_)
theorem fp_Scale.mono : ∀ a0 a1 a2 k, LeO (fp_Scale.f k a0 a1 a2) (fp_Scale.f (k + 1) a0 a1 a2) := by
 intro a0 a1 a2 k
 have ih0 := fp_Scale.mono_l k
 unfold fp_Scale.f
 with_reducible repeat' first | exact ih0 _ _ _ _ _ _ | exact fp_Trim.mono _ _ | exact LeO.refl _ | exact LeO.none _ | refine LeO.ite ?_ ?_ | refine LeO.bind ?_ (fun _ => ?_)
theorem fp_Scale.calls (k : Nat) (a0 : Int) (A1 : Option Addr) (c1 : Nat) (l1 : List Int) (a2 : Int) (r : List Int) (w : World) (hr1 : Kd.C (Kd.int .i64) w A1 l1.length l1) (hc1 : l1.length ≤ c1) (h : fp_Scale.f k a0 l1 a2 = some r) :
  Calls Try.prog 57 #[.int .i64 a0, .slice A1 l1.length c1, .int .i64 a2] w fun e w' => ∃ v0_ : Value, e = .returned (v0_) ∧ Kd.V (Kd.int .i64) 3 w' w.heap.size (fun k_ => (w.heap.size ≤ k_)) v0_ r ∧ Below w.heap.size w w' := by
 have HR1 := zm hr1
 have HC1 := zm hc1
 clear hr1 hc1
 have HB := zm (Below.refl w.heap.size w)
 have H := h; clear h; unfold fp_Scale.f at H
 by_cases c4 : 0 ≤ (l1.length : Int)
 rotate_left
 ·rw [if_neg c4] at H
  exact absurd H (by simp)
 rw [if_pos c4] at H
 have c4b0 := eq_true c4; have c4b1 := decide_eq_true c4; clear c4
 by_cases c5 : ((l1.length : Int) : Int).toNat ≤ 35184372088832
 rotate_left
 ·rw [if_neg c5] at H
  exact absurd H (by simp)
 rw [if_pos c5] at H
 have c5b0 := eq_true c5; have c5b1 := decide_eq_true c5; clear c5
 obtain ⟨y101, Ny101⟩ := zA ((List.replicate ((l1.length : Int) : Int).toNat 0) : List Int); rw [← Ny101.out] at H
 have H' := zm H
 clear H
 go_enter Try.func57, Try.ntmps57
 go_wp2_with (first | ((with_reducible refine gate_dst (N := 12) rfl ?_); refine Kd.R_make (Kd.int .i64) _ 3 rfl (N := 12) rfl 25 _ _ rfl (l1.length : Int) rfl rfl Try.underlying25 (.int .i64 0) 8 info3 rfl (by decide) (by omega) 0 (ok := fun _ => True) (okp := fun _ => True) rfl (fun _ hk => hk) trivial zD (Nat.le_trans (Nat.mul_le_mul_right _ (zD : (l1.length : Int).toNat ≤ 35184372088832)) (by omega)) (Below.refl _ _) (Nat.le_refl _) ?_; intro v102 w6 ho7 hb hg_ hnew_; clear hg_ hnew_; (first | rw [← Ny101.out] at ho7 | (simp only [Int.reduceToNat] at ho7; rw [← Ny101.out] at ho7)); have HO103 := zm (Kd.R_lower (Kd.R_newM (M := fun k_ => (w.heap.size ≤ k_)) ho7 (zS HB) (fun k_ h_ => h_)) (zS HB)); replace HB := zBb HB hb; clear hb ho7))
 go_loopg [15] k (fun kq v15 w' => ∃ (x7_1 : List Int) (x15_1 : Int), v15 = .int .i64 x15_1 ∧ Aside0 (fp_Scale.l0 kq a0 a2 x7_1 l1 (l1.length : Int) x15_1 = some r) ∧ Aside0 (kq ≤ k) ∧ Aside0 (Kd.R (Kd.int .i64) 3 w' w.heap.size (fun k_ => (w.heap.size ≤ k_)) v102 x7_1) ∧ Aside0 (Below w.heap.size w w'))
 case atStart => exact ⟨(y101), (0), zX, H', ⟨Nat.le_refl _⟩, ⟨zR (Kd.R_mono HO103.out (fun _ hk => hk.1))⟩, ⟨zT⟩⟩
 case round =>
  clear H'
  obtain ⟨x7_1, x15_1, rfl, HA, HK1, HO_7, HB⟩ := hrel
  cases gk with
  | zero => exact absurd HA.out (by simp [fp_Scale.l0])
  | succ k1 =>
   have H := HA.out
   clear HA
   simp only [fp_Scale.l0] at H
   by_cases c8 : x15_1 < (l1.length : Int)
   rotate_left
   ·rw [if_neg c8] at H
    have c8b0 := decide_eq_false c8; clear c8
    obtain ⟨t106, A16, H⟩ := zO H
    obtain rfl := Option.some.inj H
    obtain ⟨Ao17, co17, eo17⟩ := Kd.R_slice HO_7.out
    subst eo17
    go_wp2_with (first | ((with_reducible refine gate_callee (f := 92) rfl ?_); refine zG (some 30) Try.func92 #[.slice Ao17 x7_1.length co17] ?_; (with_reducible refine (fp_Trim.calls k1 (fun k_ => some k_ = (.slice Ao17 x7_1.length co17 : Value).ownBlock) _ _ x7_1 t106 _ (Kd.R_V (Kd.R_tight rfl (HO_7.out))) A16.out).mono ?_); rintro e w18 ⟨v107, rfl, ho0, hb⟩; refine ⟨_, rfl, ?_⟩; have HO108 := zWV (fun k_ => (w.heap.size ≤ k_)) ho0 HB (fun k_ hk_ => Or.elim hk_ (fun hs_ => ((HO_7.out).1 k_ hs_.symm)) (fun hn_ => (Nat.le_trans (zS HB) hn_))); replace HO_7 := zRb HO_7 hb; replace HB := zBb HB hb))
    go_ret
    exact ⟨_, zQ, zV HO108.out, zT⟩
   rw [if_pos c8] at H
   have c8b0 := decide_eq_true c8; clear c8
   by_cases c9 : 0 ≤ x15_1
   rotate_left
   ·rw [if_neg c9] at H
    exact absurd H (by simp)
   rw [if_pos c9] at H
   have c9b0 := decide_eq_true c9; clear c9
   by_cases c10 : x15_1 < (l1.length : Int)
   rotate_left
   ·rw [if_neg c10] at H
    exact absurd H (by simp)
   rw [if_pos c10] at H
   have c10b0 := decide_eq_true c10; clear c10
   by_cases c11 : a0 = 0
   ·rw [if_pos c11] at H
    exact absurd H (by simp)
   rw [if_neg c11] at H
   obtain ⟨c11b0, c11b1⟩ := zU c11
   by_cases c12 : x15_1 < (x7_1.length : Int)
   rotate_left
   ·rw [if_neg c12] at H
    exact absurd H (by simp)
   rw [if_pos c12] at H
   have c12b0 := decide_eq_true c12; clear c12
   obtain ⟨y105, Ny105⟩ := zA ((x7_1.set (x15_1 : Int).toNat (Int.tmod (wrap64 ((rd l1 x15_1) * a2)) a0)) : List Int); rw [← Ny105.out] at H
   have H' := zm H
   clear H
   obtain ⟨p104, q104, ad104, e104, hx104_0⟩ := zI (HR1.out) (x15_1) zD zD
   cases e104
   replace hx104_0 := (HB.out.cell (World.block_lt_of_cell? w _ hx104_0)).trans hx104_0
   have p13 : 0 ≤ (x15_1 : Int) := zD
   have q13 : (x15_1 : Int) < ((x7_1.length : Int) : Int) := zD
   obtain ⟨go13, co13, eo13, gb13, gl13, cl13, HG13⟩ := Kd.R_form HO_7.out (by omega)
   (first | cases eo13 | (injection eo13 with ea_ en_ ec_; (first | subst ea_ | (injection ea_ with ea_; subst ea_)); subst ec_; clear en_))
   have GB13 := zm gb13
   have GG13 := zm HG13
   clear gb13 gl13 HG13
   obtain ⟨hx13_0, hf13_0⟩ := Kd.R_celln 0 HO_7.out (x15_1 : Int) p13 q13
   replace p13 := eq_true p13
   replace q13 := eq_true q13
   have HP14 := Kd.R_putg HO_7.out (x15_1 : Int) (Int.tmod (wrap64 ((rd l1 x15_1) * a2)) a0)
   go_wp2_with (first | ((with_reducible refine gate_store (t := 3) (p := 27) rfl ?_); refine store_event (t := 3) (p := 27) (v := ?vo_w15) (w1 := (wr.setCell ⟨go13, (x15_1 : Int).toNat, none⟩ (.int .i64 (Int.tmod (wrap64 ((rd l1 x15_1) * a2)) a0)))) ?hg ?ho ?hn ?hr ?_; (case ho => rfl); (case hg => rfl); (case hn => rfl); (case hr => go_simp <;> rfl); intro w15 hw; have hg : wr.grownBy w15 (some go13) := (by rw [hw]; exact HP14.2); have hp_ : Kd.R (Kd.int .i64) 3 w15 w.heap.size (fun k_ => (w.heap.size ≤ k_)) (.slice (some ⟨go13, 0, none⟩) x7_1.length co13) y105 := (by rw [hw, Ny105.out]; exact HP14.1); clear HP14; replace HO_7 := zm (hp_); replace HB := zm ((by rw [hw]; exact below_set (HB.out) GB13.out : Below w.heap.size w w15)); clear hg hw hp_))
   go_roundg k1
   case measure => have := HK1.out; omega
   case rel => exact ⟨(y105), (wrap64 (x15_1 + 1)), zX, H', ⟨by have := HK1.out; omega⟩, ⟨zR HO_7.out⟩, ⟨zT⟩⟩
def fp_Monic.f (k : Nat) (a0 : Int) (l1 : List Int) : Option (List Int) := if (l1.length : Int) = 0 then (some ([] : List Int)) else (if 0 ≤ (wrap64 ((l1.length : Int) - 1)) then (if (wrap64 ((l1.length : Int) - 1)) < (l1.length : Int) then ((fp_Inv.f k a0 (rd l1 (wrap64 ((l1.length : Int) - 1)))).bind fun t102 => ((fp_Scale.f k a0 l1 t102).bind fun t103 => (some t103))) else (none)) else (none))
theorem fp_Monic.mono : ∀ a0 a1 k, LeO (fp_Monic.f k a0 a1) (fp_Monic.f (k + 1) a0 a1) := by
 intro a0 a1 k
 unfold fp_Monic.f
 with_reducible repeat' first | exact fp_Inv.mono _ _ _ | exact fp_Scale.mono _ _ _ _ | exact LeO.refl _ | exact LeO.none _ | refine LeO.ite ?_ ?_ | refine LeO.bind ?_ (fun _ => ?_)
theorem fp_Monic.calls (k : Nat) (a0 : Int) (A1 : Option Addr) (c1 : Nat) (l1 : List Int) (r : List Int) (w : World) (hr1 : Kd.C (Kd.int .i64) w A1 l1.length l1) (hc1 : l1.length ≤ c1) (h : fp_Monic.f k a0 l1 = some r) :
  Calls Try.prog 107 #[.int .i64 a0, .slice A1 l1.length c1] w fun e w' => ∃ v0_ : Value, e = .returned (v0_) ∧ Kd.V (Kd.int .i64) 3 w' w.heap.size (fun k_ => (w.heap.size ≤ k_)) v0_ r ∧ Below w.heap.size w w' := by
 have HR1 := zm hr1
 have HC1 := zm hc1
 clear hr1 hc1
 have HB := zm (Below.refl w.heap.size w)
 have H := h; clear h; unfold fp_Monic.f at H
 by_cases c3 : (l1.length : Int) = 0
 ·rw [if_pos c3] at H
  obtain ⟨c3b0, c3b1⟩ := zE c3; clear c3
  obtain rfl := Option.some.inj H
  go_enter Try.func107, Try.ntmps107
  go_wp2
  go_ret
  exact ⟨_, zQ, zL, zT⟩
 rw [if_neg c3] at H
 obtain ⟨c3b0, c3b1⟩ := zU c3
 have c3b2 : ¬ (l1 = []) := fun h_ => c3 (by rw [h_]; rfl)
 obtain ⟨ji4, hji4⟩ : ∃ j_ : Int, (wrap64 ((l1.length : Int) - 1)) = j_ := ⟨_, rfl⟩
 first | rw [hji4] at H | simp only [hji4] at H
 have hji4w : (IntKind.i64.wrap ((l1.length : Int) - 1)) = ji4 := (i64_w _).trans hji4
 by_cases c5 : 0 ≤ (ji4)
 rotate_left
 ·rw [if_neg c5] at H
  exact absurd H (by simp)
 rw [if_pos c5] at H
 have c5b0 := decide_eq_true c5; clear c5
 by_cases c6 : (ji4) < (l1.length : Int)
 rotate_left
 ·rw [if_neg c6] at H
  exact absurd H (by simp)
 rw [if_pos c6] at H
 have c6b0 := decide_eq_true c6; clear c6
 obtain ⟨t102, A7, H⟩ := zO H
 obtain ⟨t103, A8, H⟩ := zO H
 obtain rfl := Option.some.inj H
 obtain ⟨p101, q101, ad101, e101, hx101_0⟩ := zI (HR1.out) ((ji4)) zD zD
 cases e101
 go_enter Try.func107, Try.ntmps107
 go_wp2_with (first | ((with_reducible refine gate_callee (f := 114) rfl ?_); refine zH (some 17) Try.func114 #[.int .i64 a0, .int .i64 (rd l1 (ji4))] rfl (by (try simp only [List.map_toArray, List.map_cons, List.map_nil]); first | done | (simp only [hji4]; rfl) | rfl | (simp only [List.length_drop, List.length_take]; rfl)) ?_; (with_reducible refine (fp_Inv.calls k a0 (rd l1 (ji4)) t102 _ A7.out).mono ?_); rintro e w' ⟨rfl, ⟨nd, rfl⟩⟩; refine ⟨_, rfl, ?_⟩) | ((with_reducible refine gate_callee (f := 57) rfl ?_); refine zG (some 18) Try.func57 #[.int .i64 a0, .slice (some ad101) l1.length c1, .int .i64 t102] ?_; (with_reducible refine (fp_Scale.calls k a0 _ _ l1 t102 t103 _ (zC (HR1.out)) HC1.out A8.out).mono ?_); rintro e w9 ⟨v104, rfl, ho0, hb⟩; refine ⟨_, rfl, ?_⟩; have HO105 := zWV (fun k_ => (w.heap.size ≤ k_)) ho0 HB (fun k_ hk_ => (Nat.le_trans (zS HB) hk_)); replace HB := zBb HB hb))
 go_ret
 exact ⟨_, by first | rfl | (simp [errW_none, errW_some] <;> rfl) | (simp only [← hji4]; first | rfl | (simp [errW_none, errW_some] <;> rfl)) | (simp [*, errW_none, errW_some] <;> rfl), zV HO105.out, zT⟩
def fp_Gcd.l0 : Nat → Int → List Int → List Int → Option (List Int)
 | 0, _, _, _ => none
 | k + 1, x0, x1, x2 => if (x2.length : Int) > 0 then ((fp_Rem.f k x0 x1 x2).bind fun t101 => (fp_Gcd.l0 k x0 x2 t101)) else ((fp_Monic.f k x0 x1).bind fun t104 => (some t104))
def fp_Gcd.f (k : Nat) (a0 : Int) (l1 : List Int) (l2 : List Int) : Option (List Int) := fp_Gcd.l0 k a0 l1 l2
theorem fp_Gcd.mono_l : ∀ k, (∀ y0 y1 y2, LeO (fp_Gcd.l0 k y0 y1 y2) (fp_Gcd.l0 (k + 1) y0 y1 y2))
 | 0 => fun _ _ _ r h => by simp [fp_Gcd.l0] at h
 | k + 1 => by
  have ih0 := fp_Gcd.mono_l k
  intro y0 y1 y2
  unfold fp_Gcd.l0
  with_reducible repeat' first | exact ih0 _ _ _ | exact fp_Monic.mono _ _ _ | exact fp_Rem.mono _ _ _ _ | exact LeO.refl _ | exact LeO.none _ | refine LeO.ite ?_ ?_ | refine LeO.bind ?_ (fun _ => ?_)
theorem fp_Gcd.mono : ∀ a0 a1 a2 k, LeO (fp_Gcd.f k a0 a1 a2) (fp_Gcd.f (k + 1) a0 a1 a2) := by
 intro a0 a1 a2 k
 have ih0 := fp_Gcd.mono_l k
 unfold fp_Gcd.f
 with_reducible repeat' first | exact ih0 _ _ _ | exact fp_Monic.mono _ _ _ | exact fp_Rem.mono _ _ _ _ | exact LeO.refl _ | exact LeO.none _ | refine LeO.ite ?_ ?_ | refine LeO.bind ?_ (fun _ => ?_)
theorem fp_Gcd.calls (k : Nat) (a0 : Int) (P1_ : Nat → Prop) (A1 : Option Addr) (c1 : Nat) (l1 : List Int) (P2_ : Nat → Prop) (A2 : Option Addr) (c2 : Nat) (l2 : List Int) (r : List Int) (w : World) (hs1 : Kd.V (Kd.int .i64) 3 w w.heap.size (fun k_ => P1_ k_) (.slice A1 l1.length c1) l1) (hs2 : Kd.V (Kd.int .i64) 3 w w.heap.size (fun k_ => P2_ k_) (.slice A2 l2.length c2) l2) (h : fp_Gcd.f k a0 l1 l2 = some r) :
  Calls Try.prog 85 #[.int .i64 a0, .slice A1 l1.length c1, .slice A2 l2.length c2] w fun e w' => ∃ v0_ : Value, e = .returned (v0_) ∧ Kd.V (Kd.int .i64) 3 w' w.heap.size (fun k_ => ((P1_ k_ ∨ P2_ k_) ∨ w.heap.size ≤ k_)) v0_ r ∧ Below w.heap.size w w' := by
 have HO1 := zm (show Kd.V (Kd.int .i64) 3 w w.heap.size (fun k_ => ((P1_ k_ ∨ P2_ k_) ∨ w.heap.size ≤ k_)) (.slice A1 l1.length c1) l1 from Kd.V_mono hs1 (fun k_ hk => .inl (.inl hk)))
 have HO2 := zm (show Kd.V (Kd.int .i64) 3 w w.heap.size (fun k_ => ((P1_ k_ ∨ P2_ k_) ∨ w.heap.size ≤ k_)) (.slice A2 l2.length c2) l2 from Kd.V_mono hs2 (fun k_ hk => .inl (.inr hk)))
 have HB := zm (Below.refl w.heap.size w)
 have H := h; clear h; unfold fp_Gcd.f at H
 have H' := zm H
 clear H
 go_enter Try.func85, Try.ntmps85
 go_wp2
 go_loopg [1, 2] k (fun kq v1 v2 w' => ∃ (x1_1 : List Int) (x2_1 : List Int), Aside0 (fp_Gcd.l0 kq a0 x1_1 x2_1 = some r) ∧ Aside0 (kq ≤ k) ∧ Aside0 (Kd.V (Kd.int .i64) 3 w' w.heap.size (fun k_ => ((P1_ k_ ∨ P2_ k_) ∨ w.heap.size ≤ k_)) v1 x1_1) ∧ Aside0 (Kd.V (Kd.int .i64) 3 w' w.heap.size (fun k_ => ((P1_ k_ ∨ P2_ k_) ∨ w.heap.size ≤ k_)) v2 x2_1) ∧ Aside0 (Below w.heap.size w w'))
 case atStart => exact ⟨(l1), (l2), H', ⟨Nat.le_refl _⟩, ⟨zV HO1.out⟩, ⟨zV HO2.out⟩, ⟨zT⟩⟩
 case round =>
  clear H'
  obtain ⟨x1_1, x2_1, HA, HK1, HO_1, HO_2, HB⟩ := hrel
  cases gk with
  | zero => exact absurd HA.out (by simp [fp_Gcd.l0])
  | succ k1 =>
   have H := HA.out
   clear HA
   simp only [fp_Gcd.l0] at H
   by_cases c4 : (x2_1.length : Int) > 0
   rotate_left
   ·rw [if_neg c4] at H
    have c4b0 : decide (0 < (x2_1.length : Int)) = false := decide_eq_false c4
    have c4b1 : decide (0 < x2_1.length) = false := decide_eq_false (by omega)
    clear c4
    obtain ⟨t104, A9, H⟩ := zO H
    obtain rfl := Option.some.inj H
    obtain ⟨Ao10, co10, eo10⟩ := Kd.V_slice HO_2.out
    subst eo10
    obtain ⟨Ao11, co11, eo11⟩ := Kd.V_slice HO_1.out
    subst eo11
    go_wp2_with (first | ((with_reducible refine gate_callee (f := 107) rfl ?_); refine zG (some 17) Try.func107 #[.int .i64 a0, .slice Ao11 x1_1.length co11] ?_; (with_reducible refine (fp_Monic.calls k1 a0 _ _ x1_1 t104 _ (zC ((Kd.V_reads' HO_1.out).2.2)) ((Kd.V_reads' HO_1.out).2.1) A9.out).mono ?_); rintro e w12 ⟨v105, rfl, ho0, hb⟩; refine ⟨_, rfl, ?_⟩; replace HO_1 := zVb HO_1 hb; replace HO_2 := zVb HO_2 hb; have HO106 := zWV (fun k_ => ((P1_ k_ ∨ P2_ k_) ∨ w.heap.size ≤ k_)) ho0 HB (fun k_ hk_ => (.inr (Nat.le_trans (zS HB) hk_))); replace HB := zBb HB hb))
    go_ret
    exact ⟨_, zQ, zV HO106.out, zT⟩
   rw [if_pos c4] at H
   have c4b0 : decide (0 < (x2_1.length : Int)) = true := decide_eq_true c4
   have c4b1 : decide (0 < x2_1.length) = true := decide_eq_true (by omega)
   clear c4
   obtain ⟨t101, A5, H⟩ := zO H
   have H' := zm H
   clear H
   obtain ⟨Ao6, co6, eo6⟩ := Kd.V_slice HO_2.out
   subst eo6
   obtain ⟨Ao7, co7, eo7⟩ := Kd.V_slice HO_1.out
   subst eo7
   go_wp2_with (first | ((with_reducible refine gate_callee (f := 83) rfl ?_); refine zG (some 14) Try.func83 #[.int .i64 a0, .slice Ao7 x1_1.length co7, .slice Ao6 x2_1.length co6] ?_; (with_reducible refine (fp_Rem.calls k1 a0 _ _ x1_1 _ _ x2_1 t101 _ (zC ((Kd.V_reads' HO_1.out).2.2)) ((Kd.V_reads' HO_1.out).2.1) (zC ((Kd.V_reads' HO_2.out).2.2)) ((Kd.V_reads' HO_2.out).2.1) A5.out).mono ?_); rintro e w8 ⟨v102, rfl, ho0, hb⟩; refine ⟨_, rfl, ?_⟩; replace HO_1 := zVb HO_1 hb; replace HO_2 := zVb HO_2 hb; have HO103 := zWV (fun k_ => ((P1_ k_ ∨ P2_ k_) ∨ w.heap.size ≤ k_)) ho0 HB (fun k_ hk_ => (.inr (Nat.le_trans (zS HB) hk_))); replace HB := zBb HB hb))
   go_roundg k1
   case measure => have := HK1.out; omega
   case rel => exact ⟨(x2_1), (t101), H', ⟨by have := HK1.out; omega⟩, ⟨zV HO_2.out⟩, ⟨zV HO103.out⟩, ⟨zT⟩⟩
def fp_Irreducible.l0 : Nat → Int → List Int → Int → List Int → List Int → Int → Option (Bool)
 | 0, _, _, _, _, _, _ => none
 | k + 1, x0, x1, x5, x6, x7, x8 => if x8 ≤ x5 then ((fp_Power.f k x0 x7 x1).bind fun t107 => ((fp_Rem.f k x0 x6 x1).bind fun t110 => ((fp_Sub.f k x0 t107 t110).bind fun t113 => (if x8 = x5 then (some ((t113.length : Int) == 0)) else (if x8 = 0 then (none) else (if (Int.tmod x5 x8) = 0 then ((fp_Gcd.f k x0 t113 x1).bind fun t116 => (if (t116.length : Int) = 1 then (fp_Irreducible.l0 k x0 x1 x5 x6 t107 (wrap64 (x8 + 1))) else (some false))) else (fp_Irreducible.l0 k x0 x1 x5 x6 t107 (wrap64 (x8 + 1))))))))) else (some false)
def fp_Irreducible.f (k : Nat) (a0 : Int) (l1 : List Int) : Option (Bool) := if (wrap64 ((l1.length : Int) - 1)) < 1 then (some false) else ((some (([0, 1] : List Int) : List Int)).bind fun y101 => ((fp_Rem.f k a0 y101 l1).bind fun t104 => (fp_Irreducible.l0 k a0 l1 (wrap64 ((l1.length : Int) - 1)) y101 t104 1)))
theorem fp_Irreducible.mono_l : ∀ k, (∀ y0 y1 y2 y3 y4 y5, LeO (fp_Irreducible.l0 k y0 y1 y2 y3 y4 y5) (fp_Irreducible.l0 (k + 1) y0 y1 y2 y3 y4 y5))
 | 0 => fun _ _ _ _ _ _ r h => by simp [fp_Irreducible.l0] at h
 | k + 1 => by
  have ih0 := fp_Irreducible.mono_l k
  intro y0 y1 y2 y3 y4 y5
  unfold fp_Irreducible.l0
  with_reducible repeat' first | exact ih0 _ _ _ _ _ _ | exact fp_Gcd.mono _ _ _ _ | exact fp_Power.mono _ _ _ _ | exact fp_Rem.mono _ _ _ _ | exact fp_Sub.mono _ _ _ _ | exact LeO.refl _ | exact LeO.none _ | refine LeO.ite ?_ ?_ | refine LeO.bind ?_ (fun _ => ?_)
theorem fp_Irreducible.mono : ∀ a0 a1 k, LeO (fp_Irreducible.f k a0 a1) (fp_Irreducible.f (k + 1) a0 a1) := by
 intro a0 a1 k
 have ih0 := fp_Irreducible.mono_l k
 unfold fp_Irreducible.f
 with_reducible repeat' first | exact ih0 _ _ _ _ _ _ | exact fp_Gcd.mono _ _ _ _ | exact fp_Power.mono _ _ _ _ | exact fp_Rem.mono _ _ _ _ | exact fp_Sub.mono _ _ _ _ | exact LeO.refl _ | exact LeO.none _ | refine LeO.ite ?_ ?_ | refine LeO.bind ?_ (fun _ => ?_)
theorem fp_Irreducible.calls (k : Nat) (a0 : Int) (A1 : Option Addr) (c1 : Nat) (l1 : List Int) (r : Bool) (w : World) (hr1 : Kd.C (Kd.int .i64) w A1 l1.length l1) (hc1 : l1.length ≤ c1) (h : fp_Irreducible.f k a0 l1 = some r) :
  Calls Try.prog 46 #[.int .i64 a0, .slice A1 l1.length c1] w fun e w' => e = .returned (.bool r) ∧ Below w.heap.size w w' := by
 have HR1 := zm hr1
 have HC1 := zm hc1
 clear hr1 hc1
 have HB := zm (Below.refl w.heap.size w)
 have H := h; clear h; unfold fp_Irreducible.f at H
 by_cases c3 : (wrap64 ((l1.length : Int) - 1)) < 1
 ·rw [if_pos c3] at H
  have c3b0 := decide_eq_true c3; clear c3
  obtain rfl := Option.some.inj H
  go_enter Try.func46, Try.ntmps46
  go_wp2
  go_ret
  exact ⟨zQ, zT⟩
 rw [if_neg c3] at H
 have c3b0 := decide_eq_false c3; clear c3
 obtain ⟨y101, Ny101, H⟩ := zY H
 obtain ⟨t104, A4, H⟩ := zO H
 have H' := zm H
 clear H
 go_enter Try.func46, Try.ntmps46
 go_wp2_with (first | ((with_reducible refine gate_dst (N := 15) rfl ?_); (try (refine gate_guard (by rfl) ?_; dsimp only)); refine Kd.R_lit (Kd.int .i64) _ 3 ?hg (N := 15) ?hd (xs := ([0, 1] : List Int)) (inner := [.int .i64 0, .int .i64 1]) (ok := fun _ => True) (okp := fun _ => True) ?hr ?hp (fun _ hk => hk) trivial (Below.refl _ _) (Nat.le_refl _) (by simp) ?_; (case hd => rfl); (case hg => rfl); (case hr => go_simp <;> rfl); (case hp => exact (Reps.one (show Kd.M (Kd.int .i64) _ _ _ 0 [.int .i64 0] from rfl) (Reps.one (show Kd.M (Kd.int .i64) _ _ _ 1 [.int .i64 1] from rfl) (Reps.none _ _)))); intro v102 w5 ho6 hb hg_ hnew_; clear hg_ hnew_; (first | rw [← Ny101.out] at ho6 | (simp only [Int.reduceToNat] at ho6; rw [← Ny101.out] at ho6)); have HO103 := zm (Kd.R_lower ho6 (zS HB)); replace HB := zBb HB hb; clear hb ho6; obtain ⟨Ao7, co7, eo7⟩ := Kd.R_slice HO103.out; subst eo7) | ((with_reducible refine gate_callee (f := 83) rfl ?_); refine zG (some 19) Try.func83 #[.int .i64 a0, .slice Ao7 y101.length co7, .slice A1 l1.length c1] ?_; (with_reducible refine (fp_Rem.calls k a0 _ _ y101 _ _ l1 t104 _ (zC ((Kd.R_reads' HO103.out).2.2)) ((Kd.R_reads' HO103.out).2.1) (zC (Kd.C_below HR1.out HB.out)) HC1.out A4.out).mono ?_); rintro e w8 ⟨v105, rfl, ho0, hb⟩; refine ⟨_, rfl, ?_⟩; have HO106 := zWV (fun k_ => some k_ ≠ (.slice Ao7 y101.length co7 : Value).ownBlock) ho0 HB (fun k_ hk_ => (Kd.fresh' (Kd.R_lt (zR HO103.out)) k_ hk_)); replace HO103 := zRb HO103 hb; replace HB := zBb HB hb))
 go_loopg [7, 8] k (fun kq v7 v8 w' => ∃ (x7_1 : List Int) (x8_1 : Int), v8 = .int .i64 x8_1 ∧ Aside0 (fp_Irreducible.l0 kq a0 l1 (wrap64 ((l1.length : Int) - 1)) y101 x7_1 x8_1 = some r) ∧ Aside0 (kq ≤ k) ∧ Aside0 (Kd.R (Kd.int .i64) 3 w' w.heap.size (fun _ => True) (.slice Ao7 y101.length co7) y101) ∧ Aside0 (Kd.V (Kd.int .i64) 3 w' w.heap.size (fun k_ => some k_ ≠ ((.slice Ao7 y101.length co7) : Value).ownBlock) v7 x7_1) ∧ Aside0 (Below w.heap.size w w'))
 case atStart => exact ⟨(t104), (1), zX, H', ⟨Nat.le_refl _⟩, ⟨zR HO103.out⟩, ⟨zV HO106.out⟩, ⟨zT⟩⟩
 case round =>
  clear H'
  obtain ⟨x7_1, x8_1, rfl, HA, HK1, HO_6, HO_7, HB⟩ := hrel
  cases gk with
  | zero => exact absurd HA.out (by simp [fp_Irreducible.l0])
  | succ k1 =>
   have H := HA.out
   clear HA
   simp only [fp_Irreducible.l0] at H
   by_cases c9 : x8_1 ≤ (wrap64 ((l1.length : Int) - 1))
   rotate_left
   ·rw [if_neg c9] at H
    have c9b0 := decide_eq_false c9; clear c9
    obtain rfl := Option.some.inj H
    go_wp2
    go_ret
    exact ⟨zQ, zT⟩
   rw [if_pos c9] at H
   have c9b0 := decide_eq_true c9; clear c9
   obtain ⟨t107, A10, H⟩ := zO H
   obtain ⟨t110, A11, H⟩ := zO H
   obtain ⟨t113, A12, H⟩ := zO H
   by_cases c13 : x8_1 = (wrap64 ((l1.length : Int) - 1))
   ·rw [if_pos c13] at H
    obtain ⟨c13b0, c13b1⟩ := zE c13; clear c13
    obtain rfl := Option.some.inj H
    obtain ⟨Ao14, co14, eo14⟩ := Kd.V_slice HO_7.out
    subst eo14
    go_wp2_with (first | ((with_reducible refine gate_callee (f := 84) rfl ?_); refine zG (some 28) Try.func84 #[.int .i64 a0, .slice Ao14 x7_1.length co14, .slice A1 l1.length c1] ?_; (with_reducible refine (fp_Power.calls k1 a0 _ _ x7_1 _ _ l1 t107 _ (zC ((Kd.V_reads' HO_7.out).2.2)) ((Kd.V_reads' HO_7.out).2.1) (zC (Kd.C_below HR1.out HB.out)) HC1.out A10.out).mono ?_); rintro e w15 ⟨v108, rfl, ho0, hb⟩; refine ⟨_, rfl, ?_⟩; replace HO_7 := zVb HO_7 hb; have HO109 := zWV (fun k_ => some k_ ≠ (.slice Ao7 y101.length co7 : Value).ownBlock) ho0 HB (fun k_ hk_ => (Kd.fresh' (Kd.R_lt (zR HO_6.out)) k_ hk_)); replace HO_6 := zRb HO_6 hb; replace HB := zBb HB hb) | ((with_reducible refine gate_callee (f := 83) rfl ?_); refine zG (some 34) Try.func83 #[.int .i64 a0, .slice Ao7 y101.length co7, .slice A1 l1.length c1] ?_; (with_reducible refine (fp_Rem.calls k1 a0 _ _ y101 _ _ l1 t110 _ (zC ((Kd.R_reads' HO_6.out).2.2)) ((Kd.R_reads' HO_6.out).2.1) (zC (Kd.C_below HR1.out HB.out)) HC1.out A11.out).mono ?_); rintro e w16 ⟨v111, rfl, ho0, hb⟩; refine ⟨_, rfl, ?_⟩; replace HO_7 := zVb HO_7 hb; replace HO109 := zVb HO109 hb; have HO112 := zWV (fun k_ => some k_ ≠ (.slice Ao7 y101.length co7 : Value).ownBlock) ho0 HB (fun k_ hk_ => (Kd.fresh' (Kd.R_lt (zR HO_6.out)) k_ hk_)); replace HO_6 := zRb HO_6 hb; replace HB := zBb HB hb; obtain ⟨Ao17, co17, eo17⟩ := Kd.V_slice HO109.out; subst eo17; obtain ⟨Ao18, co18, eo18⟩ := Kd.V_slice HO112.out; subst eo18) | ((with_reducible refine gate_callee (f := 61) rfl ?_); refine zG (some 35) Try.func61 #[.int .i64 a0, .slice Ao17 t107.length co17, .slice Ao18 t110.length co18] ?_; (with_reducible refine (fp_Sub.calls k1 a0 _ _ t107 _ _ t110 t113 _ (zC ((Kd.V_reads' HO109.out).2.2)) ((Kd.V_reads' HO109.out).2.1) (zC ((Kd.V_reads' HO112.out).2.2)) ((Kd.V_reads' HO112.out).2.1) A12.out).mono ?_); rintro e w19 ⟨v114, rfl, ho0, hb⟩; refine ⟨_, rfl, ?_⟩; replace HO_7 := zVb HO_7 hb; replace HO109 := zVb HO109 hb; replace HO112 := zVb HO112 hb; have HO115 := zWV (fun k_ => some k_ ≠ (.slice Ao7 y101.length co7 : Value).ownBlock) ho0 HB (fun k_ hk_ => (Kd.fresh' (Kd.R_lt (zR HO_6.out)) k_ hk_)); replace HO_6 := zRb HO_6 hb; replace HB := zBb HB hb; obtain ⟨Ao20, co20, eo20⟩ := Kd.V_slice HO115.out; subst eo20))
    go_ret
    exact ⟨zQ, zT⟩
   rw [if_neg c13] at H
   obtain ⟨c13b0, c13b1⟩ := zU c13
   by_cases c21 : x8_1 = 0
   ·rw [if_pos c21] at H
    exact absurd H (by simp)
   rw [if_neg c21] at H
   obtain ⟨c21b0, c21b1⟩ := zU c21
   by_cases c22 : (Int.tmod (wrap64 ((l1.length : Int) - 1)) x8_1) = 0
   rotate_left
   ·rw [if_neg c22] at H
    obtain ⟨c22b0, c22b1⟩ := zU c22
    have H' := zm H
    clear H
    obtain ⟨Ao43, co43, eo43⟩ := Kd.V_slice HO_7.out
    subst eo43
    go_wp2_with (first | ((with_reducible refine gate_callee (f := 84) rfl ?_); refine zG (some 28) Try.func84 #[.int .i64 a0, .slice Ao43 x7_1.length co43, .slice A1 l1.length c1] ?_; (with_reducible refine (fp_Power.calls k1 a0 _ _ x7_1 _ _ l1 t107 _ (zC ((Kd.V_reads' HO_7.out).2.2)) ((Kd.V_reads' HO_7.out).2.1) (zC (Kd.C_below HR1.out HB.out)) HC1.out A10.out).mono ?_); rintro e w44 ⟨v108, rfl, ho0, hb⟩; refine ⟨_, rfl, ?_⟩; replace HO_7 := zVb HO_7 hb; have HO109 := zWV (fun k_ => some k_ ≠ (.slice Ao7 y101.length co7 : Value).ownBlock) ho0 HB (fun k_ hk_ => (Kd.fresh' (Kd.R_lt (zR HO_6.out)) k_ hk_)); replace HO_6 := zRb HO_6 hb; replace HB := zBb HB hb) | ((with_reducible refine gate_callee (f := 83) rfl ?_); refine zG (some 34) Try.func83 #[.int .i64 a0, .slice Ao7 y101.length co7, .slice A1 l1.length c1] ?_; (with_reducible refine (fp_Rem.calls k1 a0 _ _ y101 _ _ l1 t110 _ (zC ((Kd.R_reads' HO_6.out).2.2)) ((Kd.R_reads' HO_6.out).2.1) (zC (Kd.C_below HR1.out HB.out)) HC1.out A11.out).mono ?_); rintro e w45 ⟨v111, rfl, ho0, hb⟩; refine ⟨_, rfl, ?_⟩; replace HO_7 := zVb HO_7 hb; replace HO109 := zVb HO109 hb; have HO112 := zWV (fun k_ => some k_ ≠ (.slice Ao7 y101.length co7 : Value).ownBlock) ho0 HB (fun k_ hk_ => (Kd.fresh' (Kd.R_lt (zR HO_6.out)) k_ hk_)); replace HO_6 := zRb HO_6 hb; replace HB := zBb HB hb; obtain ⟨Ao46, co46, eo46⟩ := Kd.V_slice HO109.out; subst eo46; obtain ⟨Ao47, co47, eo47⟩ := Kd.V_slice HO112.out; subst eo47) | ((with_reducible refine gate_callee (f := 61) rfl ?_); refine zG (some 35) Try.func61 #[.int .i64 a0, .slice Ao46 t107.length co46, .slice Ao47 t110.length co47] ?_; (with_reducible refine (fp_Sub.calls k1 a0 _ _ t107 _ _ t110 t113 _ (zC ((Kd.V_reads' HO109.out).2.2)) ((Kd.V_reads' HO109.out).2.1) (zC ((Kd.V_reads' HO112.out).2.2)) ((Kd.V_reads' HO112.out).2.1) A12.out).mono ?_); rintro e w48 ⟨v114, rfl, ho0, hb⟩; refine ⟨_, rfl, ?_⟩; replace HO_7 := zVb HO_7 hb; replace HO109 := zVb HO109 hb; replace HO112 := zVb HO112 hb; have HO115 := zWV (fun k_ => some k_ ≠ (.slice Ao7 y101.length co7 : Value).ownBlock) ho0 HB (fun k_ hk_ => (Kd.fresh' (Kd.R_lt (zR HO_6.out)) k_ hk_)); replace HO_6 := zRb HO_6 hb; replace HB := zBb HB hb))
    go_roundg k1
    case measure => have := HK1.out; omega
    case rel => exact ⟨(t107), (wrap64 (x8_1 + 1)), zX, H', ⟨by have := HK1.out; omega⟩, ⟨zR HO_6.out⟩, ⟨zV HO109.out⟩, ⟨zT⟩⟩
   rw [if_pos c22] at H
   obtain ⟨c22b0, c22b1⟩ := zE c22; clear c22
   obtain ⟨t116, A23, H⟩ := zO H
   by_cases c24 : (t116.length : Int) = 1
   rotate_left
   ·rw [if_neg c24] at H
    obtain ⟨c24b0, c24b1⟩ := zU c24
    obtain rfl := Option.some.inj H
    obtain ⟨Ao34, co34, eo34⟩ := Kd.V_slice HO_7.out
    subst eo34
    go_wp2_with (first | ((with_reducible refine gate_callee (f := 84) rfl ?_); refine zG (some 28) Try.func84 #[.int .i64 a0, .slice Ao34 x7_1.length co34, .slice A1 l1.length c1] ?_; (with_reducible refine (fp_Power.calls k1 a0 _ _ x7_1 _ _ l1 t107 _ (zC ((Kd.V_reads' HO_7.out).2.2)) ((Kd.V_reads' HO_7.out).2.1) (zC (Kd.C_below HR1.out HB.out)) HC1.out A10.out).mono ?_); rintro e w35 ⟨v108, rfl, ho0, hb⟩; refine ⟨_, rfl, ?_⟩; replace HO_7 := zVb HO_7 hb; have HO109 := zWV (fun k_ => some k_ ≠ (.slice Ao7 y101.length co7 : Value).ownBlock) ho0 HB (fun k_ hk_ => (Kd.fresh' (Kd.R_lt (zR HO_6.out)) k_ hk_)); replace HO_6 := zRb HO_6 hb; replace HB := zBb HB hb) | ((with_reducible refine gate_callee (f := 83) rfl ?_); refine zG (some 34) Try.func83 #[.int .i64 a0, .slice Ao7 y101.length co7, .slice A1 l1.length c1] ?_; (with_reducible refine (fp_Rem.calls k1 a0 _ _ y101 _ _ l1 t110 _ (zC ((Kd.R_reads' HO_6.out).2.2)) ((Kd.R_reads' HO_6.out).2.1) (zC (Kd.C_below HR1.out HB.out)) HC1.out A11.out).mono ?_); rintro e w36 ⟨v111, rfl, ho0, hb⟩; refine ⟨_, rfl, ?_⟩; replace HO_7 := zVb HO_7 hb; replace HO109 := zVb HO109 hb; have HO112 := zWV (fun k_ => some k_ ≠ (.slice Ao7 y101.length co7 : Value).ownBlock) ho0 HB (fun k_ hk_ => (Kd.fresh' (Kd.R_lt (zR HO_6.out)) k_ hk_)); replace HO_6 := zRb HO_6 hb; replace HB := zBb HB hb; obtain ⟨Ao37, co37, eo37⟩ := Kd.V_slice HO109.out; subst eo37; obtain ⟨Ao38, co38, eo38⟩ := Kd.V_slice HO112.out; subst eo38) | ((with_reducible refine gate_callee (f := 61) rfl ?_); refine zG (some 35) Try.func61 #[.int .i64 a0, .slice Ao37 t107.length co37, .slice Ao38 t110.length co38] ?_; (with_reducible refine (fp_Sub.calls k1 a0 _ _ t107 _ _ t110 t113 _ (zC ((Kd.V_reads' HO109.out).2.2)) ((Kd.V_reads' HO109.out).2.1) (zC ((Kd.V_reads' HO112.out).2.2)) ((Kd.V_reads' HO112.out).2.1) A12.out).mono ?_); rintro e w39 ⟨v114, rfl, ho0, hb⟩; refine ⟨_, rfl, ?_⟩; replace HO_7 := zVb HO_7 hb; replace HO109 := zVb HO109 hb; replace HO112 := zVb HO112 hb; have HO115 := zWV (fun k_ => some k_ ≠ (.slice Ao7 y101.length co7 : Value).ownBlock) ho0 HB (fun k_ hk_ => (Kd.fresh' (Kd.R_lt (zR HO_6.out)) k_ hk_)); replace HO_6 := zRb HO_6 hb; replace HB := zBb HB hb; obtain ⟨Ao40, co40, eo40⟩ := Kd.V_slice HO115.out; subst eo40) | (go_at_call 85; (with_reducible refine (fp_Gcd.calls k1 a0 (fun k_ => some k_ ≠ (.slice Ao7 y101.length co7 : Value).ownBlock) _ _ t113 (fun k_ => k_ < w.heap.size) _ _ l1 t116 _ ?side1 ?side2 A23.out).mono ?_); (case side1 => exact HO115.out); (case side2 => exact Kd.V_mk HC1.out (Kd.F_below (Kd.C_F (Kd.heap_int .i64) HR1.out) (zT))); rintro e w41 ⟨v117, rfl, ho0, hb⟩; replace HO_7 := zVb HO_7 hb; replace HO109 := zVb HO109 hb; replace HO112 := zVb HO112 hb; replace HO115 := zVb HO115 hb; have HO118 := zWV (fun k_ => some k_ ≠ (.slice Ao7 y101.length co7 : Value).ownBlock) ho0 HB (fun k_ hk_ => Or.elim hk_ (fun hs_ => Or.elim hs_ (fun hs_ => hs_) (fun hs_ => fun e_ => Nat.not_le.2 hs_ (Kd.R_base HO_6.out k_ e_.symm))) (fun hn_ => (Kd.fresh' (Kd.R_lt (zR HO_6.out)) k_ hn_))); replace HO_6 := zRb HO_6 hb; replace HB := zBb HB hb; obtain ⟨Ao42, co42, eo42⟩ := Kd.V_slice HO118.out; subst eo42))
    go_ret
    exact ⟨zQ, zT⟩
   rw [if_pos c24] at H
   obtain ⟨c24b0, c24b1⟩ := zE c24; clear c24
   have H' := zm H
   clear H
   obtain ⟨Ao25, co25, eo25⟩ := Kd.V_slice HO_7.out
   subst eo25
   go_wp2_with (first | ((with_reducible refine gate_callee (f := 84) rfl ?_); refine zG (some 28) Try.func84 #[.int .i64 a0, .slice Ao25 x7_1.length co25, .slice A1 l1.length c1] ?_; (with_reducible refine (fp_Power.calls k1 a0 _ _ x7_1 _ _ l1 t107 _ (zC ((Kd.V_reads' HO_7.out).2.2)) ((Kd.V_reads' HO_7.out).2.1) (zC (Kd.C_below HR1.out HB.out)) HC1.out A10.out).mono ?_); rintro e w26 ⟨v108, rfl, ho0, hb⟩; refine ⟨_, rfl, ?_⟩; replace HO_7 := zVb HO_7 hb; have HO109 := zWV (fun k_ => some k_ ≠ (.slice Ao7 y101.length co7 : Value).ownBlock) ho0 HB (fun k_ hk_ => (Kd.fresh' (Kd.R_lt (zR HO_6.out)) k_ hk_)); replace HO_6 := zRb HO_6 hb; replace HB := zBb HB hb) | ((with_reducible refine gate_callee (f := 83) rfl ?_); refine zG (some 34) Try.func83 #[.int .i64 a0, .slice Ao7 y101.length co7, .slice A1 l1.length c1] ?_; (with_reducible refine (fp_Rem.calls k1 a0 _ _ y101 _ _ l1 t110 _ (zC ((Kd.R_reads' HO_6.out).2.2)) ((Kd.R_reads' HO_6.out).2.1) (zC (Kd.C_below HR1.out HB.out)) HC1.out A11.out).mono ?_); rintro e w27 ⟨v111, rfl, ho0, hb⟩; refine ⟨_, rfl, ?_⟩; replace HO_7 := zVb HO_7 hb; replace HO109 := zVb HO109 hb; have HO112 := zWV (fun k_ => some k_ ≠ (.slice Ao7 y101.length co7 : Value).ownBlock) ho0 HB (fun k_ hk_ => (Kd.fresh' (Kd.R_lt (zR HO_6.out)) k_ hk_)); replace HO_6 := zRb HO_6 hb; replace HB := zBb HB hb; obtain ⟨Ao28, co28, eo28⟩ := Kd.V_slice HO109.out; subst eo28; obtain ⟨Ao29, co29, eo29⟩ := Kd.V_slice HO112.out; subst eo29) | ((with_reducible refine gate_callee (f := 61) rfl ?_); refine zG (some 35) Try.func61 #[.int .i64 a0, .slice Ao28 t107.length co28, .slice Ao29 t110.length co29] ?_; (with_reducible refine (fp_Sub.calls k1 a0 _ _ t107 _ _ t110 t113 _ (zC ((Kd.V_reads' HO109.out).2.2)) ((Kd.V_reads' HO109.out).2.1) (zC ((Kd.V_reads' HO112.out).2.2)) ((Kd.V_reads' HO112.out).2.1) A12.out).mono ?_); rintro e w30 ⟨v114, rfl, ho0, hb⟩; refine ⟨_, rfl, ?_⟩; replace HO_7 := zVb HO_7 hb; replace HO109 := zVb HO109 hb; replace HO112 := zVb HO112 hb; have HO115 := zWV (fun k_ => some k_ ≠ (.slice Ao7 y101.length co7 : Value).ownBlock) ho0 HB (fun k_ hk_ => (Kd.fresh' (Kd.R_lt (zR HO_6.out)) k_ hk_)); replace HO_6 := zRb HO_6 hb; replace HB := zBb HB hb; obtain ⟨Ao31, co31, eo31⟩ := Kd.V_slice HO115.out; subst eo31) | (go_at_call 85; (with_reducible refine (fp_Gcd.calls k1 a0 (fun k_ => some k_ ≠ (.slice Ao7 y101.length co7 : Value).ownBlock) _ _ t113 (fun k_ => k_ < w.heap.size) _ _ l1 t116 _ ?side1 ?side2 A23.out).mono ?_); (case side1 => exact HO115.out); (case side2 => exact Kd.V_mk HC1.out (Kd.F_below (Kd.C_F (Kd.heap_int .i64) HR1.out) (zT))); rintro e w32 ⟨v117, rfl, ho0, hb⟩; replace HO_7 := zVb HO_7 hb; replace HO109 := zVb HO109 hb; replace HO112 := zVb HO112 hb; replace HO115 := zVb HO115 hb; have HO118 := zWV (fun k_ => some k_ ≠ (.slice Ao7 y101.length co7 : Value).ownBlock) ho0 HB (fun k_ hk_ => Or.elim hk_ (fun hs_ => Or.elim hs_ (fun hs_ => hs_) (fun hs_ => fun e_ => Nat.not_le.2 hs_ (Kd.R_base HO_6.out k_ e_.symm))) (fun hn_ => (Kd.fresh' (Kd.R_lt (zR HO_6.out)) k_ hn_))); replace HO_6 := zRb HO_6 hb; replace HB := zBb HB hb; obtain ⟨Ao33, co33, eo33⟩ := Kd.V_slice HO118.out; subst eo33))
   go_roundg k1
   case measure => have := HK1.out; omega
   case rel => exact ⟨(t107), (wrap64 (x8_1 + 1)), zX, H', ⟨by have := HK1.out; omega⟩, ⟨zR HO_6.out⟩, ⟨zV HO109.out⟩, ⟨zT⟩⟩
mutual
def fi_Modulus.j0 : Nat → Int → Int → Bool → Option (List Int × Int)
 | 0, _, _, _ => none
 | k + 1, x0, x1, x19 => if x19 = true then (none) else (if 0 ≤ (wrap64 (x1 + 1)) then (if (wrap64 (x1 + 1) : Int).toNat ≤ 35184372088832 then ((some (List.replicate (wrap64 (x1 + 1) : Int).toNat 0 : List Int)).bind fun y102 => (if 0 ≤ x1 then (if x1 < (y102.length : Int) then ((some (y102.set (x1 : Int).toNat 1 : List Int)).bind fun y105 => (if x1 > 1 then (if 0 < (y102.length : Int) then (fi_Modulus.j1 k x0 x1 (y105.set (0 : Int).toNat 1)) else (none)) else (fi_Modulus.j1 k x0 x1 y105))) else (none)) else (none))) else (none)) else (none))
def fi_Modulus.j1 : Nat → Int → Int → List Int → Option (List Int × Int)
 | 0, _, _, _ => none
 | k + 1, x0, x1, x7 => fi_Modulus.l0 k x0 x1 x7
def fi_Modulus.l0 : Nat → Int → Int → List Int → Option (List Int × Int)
 | 0, _, _, _ => none
 | k + 1, x0, x1, x7 => (fp_Irreducible.f k x0 x7).bind fun t107 => (if t107 = true then (some (x7, 0)) else (fi_Modulus.l1 k x0 x1 x7 (wrap64 (x1 - 1))))
def fi_Modulus.l1 : Nat → Int → Int → List Int → Int → Option (List Int × Int)
 | 0, _, _, _, _ => none
 | k + 1, x0, x1, x7, x8 => if 0 ≤ x8 then (if x8 < (x7.length : Int) then (if (rd x7 x8) = (wrap64 (x0 - 1)) then (fi_Modulus.l1 k x0 x1 (x7.set (x8 : Int).toNat 0) (wrap64 (x8 - 1))) else (fi_Modulus.l0 k x0 x1 (x7.set (x8 : Int).toNat (wrap64 ((rd x7 x8) + 1))))) else (none)) else (none)
end
def fi_Modulus.f (k : Nat) (a0 : Int) (a1 : Int) : Option (List Int × Int) := (pm_Check.f k a0 ([] : List Int)).bind fun t101 => (if t101 = 0 then (if a1 < 1 then (none) else (fi_Modulus.j0 k a0 a1 (decide (a1 > 16)))) else (none))
theorem fi_Modulus.mono_l : ∀ k, (∀ y0 y1 y2, LeO (fi_Modulus.j0 k y0 y1 y2) (fi_Modulus.j0 (k + 1) y0 y1 y2)) ∧ (∀ y0 y1 y2, LeO (fi_Modulus.j1 k y0 y1 y2) (fi_Modulus.j1 (k + 1) y0 y1 y2)) ∧ (∀ y0 y1 y2, LeO (fi_Modulus.l0 k y0 y1 y2) (fi_Modulus.l0 (k + 1) y0 y1 y2)) ∧ (∀ y0 y1 y2 y3, LeO (fi_Modulus.l1 k y0 y1 y2 y3) (fi_Modulus.l1 (k + 1) y0 y1 y2 y3))
 | 0 => ⟨fun _ _ _ r h => by simp [fi_Modulus.j0] at h, fun _ _ _ r h => by simp [fi_Modulus.j1] at h, fun _ _ _ r h => by simp [fi_Modulus.l0] at h, fun _ _ _ _ r h => by simp [fi_Modulus.l1] at h⟩
 | k + 1 => by
  obtain ⟨ih0, ih1, ih2, ih3⟩ := fi_Modulus.mono_l k
  refine ⟨?_, ?_, ?_, ?_⟩
  ·intro y0 y1 y2
   unfold fi_Modulus.j0
   with_reducible repeat' first | exact ih0 _ _ _ | exact ih1 _ _ _ | exact ih2 _ _ _ | exact ih3 _ _ _ _ | exact fp_Irreducible.mono _ _ _ | exact pm_Check.mono _ _ _ | exact LeO.refl _ | exact LeO.none _ | refine LeO.ite ?_ ?_ | refine LeO.bind ?_ (fun _ => ?_)
  ·intro y0 y1 y2
   unfold fi_Modulus.j1
   with_reducible repeat' first | exact ih0 _ _ _ | exact ih1 _ _ _ | exact ih2 _ _ _ | exact ih3 _ _ _ _ | exact fp_Irreducible.mono _ _ _ | exact pm_Check.mono _ _ _ | exact LeO.refl _ | exact LeO.none _ | refine LeO.ite ?_ ?_ | refine LeO.bind ?_ (fun _ => ?_)
  ·intro y0 y1 y2
   unfold fi_Modulus.l0
   with_reducible repeat' first | exact ih0 _ _ _ | exact ih1 _ _ _ | exact ih2 _ _ _ | exact ih3 _ _ _ _ | exact fp_Irreducible.mono _ _ _ | exact pm_Check.mono _ _ _ | exact LeO.refl _ | exact LeO.none _ | refine LeO.ite ?_ ?_ | refine LeO.bind ?_ (fun _ => ?_)
  intro y0 y1 y2 y3
  unfold fi_Modulus.l1
  with_reducible repeat' first | exact ih0 _ _ _ | exact ih1 _ _ _ | exact ih2 _ _ _ | exact ih3 _ _ _ _ | exact fp_Irreducible.mono _ _ _ | exact pm_Check.mono _ _ _ | exact LeO.refl _ | exact LeO.none _ | refine LeO.ite ?_ ?_ | refine LeO.bind ?_ (fun _ => ?_)
theorem fi_Modulus.mono : ∀ a0 a1 k, LeO (fi_Modulus.f k a0 a1) (fi_Modulus.f (k + 1) a0 a1) := by
 intro a0 a1 k
 obtain ⟨ih0, ih1, ih2, ih3⟩ := fi_Modulus.mono_l k
 unfold fi_Modulus.f
 with_reducible repeat' first | exact ih0 _ _ _ | exact ih1 _ _ _ | exact ih2 _ _ _ | exact ih3 _ _ _ _ | exact fp_Irreducible.mono _ _ _ | exact pm_Check.mono _ _ _ | exact LeO.refl _ | exact LeO.none _ | refine LeO.ite ?_ ?_ | refine LeO.bind ?_ (fun _ => ?_)
theorem fi_Modulus.calls (k : Nat) (a0 : Int) (a1 : Int) (r1 : List Int) (r2 : Int) (w : World) (h : fi_Modulus.f k a0 a1 = some (r1, r2)) :
  Calls Try.prog 11 #[.int .i64 a0, .int .i64 a1] w fun e w' => ∃ v0_ : Value, e = .returned (.tuple #[v0_, .int .i64 r2]) ∧ Kd.R (Kd.int .i64) 3 w' w.heap.size (fun _ => True) v0_ r1 ∧ Below w.heap.size w w' := by
 have HB := zm (Below.refl w.heap.size w)
 have H := h; clear h; unfold fi_Modulus.f at H
 obtain ⟨t101, A3, H⟩ := zO H
 by_cases c4 : t101 = 0
 rotate_left
 ·rw [if_neg c4] at H
  exact absurd H (by simp)
 rw [if_pos c4] at H
 obtain ⟨c4b0, c4b1⟩ := zE c4; clear c4
 have HC5 := zm H
 clear H
 go_enter Try.func11, Try.ntmps11
 go_upto_region 4 with (first | ((with_reducible refine gate_callee (f := 45) rfl ?_); refine zG (some 10) Try.func45 #[.int .i64 a0, .slice none 0 0] ?_; (refine (pm_Check.calls k a0 _ _ ([] : List Int) t101 _ ?side1 ?side2 A3.out).mono ?_); (case side1 => exact Kd.C_nil _ _); (case side2 => exact Nat.le_refl _); rintro e w6 ⟨rfl, hb⟩; refine ⟨_, rfl, ?_⟩; replace HB := zBb HB hb))
 (try simp only [Act.put, List.setIfInBounds_toArray, List.set_cons_zero, List.set_cons_succ])
 go_cut [19] (fun v19 wc => ∃ (kq : Nat) (x19_4 : Bool), v19 = .bool x19_4 ∧ Aside0 (fi_Modulus.j0 kq a0 a1 x19_4 = some (r1, r2)) ∧ Aside0 (kq ≤ k) ∧ Aside0 (Below w.heap.size w wc))
 case first =>
  have H := HC5.out
  clear HC5
  by_cases c7 : a1 < 1
  ·rw [if_pos c7] at H
   exact absurd H (by simp)
  rw [if_neg c7] at H
  have c7b0 := decide_eq_false c7; clear c7
  (first | rw [c7b0] | (simp only [i64_w, i32_w]; rw [c7b0]) | skip)
  have H' := zm H
  clear H
  go_wp2
  go_meet
  case rel => exact ⟨_, (decide (a1 > 16)), zX, H', ⟨by first | omega | exact Nat.le_refl _⟩, ⟨zT⟩⟩
 case rest =>
  clear HC5
  obtain ⟨kq, x19_4, rfl, HA, HJ4, HB⟩ := hcut
  cases kq with
  | zero => exact absurd HA.out (by simp [fi_Modulus.j0])
  | succ kj4 =>
   have H := HA.out
   clear HA
   simp only [fi_Modulus.j0] at H
   by_cases c8 : x19_4 = true
   ·subst c8
    rw [if_pos rfl] at H
    exact absurd H (by simp)
   replace c8 := Bool.eq_false_iff.mpr c8
   subst c8
   rw [if_neg Bool.false_ne_true] at H
   obtain ⟨ji9, hji9⟩ : ∃ j_ : Int, (wrap64 (a1 + 1)) = j_ := ⟨_, rfl⟩
   first | rw [hji9] at H | simp only [hji9] at H
   have hji9w : (IntKind.i64.wrap (a1 + 1)) = ji9 := (i64_w _).trans hji9
   by_cases c10 : 0 ≤ (ji9)
   rotate_left
   ·rw [if_neg c10] at H
    exact absurd H (by simp)
   rw [if_pos c10] at H
   have c10b0 := eq_true c10; have c10b1 := decide_eq_true c10; clear c10
   by_cases c11 : (ji9 : Int).toNat ≤ 35184372088832
   rotate_left
   ·rw [if_neg c11] at H
    exact absurd H (by simp)
   rw [if_pos c11] at H
   have c11b0 := eq_true c11; have c11b1 := decide_eq_true c11; clear c11
   obtain ⟨y102, Ny102, H⟩ := zY H
   by_cases c12 : 0 ≤ a1
   rotate_left
   ·rw [if_neg c12] at H
    exact absurd H (by simp)
   rw [if_pos c12] at H
   have c12b0 := decide_eq_true c12; clear c12
   by_cases c13 : a1 < (y102.length : Int)
   rotate_left
   ·rw [if_neg c13] at H
    exact absurd H (by simp)
   rw [if_pos c13] at H
   have c13b0 := decide_eq_true c13; clear c13
   obtain ⟨y105, Ny105, H⟩ := zY H
   have HC15 := zm H
   clear H
   go_upto_if 27 with (first | ((with_reducible refine gate_dst (N := 22) rfl ?_); refine Kd.R_make (Kd.int .i64) _ 3 rfl (N := 22) rfl 25 _ _ rfl ji9 rfl rfl Try.underlying25 (.int .i64 0) 8 info3 rfl (by decide) (by omega) 0 (ok := fun _ => True) (okp := fun _ => True) rfl (fun _ hk => hk) trivial zD (Nat.le_trans (Nat.mul_le_mul_right _ (zD : ji9.toNat ≤ 35184372088832)) (by omega)) (Below.refl _ _) (Nat.le_refl _) ?_; intro v103 w16 ho17 hb hg_ hnew_; clear hg_ hnew_; (first | rw [← Ny102.out] at ho17 | (simp only [Int.reduceToNat] at ho17; rw [← Ny102.out] at ho17)); have HO104 := zm (Kd.R_lower ho17 (zS HB)); replace HB := zBb HB hb; clear hb ho17; have p14 : 0 ≤ (a1 : Int) := zD; have q14 : (a1 : Int) < ((y102.length : Int) : Int) := zD; obtain ⟨go14, co14, eo14, gb14, gl14, cl14, HG14⟩ := Kd.R_form HO104.out (by omega); (first | cases eo14 | (injection eo14 with ea_ en_ ec_; (first | subst ea_ | (injection ea_ with ea_; subst ea_)); subst ec_; clear en_)); have GB14 := zm gb14; have GG14 := zm HG14; clear gb14 gl14 HG14; obtain ⟨hx14_0, hf14_0⟩ := Kd.R_celln 0 HO104.out (a1 : Int) p14 q14; replace p14 := eq_true p14; replace q14 := eq_true q14; obtain ⟨hy18_, hz18_⟩ := Kd.R_celln 0 HO104.out (a1 : Int) zD zD; have HP18 := Kd.R_putg HO104.out (a1 : Int) 1) | ((with_reducible refine gate_store (t := 3) (p := 25) rfl ?_); refine store_event (t := 3) (p := 25) (v := ?vo_w19) (w1 := (w16.setCell ⟨go14, (a1 : Int).toNat, none⟩ (.int .i64 1))) ?hg ?ho ?hn ?hr ?_; (case ho => rfl); (case hg => rfl); (case hn => rfl); (case hr => go_simp <;> rfl); intro w19 hw; have hg : w16.grownBy w19 (some go14) := (by rw [hw]; exact HP18.2); have hp_ : Kd.R (Kd.int .i64) 3 w19 w.heap.size (fun _ => True) (.slice (some ⟨go14, 0, none⟩) y102.length co14) y105 := (by rw [hw, Ny105.out]; exact HP18.1); clear HP18; replace HO104 := zm (hp_); replace HB := zm ((by rw [hw]; exact below_set (HB.out) GB14.out : Below w.heap.size w w19)); clear hg hw hp_))
   (try simp only [Act.put, List.setIfInBounds_toArray, List.set_cons_zero, List.set_cons_succ])
   go_cut [] (fun wc => ∃ (kq : Nat) (x7_14 : List Int), Aside0 (fi_Modulus.j1 kq a0 a1 x7_14 = some (r1, r2)) ∧ Aside0 (kq ≤ kj4) ∧ Aside0 (Kd.R (Kd.int .i64) 3 wc w.heap.size (fun _ => True) (.slice (some ⟨go14, 0, none⟩) y102.length co14) x7_14) ∧ Aside0 (Below w.heap.size w wc))
   case first =>
    have H := HC15.out
    clear HC15
    by_cases c20 : a1 > 1
    rotate_left
    ·rw [if_neg c20] at H
     have c20b0 := decide_eq_false c20; clear c20
     (first | rw [c20b0] | (simp only [i64_w, i32_w]; rw [c20b0]) | skip)
     have H' := zm H
     clear H
     go_wp2
     go_meet
     case rel => exact ⟨_, (y105), H', ⟨by have := HJ4.out; first | omega | exact Nat.le_refl _⟩, ⟨zR HO104.out⟩, ⟨zT⟩⟩
    rw [if_pos c20] at H
    have c20b0 := decide_eq_true c20; clear c20
    (first | rw [c20b0] | (simp only [i64_w, i32_w]; rw [c20b0]) | skip)
    by_cases c21 : 0 < (y102.length : Int)
    rotate_left
    ·rw [if_neg c21] at H
     exact absurd H (by simp)
    rw [if_pos c21] at H
    have c21b0 : decide (0 < (y102.length : Int)) = true := decide_eq_true c21
    have c21b1 : decide (0 < y102.length) = true := decide_eq_true (by omega)
    clear c21
    obtain ⟨y106, Ny106⟩ := zA ((y105.set (0 : Int).toNat 1) : List Int); rw [← Ny106.out] at H
    have H' := zm H
    clear H
    have p22 : 0 ≤ (0 : Int) := (by omega)
    have q22 : (0 : Int) < ((y102.length : Int) : Int) := zD
    have qi22 : (0 < y102.length) = True := eq_true (by omega)
    obtain ⟨hx22_0, hf22_0⟩ := Kd.R_celln 0 HO104.out (0 : Int) p22 q22
    (try rw [show ((0 : Int)).toNat = 0 from rfl] at hx22_0)
    (try simp only [Nat.reduceMul, Nat.zero_mul, Nat.zero_add, Nat.reduceAdd] at hx22_0)
    (try rw [show ((0 : Int)).toNat = 0 from rfl] at hf22_0)
    (try simp only [Nat.reduceMul, Nat.zero_mul, Nat.zero_add, Nat.reduceAdd] at hf22_0)
    replace p22 := eq_true p22
    replace q22 := eq_true q22
    have HP23 := Kd.R_putg HO104.out (0 : Int) 1
    go_wp2_with (first | ((with_reducible refine gate_store (t := 3) (p := 29) rfl ?_); refine store_event (t := 3) (p := 29) (v := ?vo_w24) (w1 := (w19.setCell ⟨go14, (0 : Int).toNat, none⟩ (.int .i64 1))) ?hg ?ho ?hn ?hr ?_; (case ho => rfl); (case hg => rfl); (case hn => rfl); (case hr => go_simp <;> rfl); intro w24 hw; have hg : w19.grownBy w24 (some go14) := (by rw [hw]; exact HP23.2); have hp_ : Kd.R (Kd.int .i64) 3 w24 w.heap.size (fun _ => True) (.slice (some ⟨go14, 0, none⟩) y102.length co14) y106 := (by rw [hw, Ny106.out]; exact HP23.1); clear HP23; replace HO104 := zm (hp_); replace HB := zm ((by rw [hw]; exact below_set (HB.out) GB14.out : Below w.heap.size w w24)); clear hg hw hp_))
    go_meet
    case rel => exact ⟨_, (y106), H', ⟨by have := HJ4.out; first | omega | exact Nat.le_refl _⟩, ⟨zR HO104.out⟩, ⟨zT⟩⟩
   case rest =>
    clear HC15
    obtain ⟨kq, x7_14, HA, HJ14, HO_7, HB⟩ := hcut
    have hl7_14 := (Kd.R_reads' HO_7.out).1
    rw [hl7_14] at HO_7
    (try simp only [hl7_14])
    cases kq with
    | zero => exact absurd HA.out (by simp [fi_Modulus.j1])
    | succ kj14 =>
     have H := HA.out
     clear HA
     simp only [fi_Modulus.j1] at H
     have H' := zm H
     clear H
     go_wp2
     go_loopg [] kj14 (fun kq w' => ∃ (x7_3 : List Int), Aside0 (fi_Modulus.l0 kq a0 a1 x7_3 = some (r1, r2)) ∧ Aside0 (kq ≤ kj14) ∧ Aside0 (Kd.R (Kd.int .i64) 3 w' w.heap.size (fun _ => True) (.slice (some ⟨go14, 0, none⟩) x7_14.length co14) x7_3) ∧ Aside0 (Below w.heap.size w w'))
     case atStart => exact ⟨(x7_14), H', ⟨Nat.le_refl _⟩, ⟨by (try simp only [hl7_14]); (with_reducible repeat (first | apply Kd.R_alloc | apply Kd.R_drewN | apply Kd.R_drew)); exact HO_7.out⟩, ⟨zT⟩⟩
     case round =>
      clear H'
      obtain ⟨x7_3, HA, HK3, HO_7, HB⟩ := hrel
      have hl7_3 := (Kd.R_reads' HO_7.out).1
      rw [hl7_3] at HO_7
      (try simp only [hl7_3])
      cases gk with
      | zero => exact absurd HA.out (by simp [fi_Modulus.l0])
      | succ k3 =>
       have H := HA.out
       clear HA
       simp only [fi_Modulus.l0] at H
       obtain ⟨t107, A25, H⟩ := zO H
       by_cases c26 : t107 = true
       ·subst c26
        rw [if_pos rfl] at H
        simp only [Option.some.injEq, Prod.mk.injEq] at H
        obtain ⟨rfl, rfl⟩ := H
        go_wp2_with (first | ((with_reducible refine gate_callee (f := 46) rfl ?_); refine zG (some 32) Try.func46 #[.int .i64 a0, .slice (some ⟨go14, 0, none⟩) x7_3.length co14] ?_; (with_reducible refine (fp_Irreducible.calls k3 a0 _ _ x7_3 true _ (zC ((Kd.R_reads' HO_7.out).2.2)) ((Kd.R_reads' HO_7.out).2.1) A25.out).mono ?_); rintro e w27 ⟨rfl, hb⟩; refine ⟨_, rfl, ?_⟩; replace HO_7 := zRb HO_7 hb; replace HB := zBb HB hb))
        go_ret2
        exact ⟨_, by first | rfl | (simp [errW_none, errW_some] <;> rfl) | (simp only [← hji9]; first | rfl | (simp [errW_none, errW_some] <;> rfl)) | (simp [*, errW_none, errW_some] <;> rfl), zR HO_7.out, zT⟩
       replace c26 := Bool.eq_false_iff.mpr c26
       subst c26
       rw [if_neg Bool.false_ne_true] at H
       have H' := zm H
       clear H
       go_wp2_with (first | ((with_reducible refine gate_callee (f := 46) rfl ?_); refine zG (some 32) Try.func46 #[.int .i64 a0, .slice (some ⟨go14, 0, none⟩) x7_3.length co14] ?_; (with_reducible refine (fp_Irreducible.calls k3 a0 _ _ x7_3 false _ (zC ((Kd.R_reads' HO_7.out).2.2)) ((Kd.R_reads' HO_7.out).2.1) A25.out).mono ?_); rintro e w28 ⟨rfl, hb⟩; refine ⟨_, rfl, ?_⟩; replace HO_7 := zRb HO_7 hb; replace HB := zBb HB hb))
       go_loopg [8] k3 (fun kq v8 w' => ∃ (x7_4 : List Int) (x8_4 : Int), v8 = .int .i64 x8_4 ∧ Aside0 (fi_Modulus.l1 kq a0 a1 x7_4 x8_4 = some (r1, r2)) ∧ Aside0 (kq ≤ k3) ∧ Aside0 (Kd.R (Kd.int .i64) 3 w' w.heap.size (fun _ => True) (.slice (some ⟨go14, 0, none⟩) x7_3.length co14) x7_4) ∧ Aside0 (Below w.heap.size w w'))
       case atStart => exact ⟨(x7_3), (wrap64 (a1 - 1)), zX, H', ⟨Nat.le_refl _⟩, ⟨by (try simp only [hl7_14]); (try simp only [hl7_3]); (with_reducible repeat (first | apply Kd.R_alloc | apply Kd.R_drewN | apply Kd.R_drew)); exact HO_7.out⟩, ⟨zT⟩⟩
       case round =>
        clear H'
        obtain ⟨x7_4, x8_4, rfl, HA, HK4, HO_7, HB⟩ := hrel
        have hl7_4 := (Kd.R_reads' HO_7.out).1
        rw [hl7_4] at HO_7
        (try simp only [hl7_4])
        cases gk with
        | zero => exact absurd HA.out (by simp [fi_Modulus.l1])
        | succ k4 =>
         have H := HA.out
         clear HA
         simp only [fi_Modulus.l1] at H
         by_cases c29 : 0 ≤ x8_4
         rotate_left
         ·rw [if_neg c29] at H
          exact absurd H (by simp)
         rw [if_pos c29] at H
         have c29b0 := decide_eq_true c29; clear c29
         by_cases c30 : x8_4 < (x7_4.length : Int)
         rotate_left
         ·rw [if_neg c30] at H
          exact absurd H (by simp)
         rw [if_pos c30] at H
         have c30b0 : decide (x8_4 < (x7_4.length : Int)) = true := decide_eq_true c30
         (try (have c30b0_hl7_14 := c30b0; simp only [hl7_14] at c30b0_hl7_14))
         (try (have c30b0_hl7_3 := c30b0; simp only [hl7_3] at c30b0_hl7_3))
         (try (have c30b0_hl7_4 := c30b0; simp only [hl7_4] at c30b0_hl7_4))
         clear c30
         by_cases c31 : (rd x7_4 x8_4) = (wrap64 (a0 - 1))
         ·rw [if_pos c31] at H
          obtain ⟨c31b0, c31b1⟩ := zE c31; clear c31
          obtain ⟨y109, Ny109⟩ := zA ((x7_4.set (x8_4 : Int).toNat 0) : List Int); rw [← Ny109.out] at H
          have H' := zm H
          clear H
          obtain ⟨p108, q108, ad108, e108, hx108_0⟩ := zI ((Kd.R_reads' HO_7.out).2.2) (x8_4) zD zD
          obtain rfl : (⟨go14, 0, none⟩ : Addr) = ad108 := (by injection e108)
          (first | simp only [add_plain] at hx108_0 | simp only [add_at] at hx108_0 | simp only [Addr.add, Nat.zero_add] at hx108_0 | skip)
          have p32 : 0 ≤ (x8_4 : Int) := zD
          have q32 : (x8_4 : Int) < ((x7_4.length : Int) : Int) := zD
          obtain ⟨hx32_0, hf32_0⟩ := Kd.R_celln 0 HO_7.out (x8_4 : Int) p32 q32
          replace p32 := eq_true p32
          replace q32 := eq_true q32
          have HP33 := Kd.R_putg HO_7.out (x8_4 : Int) 0
          go_wp2_with (first | ((with_reducible refine gate_store (t := 3) (p := 45) rfl ?_); refine store_event (t := 3) (p := 45) (v := ?vo_w34) (w1 := (wr.setCell ⟨go14, (x8_4 : Int).toNat, none⟩ (.int .i64 0))) ?hg ?ho ?hn ?hr ?_; (case ho => rfl); (case hg => rfl); (case hn => rfl); (case hr => go_simp <;> rfl); intro w34 hw; have hg : wr.grownBy w34 (some go14) := (by rw [hw]; exact HP33.2); have hp_ : Kd.R (Kd.int .i64) 3 w34 w.heap.size (fun _ => True) (.slice (some ⟨go14, 0, none⟩) x7_4.length co14) y109 := (by rw [hw, Ny109.out]; exact HP33.1); clear HP33; replace HO_7 := zm (hp_); replace HB := zm ((by rw [hw]; exact below_set (HB.out) GB14.out : Below w.heap.size w w34)); clear hg hw hp_))
          (try simp only [← hl7_4])
          (first | go_roundg k4 | (simp only [show ∀ g_ : Nat, ({ block := g_, off := (ji9).toNat } : Addr) = ({ block := g_, off := 0 } : Addr).add (ji9).toNat from fun g_ => by simp [Addr.add]]; go_roundg k4))
          case measure => have := HJ4.out; have := HJ14.out; have := HK3.out; have := HK4.out; omega
          case rel => exact ⟨(y109), (wrap64 (x8_4 - 1)), zX, H', ⟨by have := HJ4.out; have := HJ14.out; have := HK3.out; have := HK4.out; omega⟩, ⟨by (try simp only [hl7_14]); (try simp only [hl7_3]); (try simp only [hl7_4]); (with_reducible repeat (first | apply Kd.R_alloc | apply Kd.R_drewN | apply Kd.R_drew)); exact HO_7.out⟩, ⟨zT⟩⟩
         rw [if_neg c31] at H
         obtain ⟨c31b0, c31b1⟩ := zU c31
         obtain ⟨y111, Ny111⟩ := zA ((x7_4.set (x8_4 : Int).toNat (wrap64 ((rd x7_4 x8_4) + 1))) : List Int); rw [← Ny111.out] at H
         have H' := zm H
         clear H
         obtain ⟨p108, q108, ad108, e108, hx108_0⟩ := zI ((Kd.R_reads' HO_7.out).2.2) (x8_4) zD zD
         obtain rfl : (⟨go14, 0, none⟩ : Addr) = ad108 := (by injection e108)
         (first | simp only [add_plain] at hx108_0 | simp only [add_at] at hx108_0 | simp only [Addr.add, Nat.zero_add] at hx108_0 | skip)
         obtain ⟨p110, q110, ad110, e110, hx110_0⟩ := zI ((Kd.R_reads' HO_7.out).2.2) (x8_4) zD zD
         obtain rfl : (⟨go14, 0, none⟩ : Addr) = ad110 := (by injection e110)
         (first | simp only [add_plain] at hx110_0 | simp only [add_at] at hx110_0 | simp only [Addr.add, Nat.zero_add] at hx110_0 | skip)
         have p35 : 0 ≤ (x8_4 : Int) := zD
         have q35 : (x8_4 : Int) < ((x7_4.length : Int) : Int) := zD
         obtain ⟨hx35_0, hf35_0⟩ := Kd.R_celln 0 HO_7.out (x8_4 : Int) p35 q35
         replace p35 := eq_true p35
         replace q35 := eq_true q35
         have HP36 := Kd.R_putg HO_7.out (x8_4 : Int) (wrap64 ((rd x7_4 x8_4) + 1))
         go_wp2_with (first | ((with_reducible refine gate_store (t := 3) (p := 53) rfl ?_); refine store_event (t := 3) (p := 53) (v := ?vo_w37) (w1 := (wr.setCell ⟨go14, (x8_4 : Int).toNat, none⟩ (.int .i64 (wrap64 ((rd x7_4 x8_4) + 1))))) ?hg ?ho ?hn ?hr ?_; (case ho => rfl); (case hg => rfl); (case hn => rfl); (case hr => go_simp <;> rfl); intro w37 hw; have hg : wr.grownBy w37 (some go14) := (by rw [hw]; exact HP36.2); have hp_ : Kd.R (Kd.int .i64) 3 w37 w.heap.size (fun _ => True) (.slice (some ⟨go14, 0, none⟩) x7_4.length co14) y111 := (by rw [hw, Ny111.out]; exact HP36.1); clear HP36; replace HO_7 := zm (hp_); replace HB := zm ((by rw [hw]; exact below_set (HB.out) GB14.out : Below w.heap.size w w37)); clear hg hw hp_))
         (try simp only [← hl7_3, ← hl7_4])
         (first | go_roundg k4 | (simp only [show ∀ g_ : Nat, ({ block := g_, off := (ji9).toNat } : Addr) = ({ block := g_, off := 0 } : Addr).add (ji9).toNat from fun g_ => by simp [Addr.add]]; go_roundg k4))
         case measure => have := HJ4.out; have := HJ14.out; have := HK3.out; have := HK4.out; omega
         case rel => exact ⟨(y111), H', ⟨by have := HJ4.out; have := HJ14.out; have := HK3.out; have := HK4.out; omega⟩, ⟨by (try simp only [hl7_14]); (try simp only [hl7_3]); (try simp only [hl7_4]); (with_reducible repeat (first | apply Kd.R_alloc | apply Kd.R_drewN | apply Kd.R_drew)); exact HO_7.out⟩, ⟨zT⟩⟩
def gFDegree.f (a0_0 : Int) (l0_1 : List Int) : Option (Int) := some (wrap64 ((l0_1.length : Int) - 1))
theorem gFDegree.calls (a0_0 : Int) (A0_1 : Option Addr) (c0_1 : Nat) (l0_1 : List Int) (r : Int) (w : World) (hr0_1 : Kd.C (Kd.int .i64) w A0_1 l0_1.length l0_1) (hc0_1 : l0_1.length ≤ c0_1) (h : gFDegree.f a0_0 l0_1 = some r) :
  Calls Try.prog 110 #[.agg #[.int .i64 a0_0, .slice A0_1 l0_1.length c0_1]] w fun e w' => e = .returned (.int .i64 r) ∧ Below w.heap.size w w' := by
 have hu68 := Try.underlying68
 have HR0_1 := zm hr0_1
 have HC0_1 := zm hc0_1
 clear hr0_1 hc0_1
 have HB := zm (Below.refl w.heap.size w)
 have H := h; clear h; unfold gFDegree.f at H
 obtain rfl := Option.some.inj H
 go_enter Try.func110, Try.ntmps110
 go_wp2_with (first | ((with_reducible refine gate_dst (N := 1) rfl ?_); refine zb 1 #[.int .i64 a0_0, .slice A0_1 l0_1.length c0_1] 68 ?_; intro gb101 hg w2 hbox hb; have BK101 := zm (hbox); have GW101 := zg HB hg; have GE101 := GW101; replace HB := zBb HB hb; clear hb hbox hg; obtain ⟨hcz3_0, hcz3_1, hfz3_0, hfz3_1⟩ := zf2 BK101))
 go_ret
 exact ⟨zQ, zT⟩
end Go.Proofs.Ytalnaafmonmlmaa.Q
end

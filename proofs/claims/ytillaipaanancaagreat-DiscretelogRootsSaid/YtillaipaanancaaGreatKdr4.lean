/- Machine side and arithmetic of the law, put together by a program of the session. No conditions. -/
import Derived.Below
import Derived.Orders
import Derived.Tactics
import Derived.TacticsIn
import Derived.OrdersIn
import Derived.RangeFuncIn
import Derived.RangeFuncLeaves
import Derived.Laws.OwnMore
import Derived.Laws.CopyOwn
section
namespace Go.TT
open Go.RowKit
set_option linter.unusedVariables false
set_option linter.unusedSimpArgs false
inductive Ty where
 | int (k : IntKind) | bool | str | sl (e : TypeId) (t : Ty) | pr (a b : Ty) | un
 /-- a pointer to what nobody changes -/
 | rf (t : Ty)
 /-- a function with what it bears: first arguments, captured ones -/
 | fn (f : Fn) (a c : Ty)
 /-- an interface's value -/
 | ifc (d : TypeId) (t : Ty)
 /-- in objects alone: a row of one's own in a row of one's own (its number); a map's entry -/
 | id (e : TypeId) (t : Ty)
 | mp (k v : Ty)
 /-- an array: its elements, as a struct's fields -/
 | ar (b : Ty)
@[reducible] def Ty.den : Ty → Type
 | .int _ => Int
 | .bool => Bool
 | .str => ByteArray
 | .sl _ t => List t.den
 | .pr a b => a.den × b.den
 | .un => Unit
 | .rf t => t.den
 | .fn _ a c => a.den × c.den
 | .ifc _ t => t.den
 | .id _ _ => Nat
 | .mp k v => k.den × v.den
 | .ar b => b.den
def Ty.sz : Ty → Nat
 | .pr a b => a.sz + b.sz
 | .ar b => b.sz
 | .un => 0
 | _ => 1
def Ty.ag : Ty → Bool
 | .pr _ _ => true
 | .ar _ => true
 | .un => true
 | _ => false
def Ty.flat : Ty → Bool
 | .pr a b => a.flat && b.flat
 | .ar b => b.flat
 | .int _ => true
 | .bool => true
 | .str => true
 | .un => true
 | _ => false
def Ty.zok : Ty → Bool
 | .pr a b => a.zok && b.zok
 | .ar b => b.zok
 | .int _ => true
 | .bool => true
 | .str => true
 | .un => true
 | .sl _ _ => true
 | _ => false
def Ty.zv : (t : Ty) → t.den
 | .int _ => (0 : Int)
 | .bool => false
 | .str => ByteArray.empty
 | .sl _ _ => []
 | .pr a b => (a.zv, b.zv)
 | .un => ()
 | .rf t => t.zv
 | .fn _ a c => (a.zv, c.zv)
 | .ifc _ t => t.zv
 | .id _ _ => (0 : Nat)
 | .mp k v => (k.zv, v.zv)
 | .ar b => b.zv
def Ty.zc : Ty → List Value
 | .int k => [.int k 0]
 | .bool => [.bool false]
 | .str => [.string ByteArray.empty]
 | .sl _ _ => [.slice none 0 0]
 | .pr a b => a.zc ++ b.zc
 | .un => []
 | .rf _ => [.pointer none]
 | .fn _ _ _ => [.nilFunc]
 | .ifc _ _ => [.nilIface]
 | .id _ _ => [.slice none 0 0]
 | .mp _ _ => [.map none]
 | .ar b => b.zc
def Ty.mk (t : Ty) (cs : List Value) : Value := if t.ag then .agg cs.toArray else cs.headD undef
def Ty.vals : Ty → List Value → List Value
 | .pr a b, cs => a.mk (cs.take a.sz) :: b.vals (cs.drop a.sz)
 | _, _ => []
structure TV where
 t : Ty
 x : t.den
def Fl {α : Type} (R : α → List Value → Prop) : List α → List Value → Prop
 | [], cs => cs = []
 | x :: xs, cs => ∃ c1 c2, cs = c1 ++ c2 ∧ R x c1 ∧ Fl R xs c2
def Cs (w : World) (S : Nat → Prop) : (t : Ty) → t.den → List Value → Prop
 | .int k, x, cs => cs = [.int k x]
 | .bool, x, cs => cs = [.bool x]
 | .str, x, cs => cs = [.string x]
 | .un, _, cs => cs = []
 | .pr a b, x, cs => ∃ c1 c2, cs = c1 ++ c2 ∧ Cs w S a x.1 c1 ∧ Cs w S b x.2 c2
 | .rf t, x, cs => ∃ ad c, cs = [.pointer (some ad)] ∧ S ad.block ∧ Cs w S t x c ∧ ∀ j u, c[j]? = some u → w.cell? (ad.add j) = some u
 | .fn f a c, x, cs => ∃ c1 c2, cs = [.func f (a.vals c1).toArray (c.vals c2).toArray] ∧ Cs w S a x.1 c1 ∧ Cs w S c x.2 c2
 | .ifc d t, x, cs => ∃ c, cs = [.iface d (t.mk c)] ∧ Cs w S t x c
 | .id _ _, _, _ => False
 | .mp _ _, _, _ => False
 | .ar b, x, cs => Cs w S b x cs
 | .sl _ t, xs, cs => ∃ A c cs', cs = [.slice A (List.length xs) c] ∧ List.length xs ≤ c ∧ Fl (Cs w S t) xs cs' ∧
   (xs = [] ∨ ∃ ad, A = some ad ∧ S ad.block ∧ ∀ j u, cs'[j]? = some u → w.cell? (ad.add j) = some u)
def Vs (w : World) (S : Nat → Prop) (t : Ty) (x : t.den) (v : Value) : Prop := ∃ cs, Cs w S t x cs ∧ v = t.mk cs
section fl
variable {α : Type} {R R' : α → List Value → Prop} {z : Nat}
theorem Fl_imp (h : ∀ x c, R x c → R' x c) : ∀ {xs : List α} {cs}, Fl R xs cs → Fl R' xs cs
 | [], _, e => e
 | _ :: _, _, ⟨c1, c2, e, r, l⟩ => ⟨c1, c2, e, h _ _ r, Fl_imp h l⟩
theorem Fl_len (h : ∀ x c, R x c → c.length = z) : ∀ {xs : List α} {cs}, Fl R xs cs → cs.length = xs.length * z
 | [], _, e => by rw [e]; simp
 | _ :: _, _, ⟨c1, c2, e, r, l⟩ => by rw [e, List.length_append, h _ _ r, Fl_len h l, List.length_cons, Nat.add_mul, Nat.one_mul, Nat.add_comm]
theorem Fl_append : ∀ {xs ys : List α} {cs ds}, Fl R xs cs → Fl R ys ds → Fl R (xs ++ ys) (cs ++ ds)
 | [], _, _, _, e, l => by rw [e]; exact l
 | _ :: _, _, _, _, ⟨c1, c2, e, r, l⟩, l' => ⟨c1, _, by rw [e, List.append_assoc], r, Fl_append l l'⟩
theorem Fl_split : ∀ {xs ys : List α} {cs}, Fl R (xs ++ ys) cs → ∃ c d, cs = c ++ d ∧ Fl R xs c ∧ Fl R ys d
 | [], _, cs, l => ⟨[], cs, rfl, rfl, l⟩
 | _ :: _, _, _, ⟨c1, c2, e, r, l⟩ => by
  obtain ⟨c, d, e', l1, l2⟩ := Fl_split l
  exact ⟨c1 ++ c, d, by rw [e, e', List.append_assoc], ⟨c1, c, rfl, r, l1⟩, l2⟩
theorem Fl_one {x : α} {c : List Value} (h : R x c) : Fl R [x] c := ⟨c, [], by simp, h, rfl⟩
theorem Fl_replicate {x : α} {c : List Value} (h : R x c) : ∀ n, Fl R (List.replicate n x) (List.replicate n c).flatten
 | 0 => rfl
 | n + 1 => ⟨c, _, by simp [List.replicate_succ], h, Fl_replicate h n⟩
theorem Fl_all {p : Value → Prop} (h : ∀ x c, R x c → ∀ u ∈ c, p u) : ∀ {xs : List α} {cs}, Fl R xs cs → ∀ u ∈ cs, p u
 | [], _, e, u, hu => by rw [show _ = [] from e] at hu; cases hu
 | _ :: _, _, ⟨c1, c2, e, r, l⟩, u, hu => by
  rw [e, List.mem_append] at hu
  rcases hu with hu | hu
  ·exact h _ _ r u hu
  ·exact Fl_all h l u hu
theorem Fl_at (h : ∀ x c, R x c → c.length = z) {xs : List α} {cs : List Value} (l : Fl R xs cs) (i : Nat) (hi : i < xs.length) :
  ∃ c1 c c2, cs = c1 ++ (c ++ c2) ∧ c1.length = i * z ∧ R xs[i] c ∧ Fl R (xs.take i) c1 ∧ Fl R (xs.drop (i + 1)) c2 := by
 have e : xs = xs.take i ++ (xs[i] :: xs.drop (i + 1)) := by simp
 obtain ⟨c1, d, e1, l1, c, c2, e2, r, l2⟩ := Fl_split (e ▸ l)
 refine ⟨c1, c, c2, by rw [e1, e2], ?_, r, l1, l2⟩
 rw [Fl_len h l1, List.length_take, Nat.min_eq_left (Nat.le_of_lt hi)]
theorem Fl_get (h : ∀ x c, R x c → c.length = z) {xs : List α} {cs : List Value} (l : Fl R xs cs) (i : Nat) (hi : i < xs.length) :
  ∃ c, R xs[i] c ∧ ∀ j u, c[j]? = some u → cs[i * z + j]? = some u := by
 obtain ⟨c1, c, c2, e, e1, r, _⟩ := Fl_at h l i hi
 refine ⟨c, r, fun j u hj => ?_⟩
 have hlt : j < c.length := by
  rcases Nat.lt_or_ge j c.length with h | h
  ·exact h
  ·rw [List.getElem?_eq_none h] at hj; cases hj
 rw [e, List.getElem?_append_right (by omega), e1, Nat.add_sub_cancel_left, List.getElem?_append_left hlt, hj]
theorem Fl_take (h : ∀ x c, R x c → c.length = z) {xs : List α} {cs : List Value} (l : Fl R xs cs) (i : Nat) (hi : i ≤ xs.length) : Fl R (xs.take i) (cs.take (i * z)) := by
 obtain ⟨c, d, e, l1, l2⟩ := Fl_split (xs := xs.take i) (ys := xs.drop i) (by rw [List.take_append_drop]; exact l)
 have := Fl_len h l1
 rw [List.length_take, Nat.min_eq_left hi] at this
 rw [e, ← this, List.take_left]; exact l1
theorem Fl_drop (h : ∀ x c, R x c → c.length = z) {xs : List α} {cs : List Value} (l : Fl R xs cs) (i : Nat) (hi : i ≤ xs.length) : Fl R (xs.drop i) (cs.drop (i * z)) := by
 obtain ⟨c, d, e, l1, l2⟩ := Fl_split (xs := xs.take i) (ys := xs.drop i) (by rw [List.take_append_drop]; exact l)
 have := Fl_len h l1
 rw [List.length_take, Nat.min_eq_left hi] at this
 rw [e, ← this, List.drop_left]; exact l2
end fl
def Ag (S : Nat → Prop) (w w' : World) : Prop := ∀ b, S b → w'.heap[b]? = w.heap[b]?
section cs
variable {w w' : World} {S S' : Nat → Prop}
theorem Cs_len : ∀ {t : Ty} {x : t.den} {cs}, Cs w S t x cs → cs.length = t.sz
 | .int _, _, _, e => by rw [show _ = [_] from e]; rfl
 | .bool, _, _, e => by rw [show _ = [_] from e]; rfl
 | .str, _, _, e => by rw [show _ = [_] from e]; rfl
 | .un, _, _, e => by rw [show _ = [] from e]; rfl
 | .pr _ _, _, _, ⟨c1, c2, e, h1, h2⟩ => by rw [e, List.length_append, Cs_len h1, Cs_len h2]; rfl
 | .sl _ _, _, _, ⟨_, _, _, e, _⟩ => by rw [e]; rfl
 | .rf _, _, _, ⟨_, _, e, _⟩ => by rw [e]; rfl
 | .fn _ _ _, _, _, ⟨_, _, e, _⟩ => by rw [e]; rfl
 | .ifc _ _, _, _, ⟨_, e, _⟩ => by rw [e]; rfl
 | .id _ _, _, _, h => h.elim
 | .mp _ _, _, _, h => h.elim
 | .ar b, _, _, h => Cs_len (t := b) h
theorem ag_cell {ad : Addr} (hS : ∀ b, S b → S' b) (ha : Ag S w w') (hs : S ad.block) {c : List Value} (h : ∀ j u, c[j]? = some u → w.cell? (ad.add j) = some u) : ∀ (j : Nat) (u : Value), c[j]? = some u → w'.cell? (ad.add j) = some u := fun j u hj => by
 rw [World.cell?_of_block (w := w)]
 ·exact h j u hj
 ·rw [show (ad.add j).block = ad.block by unfold Addr.add; split <;> rfl]; exact ha _ hs
theorem Cs_mono (hS : ∀ b, S b → S' b) (ha : Ag S w w') : ∀ {t : Ty} {x : t.den} {cs}, Cs w S t x cs → Cs w' S' t x cs
 | .int _, _, _, e => e
 | .bool, _, _, e => e
 | .str, _, _, e => e
 | .un, _, _, e => e
 | .pr _ _, _, _, ⟨c1, c2, e, h1, h2⟩ => ⟨c1, c2, e, Cs_mono hS ha h1, Cs_mono hS ha h2⟩
 | .sl _ t, xs, _, ⟨A, c, cs', e, hc, l, r⟩ => ⟨A, c, cs', e, hc, Fl_imp (fun _ _ => Cs_mono hS ha) l, r.imp id (fun ⟨ad, e, hs, h⟩ =>
   ⟨ad, e, hS _ hs, fun j u hj => by
    rw [World.cell?_of_block (w := w)]
    ·exact h j u hj
    ·rw [show (ad.add j).block = ad.block by unfold Addr.add; split <;> rfl]; exact ha _ hs⟩)⟩
 | .rf t, _, _, ⟨ad, c, e, hs, h, hc⟩ => ⟨ad, c, e, hS _ hs, Cs_mono hS ha h, ag_cell hS ha hs hc⟩
 | .fn _ _ _, _, _, ⟨c1, c2, e, h1, h2⟩ => ⟨c1, c2, e, Cs_mono hS ha h1, Cs_mono hS ha h2⟩
 | .ifc _ _, _, _, ⟨c, e, h⟩ => ⟨c, e, Cs_mono hS ha h⟩
 | .id _ _, _, _, h => h.elim
 | .mp _ _, _, _, h => h.elim
 | .ar b, _, _, h => Cs_mono hS ha (t := b) h
theorem Cs_flat : ∀ {t : Ty} {x : t.den} {cs}, t.flat = true → Cs w S t x cs → Cs w' S' t x cs
 | .int _, _, _, _, e => e
 | .bool, _, _, _, e => e
 | .str, _, _, _, e => e
 | .un, _, _, _, e => e
 | .pr _ _, _, _, f, ⟨c1, c2, e, h1, h2⟩ => by
  rw [Ty.flat, Bool.and_eq_true] at f
  exact ⟨c1, c2, e, Cs_flat f.1 h1, Cs_flat f.2 h2⟩
 | .sl _ t, xs, _, f, _ => by cases f
 | .rf _, _, _, f, _ => by cases f
 | .fn _ _ _, _, _, f, _ => by cases f
 | .ifc _ _, _, _, f, _ => by cases f
 | .id _ _, _, _, f, _ => by cases f
 | .mp _ _, _, _, f, _ => by cases f
 | .ar b, _, _, f, h => Cs_flat (t := b) f h
theorem Cs_zero : ∀ (t : Ty), t.zok = true → Cs w S t t.zv t.zc
 | .int _, _ => rfl
 | .bool, _ => rfl
 | .str, _ => rfl
 | .un, _ => rfl
 | .pr a b, h => by rw [Ty.zok, Bool.and_eq_true] at h; exact ⟨_, _, rfl, Cs_zero a h.1, Cs_zero b h.2⟩
 | .sl _ t, _ => ⟨none, 0, [], rfl, Nat.le_refl _, rfl, .inl rfl⟩
 | .rf _, h => by cases h
 | .fn _ _ _, h => by cases h
 | .ifc _ _, h => by cases h
 | .id _ _, h => by cases h
 | .mp _ _, h => by cases h
 | .ar b, h => Cs_zero b h
theorem zc_len : ∀ (t : Ty), t.zc.length = t.sz
 | .int _ => rfl
 | .bool => rfl
 | .str => rfl
 | .un => rfl
 | .pr a b => by rw [Ty.zc, List.length_append, zc_len a, zc_len b]; rfl
 | .sl _ _ => rfl
 | .rf _ => rfl
 | .fn _ _ _ => rfl
 | .ifc _ _ => rfl
 | .id _ _ => rfl
 | .mp _ _ => rfl
 | .ar b => zc_len b
theorem Cs_one : ∀ {t : Ty} {x : t.den} {cs}, Cs w S t x cs → ∀ u ∈ cs, u.oneCell' = true
 | .int _, _, _, e, u, hu => by rw [show _ = [_] from e] at hu; rw [List.mem_singleton.1 hu]; rfl
 | .bool, _, _, e, u, hu => by rw [show _ = [_] from e] at hu; rw [List.mem_singleton.1 hu]; rfl
 | .str, _, _, e, u, hu => by rw [show _ = [_] from e] at hu; rw [List.mem_singleton.1 hu]; rfl
 | .un, _, _, e, u, hu => by rw [show _ = [] from e] at hu; cases hu
 | .pr _ _, _, _, ⟨c1, c2, e, h1, h2⟩, u, hu => by
  rw [e, List.mem_append] at hu
  rcases hu with hu | hu
  ·exact Cs_one h1 u hu
  ·exact Cs_one h2 u hu
 | .sl _ _, _, _, ⟨_, _, _, e, _⟩, u, hu => by rw [e] at hu; rw [List.mem_singleton.1 hu]; rfl
 | .rf _, _, _, ⟨_, _, e, _⟩, u, hu => by rw [e] at hu; rw [List.mem_singleton.1 hu]; rfl
 | .fn _ _ _, _, _, ⟨_, _, e, _⟩, u, hu => by rw [e] at hu; rw [List.mem_singleton.1 hu]; rfl
 | .ifc _ _, _, _, ⟨_, e, _⟩, u, hu => by rw [e] at hu; rw [List.mem_singleton.1 hu]; rfl
 | .id _ _, _, _, h, _, _ => h.elim
 | .mp _ _, _, _, h, _, _ => h.elim
 | .ar b, _, _, h, u, hu => Cs_one (t := b) h u hu
theorem Vs_mono (hS : ∀ b, S b → S' b) (ha : Ag S w w') {t : Ty} {x : t.den} {v : Value} (h : Vs w S t x v) : Vs w' S' t x v := by
 obtain ⟨cs, h, e⟩ := h; exact ⟨cs, Cs_mono hS ha h, e⟩
theorem Vs_cells {t : Ty} {x : t.den} {v : Value} (h : Vs w S t x v) : Cs w S t x v.cells.toList := by
 obtain ⟨cs, h, e⟩ := h
 unfold Ty.mk at e
 split at e
 ·rw [e]; exact h
 ·rename_i ha
  have hl := Cs_len h
  have ho := Cs_one h
  match cs, t, ha, hl with
  | [c], t, _, _ =>
   have hc := ho c List.mem_cons_self
   rw [show v = c from e]
   rw [show c.cells = #[c] by cases c <;> first | rfl | simp [Value.oneCell'] at hc]
   exact h
  | [], .int _, _, hl => cases hl
  | [], .bool, _, hl => cases hl
  | [], .str, _, hl => cases hl
  | [], .sl _ _, _, hl => cases hl
  | [], .rf _, _, hl => cases hl
  | [], .fn _ _ _, _, hl => cases hl
  | [], .ifc _ _, _, hl => cases hl
  | [], .id _ _, _, hl => cases hl
  | [], .mp _ _, _, hl => cases hl
  | [], .pr _ _, ha, _ => exact absurd rfl ha
  | [], .un, ha, _ => exact absurd rfl ha
  | [], .ar _, ha, _ => exact absurd rfl ha
  | _ :: _ :: _, .int _, _, hl => cases hl
  | _ :: _ :: _, .bool, _, hl => cases hl
  | _ :: _ :: _, .str, _, hl => cases hl
  | _ :: _ :: _, .sl _ _, _, hl => cases hl
  | _ :: _ :: _, .rf _, _, hl => cases hl
  | _ :: _ :: _, .fn _ _ _, _, hl => cases hl
  | _ :: _ :: _, .ifc _ _, _, hl => cases hl
  | _ :: _ :: _, .id _ _, _, hl => cases hl
  | _ :: _ :: _, .mp _ _, _, hl => cases hl
  | _ :: _ :: _, .pr _ _, ha, _ => exact absurd rfl ha
  | _ :: _ :: _, .un, ha, _ => exact absurd rfl ha
  | _ :: _ :: _, .ar _, ha, _ => exact absurd rfl ha
theorem Vs_int {k : IntKind} {x : Int} {v : Value} : Vs w S (.int k) x v ↔ v = .int k x :=
 ⟨fun ⟨cs, h, e⟩ => by rw [show cs = [_] from h] at e; exact e, fun e => ⟨_, rfl, e⟩⟩
theorem Vs_bool {x : Bool} {v : Value} : Vs w S .bool x v ↔ v = .bool x :=
 ⟨fun ⟨cs, h, e⟩ => by rw [show cs = [_] from h] at e; exact e, fun e => ⟨_, rfl, e⟩⟩
theorem Vs_str {x : ByteArray} {v : Value} : Vs w S .str x v ↔ v = .string x :=
 ⟨fun ⟨cs, h, e⟩ => by rw [show cs = [_] from h] at e; exact e, fun e => ⟨_, rfl, e⟩⟩
theorem Vs_sl {e : TypeId} {t : Ty} {xs : List t.den} {v : Value} : Vs w S (.sl e t) xs v ↔ Cs w S (.sl e t) xs [v] :=
 ⟨fun ⟨cs, h, e⟩ => by
  obtain ⟨A, c, cs', e1, h1⟩ := h
  rw [e1] at e
  exact ⟨A, c, cs', by rw [e]; rfl, h1⟩, fun h => ⟨_, h, rfl⟩⟩
end cs
theorem Vs_rf {w : World} {S : Nat → Prop} {t : Ty} {x : t.den} {v : Value} : Vs w S (.rf t) x v ↔ Cs w S (.rf t) x [v] :=
 ⟨fun ⟨cs, h, e⟩ => by
  obtain ⟨A, c, e1, h1⟩ := h
  rw [e1] at e
  exact ⟨A, c, by rw [e]; rfl, h1⟩, fun h => ⟨_, h, rfl⟩⟩
def Vl (w : World) (S : Nat → Prop) (t : Ty) (x : t.den) (vs : List Value) : Prop := ∃ cs, Cs w S t x cs ∧ vs = t.vals cs
def Ty.tvs : (t : Ty) → t.den → List TV
 | .pr a b, x => ⟨a, x.1⟩ :: b.tvs x.2
 | _, _ => []
def tup : List TV → TV
 | [] => ⟨.un, ()⟩
 | tv :: l => ⟨.pr tv.t (tup l).t, (tv.x, (tup l).x)⟩
theorem Vs_fn {w : World} {S : Nat → Prop} {f : Fn} {a c : Ty} {x : a.den × c.den} {v : Value} : Vs w S (.fn f a c) x v ↔ ∃ l m, v = .func f l.toArray m.toArray ∧ Vl w S a x.1 l ∧ Vl w S c x.2 m :=
 ⟨fun ⟨cs, h, e⟩ => by
  obtain ⟨c1, c2, e1, h1, h2⟩ := h
  rw [e1] at e
  exact ⟨_, _, e, ⟨c1, h1, rfl⟩, ⟨c2, h2, rfl⟩⟩, fun ⟨l, m, e, ⟨c1, h1, e1⟩, ⟨c2, h2, e2⟩⟩ => ⟨_, ⟨c1, c2, rfl, h1, h2⟩, by rw [e, e1, e2]; rfl⟩⟩
theorem Vs_ifc {w : World} {S : Nat → Prop} {d : TypeId} {t : Ty} {x : t.den} {v : Value} : Vs w S (.ifc d t) x v ↔ ∃ u, v = .iface d u ∧ Vs w S t x u :=
 ⟨fun ⟨cs, h, e⟩ => by
  obtain ⟨c, e1, h1⟩ := h
  rw [e1] at e
  exact ⟨_, e, c, h1, rfl⟩, fun ⟨u, e, c, h1, e1⟩ => ⟨_, ⟨c, rfl, h1⟩, by rw [e, e1]; rfl⟩⟩
def Ty.off : Ty → List Nat → Option (Nat × Ty)
 | t, [] => some (0, t)
 | .pr a _, 0 :: fs => a.off fs
 | .pr a b, (n + 1) :: fs => (b.off (n :: fs)).map fun q => (a.sz + q.1, q.2)
 | .ar b, 0 :: n :: fs => b.off (n :: fs)
 | _, _ => none
def Ty.pj : (t : Ty) → List Nat → t.den → TV
 | t, [], x => ⟨t, x⟩
 | .pr a _, 0 :: fs, x => a.pj fs x.1
 | .pr _ b, (n + 1) :: fs, x => b.pj (n :: fs) x.2
 | .ar b, 0 :: n :: fs, x => b.pj (n :: fs) x
 | _, _, _ => ⟨.un, ()⟩
def TV.ofT (y : TV) (t : Ty) (K : t.den → Prop) : Prop := ∃ h : y.t = t, K (h ▸ y.x)
theorem TV.ofT_self (t : Ty) (x : t.den) (K : t.den → Prop) : (TV.mk t x).ofT t K = K x := propext ⟨fun ⟨_, h⟩ => h, fun h => ⟨rfl, h⟩⟩
def Ty.st : (t : Ty) → List Nat → t.den → TV → (t.den → Prop) → Prop
 | t, [], _, y, K => y.ofT t K
 | .pr a _, 0 :: fs, x, y, K => a.st fs x.1 y fun z => K (z, x.2)
 | .pr _ b, (n + 1) :: fs, x, y, K => b.st (n :: fs) x.2 y fun z => K (x.1, z)
 | .ar b, 0 :: n :: fs, x, y, K => b.st (n :: fs) x y K
 | _, _, _, _, _ => False
theorem Ty.off_le : ∀ {t : Ty} {fs : List Nat} {o : Nat} {t' : Ty}, t.off fs = some (o, t') → o + t'.sz ≤ t.sz
 | t, [], o, t', e => by
  have e' : some (0, t) = some (o, t') := by simpa [Ty.off] using e
  injection e' with e'; injection e' with e1 e2; subst e1 e2
  omega
 | .pr a b, 0 :: fs, o, t', e => by
  have := Ty.off_le (t := a) (fs := fs) e
  show _ ≤ a.sz + b.sz
  omega
 | .pr a b, (n + 1) :: fs, o, t', e => by
  have e' : (b.off (n :: fs)).map (fun q => (a.sz + q.1, q.2)) = some (o, t') := e
  obtain ⟨⟨o2, t2⟩, e3, e4⟩ := Option.map_eq_some_iff.1 e'
  injection e4 with e5 e6
  simp only at e5 e6
  subst e6
  have := Ty.off_le (t := b) (fs := n :: fs) e3
  show _ ≤ a.sz + b.sz
  omega
 | .ar b, 0 :: n :: fs, o, t', e => Ty.off_le (t := b) (fs := n :: fs) e
 | .ar b, [_], _, _, e => by simp [Ty.off] at e
 | .ar b, (_ + 1) :: _ :: _, _, _, e => by simp [Ty.off] at e
 | .int _, _ :: _, _, _, e => by simp [Ty.off] at e
 | .bool, _ :: _, _, _, e => by simp [Ty.off] at e
 | .str, _ :: _, _, _, e => by simp [Ty.off] at e
 | .sl _ _, _ :: _, _, _, e => by simp [Ty.off] at e
 | .un, _ :: _, _, _, e => by simp [Ty.off] at e
 | .rf _, _ :: _, _, _, e => by simp [Ty.off] at e
 | .fn _ _ _, _ :: _, _, _, e => by simp [Ty.off] at e
 | .ifc _ _, _ :: _, _, _, e => by simp [Ty.off] at e
 | .id _ _, _ :: _, _, _, e => by simp [Ty.off] at e
 | .mp _ _, _ :: _, _, _, e => by simp [Ty.off] at e
theorem drop_app {α : Type} (a b : List α) (n : Nat) : (a ++ b).drop (a.length + n) = b.drop n := by
 rw [← List.drop_drop, List.drop_left]
theorem take_app {α : Type} (a b : List α) (n : Nat) : (a ++ b).take (a.length + n) = a ++ b.take n := by
 rw [List.take_append, List.take_of_length_le (Nat.le_add_right _ _), Nat.add_sub_cancel_left]
theorem Cs_pj {w : World} {S : Nat → Prop} : ∀ {t : Ty} {fs : List Nat} {x : t.den} {cs : List Value} {o : Nat} {t' : Ty}, Cs w S t x cs → t.off fs = some (o, t') →
  (t.pj fs x).t = t' ∧ ∃ c, Cs w S (t.pj fs x).t (t.pj fs x).x c ∧ (∀ j u, c[j]? = some u → cs[o + j]? = some u) ∧ c = (cs.drop o).take t'.sz
 | t, [], x, cs, o, t', h, e => by
  have e' : some (0, t) = some (o, t') := by simpa [Ty.off] using e
  injection e' with e'; injection e' with e1 e2; subst e1 e2
  have : t.pj [] x = ⟨t, x⟩ := by unfold Ty.pj; rfl
  rw [this]
  exact ⟨rfl, cs, h, fun j u hj => by simpa using hj, by rw [List.drop_zero, List.take_of_length_le (Nat.le_of_eq (Cs_len h))]⟩
 | .pr a b, 0 :: fs, x, cs, o, t', h, e => by
  obtain ⟨c1, c2, e1, h1, h2⟩ := h
  obtain ⟨q1, c, q2, q3, q4⟩ := Cs_pj (t := a) (fs := fs) h1 e
  refine ⟨q1, c, q2, fun j u hj => ?_, ?_⟩
  ·have := q3 j u hj
   rw [e1, List.getElem?_append_left]; exact this
   rcases Nat.lt_or_ge (o + j) c1.length with h | h
   ·exact h
   ·rw [List.getElem?_eq_none h] at this; cases this
  ·have hl : c.length = t'.sz := by rw [← q1]; exact Cs_len q2
   have hl2 : c.length = ((c1.drop o).take t'.sz).length := by rw [← q4]
   rw [List.length_take, List.length_drop] at hl2
   have hoff := Ty.off_le (t := a) (fs := fs) e
   have h1l := Cs_len h1
   rw [e1, q4, List.drop_append, List.take_append, List.length_drop]
   rw [show t'.sz - (c1.length - o) = 0 by omega]; simp
 | .pr a b, (n + 1) :: fs, x, cs, o, t', h, e => by
  obtain ⟨c1, c2, e1, h1, h2⟩ := h
  have e' : (b.off (n :: fs)).map (fun q => (a.sz + q.1, q.2)) = some (o, t') := e
  obtain ⟨⟨o2, t2⟩, e3, e4⟩ := Option.map_eq_some_iff.1 e'
  injection e4 with e5 e6
  simp only at e5 e6
  subst e6
  obtain ⟨q1, c, q2, q3, q4⟩ := Cs_pj (t := b) (fs := n :: fs) h2 e3
  refine ⟨q1, c, q2, fun j u hj => ?_, ?_⟩
  ·have := q3 j u hj
   rw [e1, ← e5, ← Cs_len h1, Nat.add_assoc, List.getElem?_append_right (by omega), Nat.add_sub_cancel_left]; exact this
  ·rw [q4, e1, ← e5, ← Cs_len h1, drop_app]
 | .ar b, 0 :: n :: fs, x, cs, o, t', h, e => Cs_pj (t := b) (fs := n :: fs) h e
 | .ar b, [_], _, _, _, _, _, e => by simp [Ty.off] at e
 | .ar b, (_ + 1) :: _ :: _, _, _, _, _, _, e => by simp [Ty.off] at e
 | .int _, _ :: _, _, _, _, _, _, e => by simp [Ty.off] at e
 | .bool, _ :: _, _, _, _, _, _, e => by simp [Ty.off] at e
 | .str, _ :: _, _, _, _, _, _, e => by simp [Ty.off] at e
 | .sl _ _, _ :: _, _, _, _, _, _, e => by simp [Ty.off] at e
 | .un, _ :: _, _, _, _, _, _, e => by simp [Ty.off] at e
 | .rf _, _ :: _, _, _, _, _, _, e => by simp [Ty.off] at e
 | .fn _ _ _, _ :: _, _, _, _, _, _, e => by simp [Ty.off] at e
 | .ifc _ _, _ :: _, _, _, _, _, _, e => by simp [Ty.off] at e
 | .id _ _, _ :: _, _, _, _, _, _, e => by simp [Ty.off] at e
 | .mp _ _, _ :: _, _, _, _, _, _, e => by simp [Ty.off] at e
theorem TV.ofT_out {y : TV} {t : Ty} {K : t.den → Prop} (h : y.ofT t K) : ∃ z, y = ⟨t, z⟩ ∧ K z := by
 obtain ⟨t', x⟩ := y
 obtain ⟨h, k⟩ := h
 cases h
 exact ⟨x, rfl, k⟩
theorem Cs_st {w : World} {S : Nat → Prop} : ∀ {t : Ty} {fs : List Nat} {x : t.den} {y : TV} {K : t.den → Prop} {cs d : List Value} {o : Nat} {t' : Ty}, t.st fs x y K → Cs w S t x cs → Cs w S y.t y.x d →
  t.off fs = some (o, t') → y.t = t' ∧ ∃ z, K z ∧ Cs w S t z (cs.take o ++ (d ++ cs.drop (o + t'.sz)))
 | t, [], x, y, K, cs, d, o, t', h, hx, hy, e => by
  have e' : some (0, t) = some (o, t') := by simpa [Ty.off] using e
  injection e' with e'; injection e' with e1 e2; subst e1 e2
  have h' : y.ofT t K := by unfold Ty.st at h; exact h
  obtain ⟨z, rfl, k⟩ := TV.ofT_out h'
  refine ⟨rfl, z, k, ?_⟩
  rw [List.drop_of_length_le (by have := Cs_len hx; omega)]
  simpa using hy
 | .pr a b, 0 :: fs, x, y, K, cs, d, o, t', h, hx, hy, e => by
  obtain ⟨c1, c2, e1, h1, h2⟩ := hx
  obtain ⟨q1, c, q2, q3, q4⟩ := Cs_pj (t := a) (fs := fs) h1 e
  obtain ⟨r1, z, r2, r3⟩ := Cs_st (t := a) (fs := fs) h h1 hy e
  have h1l := Cs_len h1
  refine ⟨r1, (z, x.2), r2, _, c2, ?_, r3, h2⟩
  have hoff := Ty.off_le (t := a) (fs := fs) e
  rw [e1, List.take_append, List.drop_append, List.append_assoc, List.append_assoc, show o - c1.length = 0 by omega, show o + t'.sz - c1.length = 0 by omega]
  simp
 | .pr a b, (n + 1) :: fs, x, y, K, cs, d, o, t', h, hx, hy, e => by
  obtain ⟨c1, c2, e1, h1, h2⟩ := hx
  have e' : (b.off (n :: fs)).map (fun q => (a.sz + q.1, q.2)) = some (o, t') := e
  obtain ⟨⟨o2, t2⟩, e3, e4⟩ := Option.map_eq_some_iff.1 e'
  injection e4 with e5 e6
  simp only at e5 e6
  subst e6
  obtain ⟨r1, z, r2, r3⟩ := Cs_st (t := b) (fs := n :: fs) h h2 hy e3
  refine ⟨r1, (x.1, z), r2, c1, _, ?_, h1, r3⟩
  rw [e1, ← e5, ← Cs_len h1, take_app, Nat.add_assoc, drop_app, List.append_assoc]
 | .ar b, 0 :: n :: fs, x, y, K, cs, d, o, t', h, hx, hy, e => Cs_st (t := b) (fs := n :: fs) h hx hy e
 | .ar b, [_], _, _, _, _, _, _, _, _, _, _, e => by simp [Ty.off] at e
 | .ar b, (_ + 1) :: _ :: _, _, _, _, _, _, _, _, _, _, _, e => by simp [Ty.off] at e
 | .int _, _ :: _, _, _, _, _, _, _, _, _, _, _, e => by simp [Ty.off] at e
 | .bool, _ :: _, _, _, _, _, _, _, _, _, _, _, e => by simp [Ty.off] at e
 | .str, _ :: _, _, _, _, _, _, _, _, _, _, _, e => by simp [Ty.off] at e
 | .sl _ _, _ :: _, _, _, _, _, _, _, _, _, _, _, e => by simp [Ty.off] at e
 | .un, _ :: _, _, _, _, _, _, _, _, _, _, _, e => by simp [Ty.off] at e
 | .rf _, _ :: _, _, _, _, _, _, _, _, _, _, _, e => by simp [Ty.off] at e
 | .fn _ _ _, _ :: _, _, _, _, _, _, _, _, _, _, _, e => by simp [Ty.off] at e
 | .ifc _ _, _ :: _, _, _, _, _, _, _, _, _, _, _, e => by simp [Ty.off] at e
 | .id _ _, _ :: _, _, _, _, _, _, _, _, _, _, _, e => by simp [Ty.off] at e
 | .mp _ _, _ :: _, _, _, _, _, _, _, _, _, _, _, e => by simp [Ty.off] at e
end Go.TT
end
section
namespace Go.TT
open Go.RowKit
set_option linter.unusedVariables false
set_option linter.unusedSimpArgs false
inductive PV where
 | bot
 | ro (t : Ty) (x : t.den)
 | nil
 | own (k : Nat)
 | ptr (k : Nat) (i : Int) (fs : List Nat)
 | cel (t : Ty) (x : t.den)
 | vw (k l h : Nat)
 | one (e : TypeId) (k : Nat)
 | pair (a b : PV)
 | tnil
structure Ob where
 e : TypeId
 t : Ty
 xs : List t.den
 mu : Bool
def PV.keys : PV → List Nat
 | .own k => [k]
 | .ptr k _ _ => [k]
 | .vw k _ _ => [k]
 | .one _ k => [k]
 | .pair a b => a.keys ++ b.keys
 | _ => []
structure FS where
 g : Nat → PV
 o : Nat → Option Ob
 /-- how many rows lie in rows -/
 h : Nat
def od (i : Nat) : Nat := 2 * i + 1
def Ty.row : Ty → Bool
 | .id _ _ => false
 | .mp _ _ => false
 | _ => true
def Ob.ln (o : Ob) : Nat := match o.t with | .mp _ _ => 0 | _ => o.xs.length
def idsOf : Ob → List Nat
 | ⟨_, .id _ _, l, _⟩ => l
 | _ => []
abbrev Sh := Nat → Option (Nat × Ty)
def FS.sh (f : FS) : Sh := fun k => (f.o k).map fun o => (o.ln, o.t)
def PV1 (w : World) (S : Nat → Prop) (V : Nat → Value) (sh : Sh) : PV → Value → Prop
 | .bot, _ => True
 | .ro t x, v => Vs w S t x v
 | .nil, v => v = .slice none 0 0
 | .own k, v => ∀ n t, sh k = some (n, t) → v = V k
 | .ptr k i fs, v => ∀ n t, sh k = some (n, t) → 0 ≤ i ∧ i < n ∧ ∃ ad m c q, V k = .slice (some ad) m c ∧ t.off fs = some q ∧ v = .pointer (some (ad.add (i.toNat * t.sz + q.1)))
 | .vw k l h, v => ∀ n t, sh k = some (n, t) → l ≤ h ∧ h ≤ n ∧ ∃ A m c A', V k = .slice A m c ∧ v = .slice A' (h - l) (c - l) ∧ (h = l ∨ A' = A.map (·.add (l * t.sz)))
 | .one _ k, v => ∀ n t, sh k = some (n, t) → ∃ ad c, v = .slice (some ad) 1 c ∧ 1 ≤ c ∧ S ad.block ∧ w.cell? ad = some (V k)
 | .cel t x, v => ∃ ad cs, v = .pointer (some ad) ∧ S ad.block ∧ Cs w S t x cs ∧ ∀ j u, cs[j]? = some u → w.cell? (ad.add j) = some u
 | .pair _ _, _ => False
 | .tnil, _ => False
def PVl (w : World) (S : Nat → Prop) (V : Nat → Value) (sh : Sh) : PV → List Value → Prop
 | .pair a b, vs => ∃ v vs', vs = v :: vs' ∧ PV1 w S V sh a v ∧ PVl w S V sh b vs'
 | .tnil, vs => vs = []
 | _, _ => False
def PVr (w : World) (S : Nat → Prop) (V : Nat → Value) (sh : Sh) : PV → Value → Prop
 | .pair a b, v => ∃ vs : List Value, v = .tuple vs.toArray ∧ PVl w S V sh (.pair a b) vs
 | .tnil, v => v = .tuple #[]
 | p, v => PV1 w S V sh p v
section pv
variable {w w' : World} {S S' : Nat → Prop} {V V' : Nat → Value} {sh sh' : Sh}
theorem PV1_mono (hS : ∀ b, S b → S' b) (ha : Ag S w w') : ∀ {p : PV} {v : Value}, (∀ k, k ∈ p.keys → (∀ s, sh' k = some s → sh k = some s) ∧ V' k = V k) → PV1 w S V sh p v → PV1 w' S' V' sh' p v
 | .bot, _, _, h => trivial
 | .ro t x, _, _, h => Vs_mono hS ha h
 | .nil, _, _, h => h
 | .own k, _, hk, h => fun n t e => by rw [(hk k (by simp [PV.keys])).2]; exact h n t ((hk k (by simp [PV.keys])).1 _ e)
 | .ptr k i fs, _, hk, h => fun n t e => by rw [(hk k (by simp [PV.keys])).2]; exact h n t ((hk k (by simp [PV.keys])).1 _ e)
 | .vw k i j, _, hk, h => fun n t e => by rw [(hk k (by simp [PV.keys])).2]; exact h n t ((hk k (by simp [PV.keys])).1 _ e)
 | .one e k, _, hk, h => fun n t q => by
  obtain ⟨ad, c, h1, h2, h3, h4⟩ := h n t ((hk k (by simp [PV.keys])).1 _ q)
  exact ⟨ad, c, h1, h2, hS _ h3, by rw [World.cell?_of_block (w := w) (ha _ h3), (hk k (by simp [PV.keys])).2]; exact h4⟩
 | .cel t x, _, _, ⟨ad, cs, e, hs, h, hc⟩ => ⟨ad, cs, e, hS _ hs, Cs_mono hS ha h, ag_cell hS ha hs hc⟩
theorem PVl_mono (hS : ∀ b, S b → S' b) (ha : Ag S w w') : ∀ {p : PV} {vs : List Value}, (∀ k, k ∈ p.keys → (∀ s, sh' k = some s → sh k = some s) ∧ V' k = V k) → PVl w S V sh p vs → PVl w' S' V' sh' p vs
 | .pair a b, _, hk, ⟨v, vs', e, h1, h2⟩ => ⟨v, vs', e, PV1_mono hS ha (fun k h => hk k (by simp [PV.keys, h])) h1, PVl_mono hS ha (fun k h => hk k (by simp [PV.keys, h])) h2⟩
 | .tnil, _, _, h => h
theorem PVr_mono (hS : ∀ b, S b → S' b) (ha : Ag S w w') {p : PV} {v : Value} (hk : ∀ k, k ∈ p.keys → (∀ s, sh' k = some s → sh k = some s) ∧ V' k = V k) (h : PVr w S V sh p v) : PVr w' S' V' sh' p v := by
 cases p with
 | pair a b => obtain ⟨vs, e, h⟩ := h; exact ⟨vs, e, PVl_mono hS ha hk h⟩
 | tnil => exact h
 | bot => exact trivial
 | ro t x => exact PV1_mono hS ha hk h
 | nil => exact PV1_mono hS ha hk h
 | own k => exact PV1_mono hS ha hk h
 | ptr k i fs => exact PV1_mono hS ha hk h
 | vw k i j => exact PV1_mono hS ha hk h
 | one e k => exact PV1_mono hS ha hk h
 | cel t x => exact PV1_mono hS ha hk h
end pv
def blk : Value → Option Nat
 | .map r => r
 | v => v.ownBlock
def Mp (w : World) (S : Nat → Prop) (k t : Ty) : List (k.den × t.den) → List MapEntry → Prop
 | [], es => es = []
 | x :: xs, es => ∃ e es', es = e :: es' ∧ Vs w S k x.1 e.key ∧ Vs w S t x.2 e.val ∧ Mp w S k t xs es'
theorem Mp_len {w : World} {S : Nat → Prop} {k t : Ty} : ∀ {xs : List (k.den × t.den)} {es : List MapEntry}, Mp w S k t xs es → es.length = xs.length
 | [], _, h => by rw [show _ = [] from h]; rfl
 | _ :: _, _, ⟨e, es', h1, _, _, h4⟩ => by rw [h1, List.length_cons, List.length_cons, Mp_len h4]
def MapOk (w : World) (S : Nat → Prop) (k t : Ty) (xs : List (k.den × t.den)) (v : Value) : Prop :=
 ∃ r es c, v = .map (some r) ∧ w.heap[r]? = some (.map es c) ∧ Mp w S k t xs es.toList ∧ (es.toList.map MapEntry.born).Pairwise (· < ·) ∧ ∀ b ∈ es.toList.map MapEntry.born, b < c
def ORx (w : World) (S : Nat → Prop) (V : Nat → Value) : Ob → Value → Prop
 | ⟨e, .id _ _, ids, _⟩, v => w.ownsRow 0 e 1 v (List.length ids) (List.map V ids)
 | ⟨_, .mp k t, xs, _⟩, v => MapOk w S k t xs v
 | _, _ => False
def OR (w : World) (S : Nat → Prop) (V : Nat → Value) (o : Ob) (v : Value) : Prop :=
 match o.t.row, o.mu with
 | true, true => ∃ cs, w.ownsRow 0 o.e o.t.sz v o.xs.length cs ∧ Fl (Cs w S o.t) o.xs cs
 | true, false => Cs w S (.sl o.e o.t) o.xs [v]
 | false, true => ORx w S V o v
 | false, false => False
theorem OR_own {w : World} {S : Nat → Prop} {V : Nat → Value} {o : Ob} {v : Value} (hr : o.t.row = true) (hm : o.mu = true) : OR w S V o v = ∃ cs, w.ownsRow 0 o.e o.t.sz v o.xs.length cs ∧ Fl (Cs w S o.t) o.xs cs := by unfold OR; rw [hr, hm]
theorem OR_fz {w : World} {S : Nat → Prop} {V : Nat → Value} {o : Ob} {v : Value} (hr : o.t.row = true) (hm : o.mu = false) : OR w S V o v = Cs w S (.sl o.e o.t) o.xs [v] := by unfold OR; rw [hr, hm]
theorem OR_x {w : World} {S : Nat → Prop} {V : Nat → Value} {o : Ob} {v : Value} (hr : o.t.row = false) (h : OR w S V o v) : o.mu = true ∧ ORx w S V o v := by
 unfold OR at h; rw [hr] at h
 rcases hm : o.mu with _ | _
 ·rw [hm] at h; exact h.elim
 ·rw [hm] at h; exact ⟨rfl, h⟩
theorem OR_id {w : World} {S : Nat → Prop} {V : Nat → Value} {e e' : TypeId} {t : Ty} {ids : List Nat} {v : Value} : OR w S V ⟨e, .id e' t, ids, true⟩ v = w.ownsRow 0 e 1 v (List.length ids) (List.map V ids) := rfl
theorem OR_mp {w : World} {S : Nat → Prop} {V : Nat → Value} {e : TypeId} {k t : Ty} {xs : List (k.den × t.den)} {v : Value} : OR w S V ⟨e, .mp k t, xs, true⟩ v = MapOk w S k t xs v := rfl
theorem row_ids {o : Ob} (h : o.t.row = true) : idsOf o = [] := by
 obtain ⟨e, t, xs, m⟩ := o
 cases t <;> first | rfl | cases h
theorem row_ln {o : Ob} (h : o.t.row = true) : o.ln = o.xs.length := by
 obtain ⟨e, t, xs, m⟩ := o
 cases t <;> first | rfl | cases h
theorem Fl_Cs_mono {w w' : World} {S S' : Nat → Prop} (hS : ∀ b, S b → S' b) (ha : Ag S w w') {t : Ty} {xs : List t.den} {cs} (h : Fl (Cs w S t) xs cs) : Fl (Cs w' S' t) xs cs :=
 Fl_imp (fun _ _ => Cs_mono hS ha) h
theorem Mp_mono {w w' : World} {S S' : Nat → Prop} (hS : ∀ b, S b → S' b) (ha : Ag S w w') {k t : Ty} : ∀ {xs : List (k.den × t.den)} {es : List MapEntry}, Mp w S k t xs es → Mp w' S' k t xs es
 | [], _, h => h
 | _ :: _, _, ⟨e, es', h1, h2, h3, h4⟩ => ⟨e, es', h1, Vs_mono hS ha h2, Vs_mono hS ha h3, Mp_mono hS ha h4⟩
theorem ownsRow_blk {w w' : World} {e : TypeId} {z n : Nat} {v : Value} {cs : List Value} (h : w.ownsRow 0 e z v n cs) (hb : ∀ b, blk v = some b → w'.heap[b]? = w.heap[b]?) : w'.ownsRow 0 e z v n cs := by
 refine ⟨h.1, h.2.imp id fun ⟨g, cap, cur, q1, q2, q3, q4⟩ => ⟨g, cap, cur, q1, q2, ?_, q4⟩⟩
 rw [hb g (by rw [q1]; rfl)]; exact q3
theorem OR_mono {w w' : World} {S S' : Nat → Prop} {V V' : Nat → Value} {o : Ob} {v : Value} (hS : ∀ b, S b → S' b) (ha : Ag S w w') (hb : o.mu = true → ∀ b, blk v = some b → w'.heap[b]? = w.heap[b]?) (hi : ∀ i ∈ idsOf o, V' i = V i) (h : OR w S V o v) : OR w' S' V' o v := by
 rcases hr : o.t.row with _ | _
 ·obtain ⟨hm, h⟩ := OR_x hr h
  obtain ⟨e, t, xs, m⟩ := o
  simp only at hm hr
  subst hm
  cases t <;> try cases hr
  ·rw [OR_id]
   have h : w.ownsRow 0 e 1 v (List.length xs) (List.map V xs) := h
   have e2 : List.map V' xs = List.map V xs := List.map_congr_left fun i hi' => hi i hi'
   rw [e2]
   exact ownsRow_blk h (hb rfl)
  ·obtain ⟨r, es, c, h1, h2, h3, h4⟩ := h
   rw [OR_mp]
   exact ⟨r, es, c, h1, by rw [hb rfl r (by rw [h1]; rfl)]; exact h2, Mp_mono hS ha h3, h4⟩
 ·rcases hm : o.mu with _ | _
  ·rw [OR_fz hr hm] at h ⊢; exact Cs_mono hS ha h
  ·rw [OR_own hr hm] at h ⊢
   obtain ⟨cs, h1, h2⟩ := h
   exact ⟨cs, ownsRow_blk h1 (hb hm), Fl_Cs_mono hS ha h2⟩
theorem OR_lt {w : World} {S : Nat → Prop} {V : Nat → Value} {o : Ob} {v : Value} (h : OR w S V o v) (hm : o.mu = true) : ∀ b, blk v = some b → b < w.heap.size := by
 have hs : ∀ {b : Nat} {x : Obj}, w.heap[b]? = some x → b < w.heap.size := fun h => (Array.getElem?_eq_some_iff.1 h).1
 have key : ∀ {e : TypeId} {z n : Nat} {cs : List Value}, w.ownsRow 0 e z v n cs → ∀ b, blk v = some b → b < w.heap.size := fun {e z n cs} h b hb => by
  rcases h.2 with ⟨q1, _⟩ | ⟨g, cap, cur, q1, q2, q3, _⟩
  ·rw [q1] at hb; cases hb
  ·rw [q1] at hb; injection hb with hb; subst hb; exact hs q3
 rcases hr : o.t.row with _ | _
 ·obtain ⟨_, h⟩ := OR_x hr h
  obtain ⟨e, t, xs, m⟩ := o
  cases t <;> try cases hr
  ·exact key h
  ·obtain ⟨r, es, c, h1, h2, _⟩ := h
   intro b hb; rw [h1] at hb; injection hb with hb; subst hb; exact hs h2
 ·rw [OR_own hr hm] at h
  obtain ⟨cs, h1, _⟩ := h
  exact key h1
structure Bel (H : Nat → Prop) (w w' : World) : Prop where
 os : w'.os = w.os
 tape : w'.tape = w.tape
 output : w'.output = w.output
 size : w.heap.size ≤ w'.heap.size
 block : ∀ k, k < w.heap.size → ¬ H k → w'.heap[k]? = w.heap[k]?
theorem Bel.refl (H : Nat → Prop) (w : World) : Bel H w w := ⟨rfl, rfl, rfl, Nat.le_refl _, fun _ _ _ => rfl⟩
theorem Bel.trans {H : Nat → Prop} {a b c : World} (h : Bel H a b) (k : Bel H b c) : Bel H a c :=
 ⟨k.os.trans h.os, k.tape.trans h.tape, k.output.trans h.output, Nat.le_trans h.size k.size, fun i hi hn => (k.block i (Nat.lt_of_lt_of_le hi h.size) hn).trans (h.block i hi hn)⟩
theorem Bel.mono {H H' : Nat → Prop} {a b : World} (h : Bel H a b) (hk : ∀ k, k < a.heap.size → H k → H' k) : Bel H' a b := ⟨h.os, h.tape, h.output, h.size, fun k hl hn => h.block k hl fun q => hn (hk k hl q)⟩
theorem Bel.of {H : Nat → Prop} {a b : World} (h : Below a.heap.size a b) : Bel H a b := ⟨h.os, h.tape, h.output, h.size, fun k hl _ => h.block k hl⟩
theorem Bel.below {a b : World} (h : Bel (fun k => a.heap.size ≤ k) a b) : Below a.heap.size a b := ⟨h.os, h.tape, h.output, h.size, fun k hl => h.block k hl (by omega)⟩
def Dfs (n0 : Nat → Prop) (w : World) (S : Nat → Prop) (ds : List Deferred) : Prop := (∀ d ∈ ds, ∃ D, d = { target := .collected D, args := #[] } ∧ n0 D ∧ S D ∧ w.heap[D]? = some (.deferred (some []))) ∧ ds.Pairwise (· ≠ ·)
theorem Dfs_mono {n0 : Nat → Prop} {w w' : World} {S S' : Nat → Prop} {ds : List Deferred} (hS : ∀ b, S b → S' b) (ha : Ag S w w') (h : Dfs n0 w S ds) : Dfs n0 w' S' ds := ⟨fun d hd => by
 obtain ⟨D, e, n, s, q⟩ := h.1 d hd
 exact ⟨D, e, n, hS D s, (ha D s).trans q⟩, h.2⟩
def Fr (Fk : Nat → Prop) (f : FS) (k : Nat) : Prop := Fk k ∨ ∃ i, f.h ≤ i ∧ k = od i
structure RelC (n0 : Nat → Prop) (w0 : World) (S0 : Nat → Prop) (N : Nat) (Fk : Nat → Prop) (f : FS) (a : Act) (w : World) (S : Nat → Prop) (V : Nat → Value) : Prop where
 bel : Bel n0 w0 w
 nle : ∀ b, w0.heap.size ≤ b → n0 b
 df : Dfs n0 w S a.defers
 sz : a.tmps.size = N
 sl : ∀ i, PVr w S V f.sh (f.g i) (a.tmps.getD i undef)
 ob : ∀ k o, f.o k = some o → OR w S V o (V k)
 ds : ∀ k k' o o', k ≠ k' → f.o k = some o → f.o k' = some o' → o.mu = true → o'.mu = true → ∀ b, blk (V k) = some b → blk (V k') ≠ some b
 sp : ∀ k o, f.o k = some o → o.mu = true → ∀ b, blk (V k) = some b → ¬ S b
 ow : ∀ k o, f.o k = some o → o.mu = true → ∀ b, blk (V k) = some b → n0 b ∧ b < w.heap.size
 old : ∀ b, S b → ¬ n0 b → S0 b
 lt : ∀ b, S b → b < w.heap.size
 fr : ∀ k, Fr Fk f k → f.o k = none
 fg : ∀ i k, k ∈ (f.g i).keys → ¬ Fr Fk f k
 fi : ∀ k o, f.o k = some o → ∀ i ∈ idsOf o, ∃ j, j < f.h ∧ i = od j
 fe : ∀ k, Fk k → k % 2 = 0
section rel
variable {n0 : Nat → Prop} {w0 : World} {S0 : Nat → Prop} {N : Nat} {Fk : Nat → Prop} {f : FS} {a : Act} {w w' : World} {S S' : Nat → Prop} {V V' : Nat → Value}
theorem RelC.size (h : RelC n0 w0 S0 N Fk f a w S V) : ∀ b, w.heap.size ≤ b → n0 b := fun b hb => h.nle b (Nat.le_trans h.bel.size hb)
theorem RelC.not_fr (h : RelC n0 w0 S0 N Fk f a w S V) {j : Nat} (hj : j < f.h) : ¬ Fr Fk f (od j) := by
 rintro (hf | ⟨i, h1, h2⟩)
 ·have := h.fe _ hf; unfold od at this; omega
 ·unfold od at h2; omega
theorem RelC.grow (h : RelC n0 w0 S0 N Fk f a w S V) (hb : Below w.heap.size w w') : RelC n0 w0 S0 N Fk f a w' S V := by
 have ha : Ag S w w' := fun b hb' => hb.block b (h.lt b hb')
 exact ⟨h.bel.trans (Bel.of hb), h.nle, Dfs_mono (fun _ h => h) ha h.df, h.sz, fun i => PVr_mono (fun _ h => h) ha (fun k _ => ⟨fun _ h => h, rfl⟩) (h.sl i),
  fun k o e => OR_mono (fun _ h => h) ha (fun hm b hb' => hb.block b (h.ow k o e hm b hb').2) (fun _ _ => rfl) (h.ob k o e), h.ds, h.sp, (fun k o e hm b hb' => ⟨(h.ow k o e hm b hb').1, Nat.lt_of_lt_of_le (h.ow k o e hm b hb').2 hb.size⟩), h.old,
  fun b hb' => Nat.lt_of_lt_of_le (h.lt b hb') hb.size, h.fr, h.fg, h.fi, h.fe⟩
def upd {α : Type} (g : Nat → α) (d : Nat) (x : α) : Nat → α := fun i => if i = d then x else g i
def FS.put (f : FS) (d : Option Nat) (p : PV) : FS := match d with | none => f | some d => ⟨upd f.g d p, f.o, f.h⟩
theorem put_o {f : FS} {d : Option Nat} {p : PV} : (f.put d p).o = f.o := by cases d <;> rfl
theorem put_h {f : FS} {d : Option Nat} {p : PV} : (f.put d p).h = f.h := by cases d <;> rfl
theorem put_getD {a : Act} {d : Nat} {v : Value} (hd : d < a.tmps.size) (i : Nat) : (a.put (some d) v).tmps.getD i undef = if i = d then v else a.tmps.getD i undef := by
 simp only [Act.put]
 by_cases e : i = d
 ·subst e; simp [hd]
 ·rw [if_neg e]; simp [Array.getElem?_setIfInBounds_ne (Ne.symm e)]
theorem RelC.put (h : RelC n0 w0 S0 N Fk f a w S V) {p : PV} {v : Value} (hp : PVr w S V f.sh p v) (hk : ∀ k ∈ p.keys, ¬ Fr Fk f k) (d : Option Nat) (hd : ∀ i, d = some i → i < N) :
  RelC n0 w0 S0 N Fk (f.put d p) (a.put d v) w S V := by
 cases d with
 | none => exact h
 | some d =>
  have hd' := hd d rfl
  refine ⟨h.bel, h.nle, h.df, by simpa [Act.put] using h.sz, fun i => ?_, h.ob, h.ds, h.sp, h.ow, h.old, h.lt, h.fr, fun i k hk' => ?_, (fun k o e i hi => h.fi k o e i hi), h.fe⟩
  ·rw [put_getD (by rw [h.sz]; exact hd')]
   show PVr w S V f.sh (upd f.g d p i) _
   unfold upd
   split
   ·exact hp
   ·exact h.sl i
  ·have hk' : k ∈ (upd f.g d p i).keys := hk'
   unfold upd at hk'
   split at hk'
   ·exact hk k hk'
   ·exact h.fg i k hk'
def FS.new (f : FS) (k : Nat) (o : Ob) : FS := ⟨f.g, upd f.o k (some o), f.h⟩
def FS.del (f : FS) (k : Nat) : FS := ⟨f.g, upd f.o k none, f.h⟩
theorem RelC.new (h : RelC n0 w0 S0 N Fk f a w S V) {k : Nat} {o : Ob} {v : Value} (hk : Fk k) (ho : OR w S V o v) (hi : ∀ i ∈ idsOf o, ∃ j, j < f.h ∧ i = od j)
  (hd : o.mu = true → ∀ b, blk v = some b → n0 b ∧ ¬ S b ∧ ∀ k' o', f.o k' = some o' → o'.mu = true → blk (V k') ≠ some b) :
  RelC n0 w0 S0 N (fun j => Fk j ∧ j ≠ k) (f.new k o) a w S (upd V k v) := by
 have hsh : ∀ k', k' ≠ k → (f.new k o).sh k' = f.sh k' := fun k' e => by simp [FS.sh, FS.new, upd, e]
 have hV : ∀ k', k' ≠ k → upd V k v k' = V k' := fun k' e => by simp [upd, e]
 have hVk : upd V k v k = v := by simp [upd]
 have hok : (f.new k o).o k = some o := by simp [FS.new, upd]
 have hoe : ∀ k', k' ≠ k → (f.new k o).o k' = f.o k' := fun k' e => by simp [FS.new, upd, e]
 have hev := h.fe k hk
 have hod : ∀ i, od i ≠ k := fun i e => by unfold od at e; omega
 have hfr : ∀ j, Fr (fun j => Fk j ∧ j ≠ k) (f.new k o) j → Fr Fk f j ∧ j ≠ k := fun j hj => hj.elim (fun hj => ⟨.inl hj.1, hj.2⟩) (fun ⟨i, h1, h2⟩ => ⟨.inr ⟨i, h1, h2⟩, h2 ▸ hod i⟩)
 have hVi : ∀ o' : Ob, (∀ i ∈ idsOf o', ∃ j, j < f.h ∧ i = od j) → ∀ i ∈ idsOf o', upd V k v i = V i := fun o' h i hi => by
  obtain ⟨j, _, rfl⟩ := h i hi
  exact hV _ (hod j)
 have hsame : ∀ o' u, (∀ i ∈ idsOf o', ∃ j, j < f.h ∧ i = od j) → OR w S V o' u → OR w S (upd V k v) o' u := fun o' u h1 h2 => OR_mono (fun _ h => h) (fun _ _ => rfl) (fun _ _ _ => rfl) (hVi o' h1) h2
 refine ⟨h.bel, h.nle, h.df, h.sz, fun i => ?_, fun k' o' e => ?_, fun k1 k2 o1 o2 hne e1 e2 hm hm2 b hb => ?_, fun k' o' e hm b hb => ?_, fun k' o' e hm b hb => ?_, h.old, h.lt, fun k' hk' => ?_, fun i k' hk' hf => h.fg i k' hk' (hfr _ hf).1, fun k' o' e i hi' => ?_, fun j hj => h.fe j hj.1⟩
 ·refine PVr_mono (fun _ h => h) (fun _ _ => rfl) (fun k' hk' => ?_) (h.sl i)
  have hne : k' ≠ k := fun e => h.fg i k' hk' (e ▸ .inl hk)
  exact ⟨fun s e => by rw [← hsh k' hne]; exact e, hV k' hne⟩
 ·by_cases hne : k' = k
  ·subst hne; rw [hok] at e; injection e with e; subst e; rw [hVk]; exact hsame _ _ hi ho
  ·rw [hoe k' hne] at e; rw [hV k' hne]; exact hsame _ _ (h.fi k' o' e) (h.ob k' o' e)
 ·by_cases n1 : k1 = k
  ·subst n1
   rw [hok] at e1; injection e1 with e1; subst e1
   rw [hVk] at hb
   rw [hoe k2 (Ne.symm hne)] at e2
   rw [hV k2 (Ne.symm hne)]
   exact (hd hm b hb).2.2 k2 o2 e2 hm2
  ·rw [hoe k1 n1] at e1
   rw [hV k1 n1] at hb
   by_cases n2 : k2 = k
   ·subst n2
    rw [hok] at e2; injection e2 with e2; subst e2
    rw [hVk]
    exact fun e => (hd hm2 b e).2.2 k1 o1 e1 hm hb
   ·rw [hoe k2 n2] at e2
    rw [hV k2 n2]
    exact h.ds k1 k2 o1 o2 hne e1 e2 hm hm2 b hb
 ·by_cases hne : k' = k
  ·subst hne; rw [hok] at e; injection e with e; subst e; rw [hVk] at hb; exact (hd hm b hb).2.1
  ·rw [hoe k' hne] at e; rw [hV k' hne] at hb; exact h.sp k' o' e hm b hb
 ·by_cases hne : k' = k
  ·subst hne; rw [hok] at e; injection e with e; subst e; rw [hVk] at hb; exact ⟨(hd hm b hb).1, OR_lt ho hm b hb⟩
  ·rw [hoe k' hne] at e; rw [hV k' hne] at hb; exact h.ow k' o' e hm b hb
 ·rw [hoe k' (hfr _ hk').2]; exact h.fr k' (hfr _ hk').1
 ·by_cases hne : k' = k
  ·subst hne; rw [hok] at e; injection e with e; subst e; exact hi i hi'
  ·rw [hoe k' hne] at e; exact h.fi k' o' e i hi'
theorem RelC.del (h : RelC n0 w0 S0 N Fk f a w S V) (k : Nat) : RelC n0 w0 S0 N Fk (f.del k) a w S V := by
 have hoe : ∀ k' o', (f.del k).o k' = some o' → f.o k' = some o' := fun k' o' e => by
  by_cases hne : k' = k
  ·simp [FS.del, upd, hne] at e
  ·simpa [FS.del, upd, hne] using e
 refine ⟨h.bel, h.nle, h.df, h.sz, fun i => ?_, fun k' o' e => h.ob k' o' (hoe _ _ e), fun k1 k2 o1 o2 hne e1 e2 => h.ds k1 k2 o1 o2 hne (hoe _ _ e1) (hoe _ _ e2), fun k' o' e => h.sp k' o' (hoe _ _ e), fun k' o' e => h.ow k' o' (hoe _ _ e), h.old, h.lt, fun k' hk' => ?_, h.fg, fun k' o' e => h.fi k' o' (hoe _ _ e), h.fe⟩
 ·refine PVr_mono (fun _ h => h) (fun _ _ => rfl) (fun k' _ => ⟨fun s e => ?_, rfl⟩) (h.sl i)
  by_cases hne : k' = k
  ·simp [FS.sh, FS.del, upd, hne] at e
  ·simpa [FS.sh, FS.del, upd, hne] using e
 ·by_cases hne : k' = k
  ·simp [FS.del, upd, hne]
  ·simpa [FS.del, upd, hne] using h.fr k' hk'
theorem RelC.keys (h : RelC n0 w0 S0 N Fk f a w S V) {Fk' : Nat → Prop} (hk : ∀ k, Fk' k → Fk k) : RelC n0 w0 S0 N Fk' f a w S V :=
 ⟨h.bel, h.nle, h.df, h.sz, h.sl, h.ob, h.ds, h.sp, h.ow, h.old, h.lt, fun k hk' => h.fr k (hk'.imp (hk k) id), fun i k h1 h2 => h.fg i k h1 (h2.imp (hk k) id), h.fi, fun k hk' => h.fe k (hk k hk')⟩
theorem RelC.less (h : RelC n0 w0 S0 N Fk f a w S V) {f' : FS} (hg : ∀ i, f'.g i = f.g i ∨ f'.g i = .bot) (ho : ∀ k o, f'.o k = some o → f.o k = some o) (hh : f'.h = f.h) : RelC n0 w0 S0 N Fk f' a w S V := by
 have hfr : ∀ j, Fr Fk f' j → Fr Fk f j := fun j hj => by unfold Fr at *; rwa [hh] at hj
 refine ⟨h.bel, h.nle, h.df, h.sz, fun i => ?_, fun k' o' e => h.ob k' o' (ho _ _ e), fun k1 k2 o1 o2 hne e1 e2 => h.ds k1 k2 o1 o2 hne (ho _ _ e1) (ho _ _ e2), fun k' o' e => h.sp k' o' (ho _ _ e), fun k' o' e => h.ow k' o' (ho _ _ e), h.old, h.lt, fun k' hk' => ?_, fun i k hk => ?_, (fun k' o' e i hi' => by rw [hh]; exact h.fi k' o' (ho _ _ e) i hi'), h.fe⟩
 ·rcases hg i with e | e
  ·rw [e]
   refine PVr_mono (fun _ h => h) (fun _ _ => rfl) (fun k' _ => ⟨fun s e => ?_, rfl⟩) (h.sl i)
   obtain ⟨o, e1, e2⟩ := Option.map_eq_some_iff.1 e
   simp [FS.sh, ho _ _ e1, e2]
  ·rw [e]; exact trivial
 ·rcases h' : f'.o k' with _ | o
  ·rfl
  ·exact absurd (ho _ _ h') (by simp [h.fr k' (hfr _ hk')])
 ·rcases hg i with e | e
  ·rw [e] at hk; exact fun hf => h.fg i k hk (hfr _ hf)
  ·rw [e] at hk; cases hk
def FS.adopt (f : FS) (k : Nat) : FS := match f.o k with
 | some o => ⟨f.g, upd (upd f.o k none) (od f.h) (some o), f.h + 1⟩
 | none => f
theorem RelC.adopt (h : RelC n0 w0 S0 N Fk f a w S V) {k : Nat} {o : Ob} (e : f.o k = some o) : RelC n0 w0 S0 N Fk ⟨f.g, upd (upd f.o k none) (od f.h) (some o), f.h + 1⟩ a w S (upd V (od f.h) (V k)) := by
 have hfree : Fr Fk f (od f.h) := .inr ⟨f.h, Nat.le_refl _, rfl⟩
 have hnone := h.fr _ hfree
 have hkne : k ≠ od f.h := fun q => by rw [q, hnone] at e; cases e
 have hV : ∀ j, ¬ Fr Fk f j → upd V (od f.h) (V k) j = V j := fun j hj => by unfold upd; rw [if_neg]; intro q; exact hj (q ▸ hfree)
 have hVh : upd V (od f.h) (V k) (od f.h) = V k := by simp [upd]
 have hoi : ∀ {i : Nat}, od i = od f.h → i = f.h := fun q => by unfold od at q; omega
 have hfr : ∀ j, Fr Fk ⟨f.g, upd (upd f.o k none) (od f.h) (some o), f.h + 1⟩ j → Fr Fk f j ∧ j ≠ od f.h := fun j hj => hj.elim (fun hj => ⟨.inl hj, fun q => by have := h.fe j hj; rw [q] at this; unfold od at this; omega⟩) (fun ⟨i, h1, h2⟩ => by
  have h1 : f.h + 1 ≤ i := h1
  exact ⟨.inr ⟨i, by omega, h2⟩, fun q => by have := hoi (h2.symm.trans q); omega⟩)
 have hob : ∀ j o', (upd (upd f.o k none) (od f.h) (some o)) j = some o' → (j = od f.h ∧ o' = o) ∨ (j ≠ od f.h ∧ j ≠ k ∧ f.o j = some o') := fun j o' q => by
  unfold upd at q
  split at q
  ·rename_i q1; injection q with q; exact .inl ⟨q1, q.symm⟩
  ·rename_i q1
   split at q
   ·cases q
   ·rename_i q2; exact .inr ⟨q1, q2, q⟩
 have hVo : ∀ j o', f.o j = some o' → upd V (od f.h) (V k) j = V j := fun j o' q => hV j fun hf => by rw [h.fr _ hf] at q; cases q
 have hsame : ∀ o' u, (∀ i ∈ idsOf o', ∃ j, j < f.h ∧ i = od j) → OR w S V o' u → OR w S (upd V (od f.h) (V k)) o' u := fun o' u h1 h2 => OR_mono (fun _ h => h) (fun _ _ => rfl) (fun _ _ _ => rfl) (fun i hi => by
  obtain ⟨j, j1, rfl⟩ := h1 i hi
  unfold upd; rw [if_neg]; intro q; have := hoi q; omega) h2
 refine ⟨h.bel, h.nle, h.df, h.sz, fun i => ?_, fun j o' q => ?_, fun k1 k2 o1 o2 hne e1 e2 hm hm2 b hb => ?_, fun j o' q hm b hb => ?_, fun j o' q hm b hb => ?_, h.old, h.lt, fun j hj => ?_, fun i j hj hf => h.fg i j hj (hfr _ hf).1, fun j o' q i hi' => ?_, h.fe⟩
 ·refine PVr_mono (fun _ h => h) (fun _ _ => rfl) (fun j hj => ⟨fun s q => ?_, hV j (h.fg i j hj)⟩) (h.sl i)
  obtain ⟨o', q1, q2⟩ := Option.map_eq_some_iff.1 q
  rcases hob j o' q1 with ⟨q3, _⟩ | ⟨_, _, q3⟩
  ·exact absurd (q3 ▸ hfree) (h.fg i j hj)
  ·simp [FS.sh, q3, q2]
 ·rcases hob j o' q with ⟨rfl, rfl⟩ | ⟨_, _, q3⟩
  ·rw [hVh]; exact hsame _ _ (h.fi _ _ e) (h.ob _ _ e)
  ·rw [hVo _ _ q3]; exact hsame _ _ (h.fi _ _ q3) (h.ob _ _ q3)
 ·rcases hob k1 o1 e1 with ⟨rfl, rfl⟩ | ⟨_, n1, q1⟩
  ·rcases hob k2 o2 e2 with ⟨rfl, rfl⟩ | ⟨_, n2, q2⟩
   ·exact absurd rfl hne
   ·rw [hVh] at hb; rw [hVo _ _ q2]; exact h.ds k k2 _ _ (Ne.symm n2) e q2 hm hm2 b hb
  ·rw [hVo _ _ q1] at hb
   rcases hob k2 o2 e2 with ⟨rfl, rfl⟩ | ⟨_, n2, q2⟩
   ·rw [hVh]; exact h.ds k1 k _ _ n1 q1 e hm hm2 b hb
   ·rw [hVo _ _ q2]; exact h.ds k1 k2 _ _ hne q1 q2 hm hm2 b hb
 ·rcases hob j o' q with ⟨rfl, rfl⟩ | ⟨_, _, q3⟩
  ·rw [hVh] at hb; exact h.sp k _ e hm b hb
  ·rw [hVo _ _ q3] at hb; exact h.sp j _ q3 hm b hb
 ·rcases hob j o' q with ⟨rfl, rfl⟩ | ⟨_, _, q3⟩
  ·rw [hVh] at hb; exact h.ow k _ e hm b hb
  ·rw [hVo _ _ q3] at hb; exact h.ow j _ q3 hm b hb
 ·obtain ⟨h1, h2⟩ := hfr j hj
  show upd (upd f.o k none) (od f.h) (some o) j = none
  unfold upd
  rw [if_neg h2]
  split
  ·rfl
  ·exact h.fr j h1
 ·rcases hob j o' q with ⟨rfl, rfl⟩ | ⟨_, _, q3⟩
  ·obtain ⟨j, j1, j2⟩ := h.fi _ _ e i hi'; exact ⟨j, Nat.lt_succ_of_lt j1, j2⟩
  ·obtain ⟨j, j1, j2⟩ := h.fi _ _ q3 i hi'; exact ⟨j, Nat.lt_succ_of_lt j1, j2⟩
theorem RelC.newo (h : RelC n0 w0 S0 N Fk f a w S V) {o : Ob} {v : Value} (ho : OR w S V o v) (hi0 : idsOf o = [])
  (hd : o.mu = true → ∀ b, blk v = some b → n0 b ∧ ¬ S b ∧ ∀ k' o', f.o k' = some o' → o'.mu = true → blk (V k') ≠ some b) :
  RelC n0 w0 S0 N Fk ⟨f.g, upd f.o (od f.h) (some o), f.h + 1⟩ a w S (upd V (od f.h) v) := by
 generalize hq : od f.h = q
 have hfree : Fr Fk f q := .inr ⟨f.h, Nat.le_refl _, hq.symm⟩
 have hsh : ∀ k', k' ≠ q → (⟨f.g, upd f.o q (some o), f.h + 1⟩ : FS).sh k' = f.sh k' := fun k' e => by simp [FS.sh, upd, e]
 have hV : ∀ k', k' ≠ q → upd V q v k' = V k' := fun k' e => by simp [upd, e]
 have hVk : upd V q v q = v := by simp [upd]
 have hok : upd f.o q (some o) q = some o := by simp [upd]
 have hoe : ∀ k', k' ≠ q → upd f.o q (some o) k' = f.o k' := fun k' e => by simp [upd, e]
 have hfr : ∀ j, Fr Fk ⟨f.g, upd f.o q (some o), f.h + 1⟩ j → Fr Fk f j ∧ j ≠ q := fun j hj => hj.elim (fun hj => ⟨.inl hj, fun e => by have := h.fe j hj; rw [e, ← hq] at this; unfold od at this; omega⟩) (fun ⟨i, h1, h2⟩ => ⟨.inr ⟨i, Nat.le_of_succ_le h1, h2⟩, fun e => by
  have h1 : f.h + 1 ≤ i := h1
  rw [h2, ← hq] at e; unfold od at e; omega⟩)
 have hVi : ∀ o' : Ob, (∀ i ∈ idsOf o', ∃ j, j < f.h ∧ i = od j) → ∀ i ∈ idsOf o', upd V q v i = V i := fun o' h i hi => by
  obtain ⟨j, j1, rfl⟩ := h i hi
  exact hV _ (by rw [← hq]; unfold od; omega)
 have hsame : ∀ o' u, (∀ i ∈ idsOf o', ∃ j, j < f.h ∧ i = od j) → OR w S V o' u → OR w S (upd V q v) o' u := fun o' u h1 h2 => OR_mono (fun _ h => h) (fun _ _ => rfl) (fun _ _ _ => rfl) (hVi o' h1) h2
 refine ⟨h.bel, h.nle, h.df, h.sz, fun i => ?_, fun k' o' e => ?_, fun k1 k2 o1 o2 hne e1 e2 hm hm2 b hb => ?_, fun k' o' e hm b hb => ?_, fun k' o' e hm b hb => ?_, h.old, h.lt, fun k' hk' => ?_, fun i k' hk' hf => h.fg i k' hk' (hfr _ hf).1, fun k' o' e i hi' => ?_, h.fe⟩
 ·refine PVr_mono (fun _ h => h) (fun _ _ => rfl) (fun k' hk' => ?_) (h.sl i)
  have hne : k' ≠ q := fun e => h.fg i k' hk' (e ▸ hfree)
  exact ⟨fun s e => by rw [← hsh k' hne]; exact e, hV k' hne⟩
 ·by_cases hne : k' = q
  ·subst hne
   have e : upd f.o k' (some o) k' = some o' := e
   rw [hok] at e; injection e with e; subst e; rw [hVk]; exact hsame _ _ (fun i hi => by rw [hi0] at hi; cases hi) ho
  ·have e : upd f.o q (some o) k' = some o' := e
   rw [hoe k' hne] at e; rw [hV k' hne]; exact hsame _ _ (h.fi k' o' e) (h.ob k' o' e)
 ·replace e1 : upd f.o q (some o) k1 = some o1 := e1
  replace e2 : upd f.o q (some o) k2 = some o2 := e2
  by_cases n1 : k1 = q
  ·subst n1
   rw [hok] at e1; injection e1 with e1; subst e1
   rw [hVk] at hb
   rw [hoe k2 (Ne.symm hne)] at e2
   rw [hV k2 (Ne.symm hne)]
   exact (hd hm b hb).2.2 k2 o2 e2 hm2
  ·rw [hoe k1 n1] at e1
   rw [hV k1 n1] at hb
   by_cases n2 : k2 = q
   ·subst n2
    rw [hok] at e2; injection e2 with e2; subst e2
    rw [hVk]
    exact fun e => (hd hm2 b e).2.2 k1 o1 e1 hm hb
   ·rw [hoe k2 n2] at e2
    rw [hV k2 n2]
    exact h.ds k1 k2 o1 o2 hne e1 e2 hm hm2 b hb
 ·have e : upd f.o q (some o) k' = some o' := e
  by_cases hne : k' = q
  ·subst hne; rw [hok] at e; injection e with e; subst e; rw [hVk] at hb; exact (hd hm b hb).2.1
  ·rw [hoe k' hne] at e; rw [hV k' hne] at hb; exact h.sp k' o' e hm b hb
 ·have e : upd f.o q (some o) k' = some o' := e
  by_cases hne : k' = q
  ·subst hne; rw [hok] at e; injection e with e; subst e; rw [hVk] at hb; exact ⟨(hd hm b hb).1, OR_lt ho hm b hb⟩
  ·rw [hoe k' hne] at e; rw [hV k' hne] at hb; exact h.ow k' o' e hm b hb
 ·show upd f.o q (some o) k' = none
  rw [hoe k' (hfr _ hk').2]; exact h.fr k' (hfr _ hk').1
 ·have e : upd f.o q (some o) k' = some o' := e
  by_cases hne : k' = q
  ·subst hne; rw [hok] at e; injection e with e; subst e; rw [hi0] at hi'; cases hi'
  ·rw [hoe k' hne] at e
   obtain ⟨j, j1, j2⟩ := h.fi k' o' e i hi'
   exact ⟨j, Nat.lt_succ_of_lt j1, j2⟩
theorem RelC.bump (h : RelC n0 w0 S0 N Fk f a w S V) (u : Value) : RelC n0 w0 S0 N Fk ⟨f.g, f.o, f.h + 1⟩ a w S (upd V (od f.h) u) := by
 have hfree : Fr Fk f (od f.h) := .inr ⟨f.h, Nat.le_refl _, rfl⟩
 have hV : ∀ j, ¬ Fr Fk f j → upd V (od f.h) u j = V j := fun j hj => by unfold upd; rw [if_neg]; intro q; exact hj (q ▸ hfree)
 have hoi : ∀ {i : Nat}, od i = od f.h → i = f.h := fun q => by unfold od at q; omega
 have hfr : ∀ j, Fr Fk ⟨f.g, f.o, f.h + 1⟩ j → Fr Fk f j := fun j hj => hj.imp id fun ⟨i, h1, h2⟩ => ⟨i, Nat.le_of_succ_le h1, h2⟩
 have hVo : ∀ j o', f.o j = some o' → upd V (od f.h) u j = V j := fun j o' q => hV j fun hf => by rw [h.fr _ hf] at q; cases q
 have hsame : ∀ o' x, (∀ i ∈ idsOf o', ∃ j, j < f.h ∧ i = od j) → OR w S V o' x → OR w S (upd V (od f.h) u) o' x := fun o' x h1 h2 => OR_mono (fun _ h => h) (fun _ _ => rfl) (fun _ _ _ => rfl) (fun i hi => by
  obtain ⟨j, j1, rfl⟩ := h1 i hi
  unfold upd; rw [if_neg]; intro q; have := hoi q; omega) h2
 refine ⟨h.bel, h.nle, h.df, h.sz, fun i => ?_, fun j o' q => ?_, fun k1 k2 o1 o2 hne e1 e2 hm hm2 b hb => ?_, fun j o' q hm b hb => ?_, fun j o' q hm b hb => ?_, h.old, h.lt, fun j hj => h.fr j (hfr j hj), fun i j hj hf => h.fg i j hj (hfr _ hf), fun j o' q i hi' => ?_, h.fe⟩
 ·exact PVr_mono (sh := f.sh) (V := V) (fun _ h => h) (fun _ _ => rfl) (fun j hj => ⟨fun s q => q, hV j (h.fg i j hj)⟩) (h.sl i)
 ·rw [hVo _ _ q]; exact hsame _ _ (h.fi _ _ q) (h.ob _ _ q)
 ·rw [hVo _ _ e1] at hb; rw [hVo _ _ e2]; exact h.ds k1 k2 _ _ hne e1 e2 hm hm2 b hb
 ·rw [hVo _ _ q] at hb; exact h.sp j _ q hm b hb
 ·rw [hVo _ _ q] at hb; exact h.ow j _ q hm b hb
 ·obtain ⟨j, j1, j2⟩ := h.fi _ _ q i hi'; exact ⟨j, Nat.lt_succ_of_lt j1, j2⟩
end rel
end Go.TT
end

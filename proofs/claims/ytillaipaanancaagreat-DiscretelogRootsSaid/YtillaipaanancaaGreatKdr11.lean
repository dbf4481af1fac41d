/- Machine side and arithmetic of the law, put together by a program of the session. No conditions. -/
import Derived.Shelf.SlSortCmp.NoneTotal
import Derived.Test.YtillaipaanancaaGreatKdr8
section
namespace Go.TT
open Go.RowKit Go.Shelf Go.Sort Go.Proofs Go.Lib
set_option linter.unusedVariables false
set_option linter.unusedSimpArgs false
section
variable {α : Type} [Inhabited α] {enc : α → Value}
theorem holds_blk {w : World} {g : Nat} {cur : Array Value} {e : TypeId} {ss : List α} (hb : w.heap[g]? = some (.cells cur e (0, 0))) (ht : cur.toList.take ss.length = ss.map enc) : Holds enc w g 0 ss.toArray := by
 intro j hj
 have hj' : j < ss.length := by simpa using hj
 refine ⟨?_, by simp [World.frozen?, hb]⟩
 have h1 : (cur.toList.take ss.length)[j]? = (ss.map enc)[j]? := by rw [ht]
 rw [List.getElem?_take_of_lt hj'] at h1
 simp only [World.cell?, hb, Nat.zero_add]
 simp only [Option.isSome_none, Bool.false_eq_true, if_false]
 rw [← Array.getElem?_toList, h1]
 simp [hj']
theorem heap_srt {w : World} {g n : Nat} {os : Array Obj} {cur : Array Value} {e : TypeId} {fr : Nat × Nat} (d : Array α) (hb : w.heap[g]? = some (.cells cur e fr)) :
  (grow (putRow enc (Sort.ahead w n) g 0 d) os).heap[g]? = some (.cells (putCells enc 0 d cur) e fr) := by
 have hg : g < w.heap.size := (Array.getElem?_eq_some_iff.1 hb).1
 rw [heap_grow_old _ _ (by simpa using hg)]
 simp [putRow, mapBlock, Sort.ahead, Array.getElem?_modify, hb, onCells]
theorem grown_srt {w : World} {g n : Nat} {os : Array Obj} (d : Array α) : w.grownBy (grow (putRow enc (Sort.ahead w n) g 0 d) os) (some g) := by
 refine ⟨rfl, rfl, rfl, by simp, fun k hk hne => ?_⟩
 rw [heap_grow_old _ _ (by simpa using hk)]
 have : g ≠ k := fun e => hne (by rw [e])
 simp [putRow, mapBlock, Sort.ahead, Array.getElem?_modify, this]
theorem take_put (cur : Array Value) (ts : List α) (h : ts.length ≤ cur.size) : (putCells enc 0 ts.toArray cur).toList.take ts.length = ts.map enc := by
 apply List.ext_getElem?
 intro j
 by_cases hj : j < ts.length
 ·rw [List.getElem?_take_of_lt hj, Array.getElem?_toList]
  simp [putCells, hj, show j < cur.size by omega]
 ·rw [List.getElem?_take_eq_none (by omega), List.getElem?_eq_none (by simp; omega)]
theorem perm_map {β : Type} [Inhabited β] {f : α → β} {d d' : Array α} (h : PermIn 0 d.size d d') : PermIn 0 (d.map f).size (d.map f) (d'.map f) := by
 obtain ⟨h1, h2, h3⟩ := h
 refine ⟨by simp [h1], fun i hi => ?_, ?_⟩
 ·have hi : d.size ≤ i := by rcases hi with h | h <;> simp at h; omega
  rw [getElem!_neg _ i (by simp; omega), getElem!_neg _ i (by simp; omega)]
 ·have a1 : d'.extract 0 d.size = d' := by rw [← h1]; exact Array.extract_size
  have a2 : d.extract 0 d.size = d := Array.extract_size
  rw [a1, a2] at h3
  have b1 : (d'.map f).extract 0 (d.map f).size = d'.map f := by
   have h : (Array.map f d').extract 0 (Array.map f d').size = Array.map f d' := Array.extract_size
   rw [Array.size_map, h1] at h; rw [Array.size_map]; exact h
  have b2 : (d.map f).extract 0 (d.map f).size = d.map f := Array.extract_size
  rw [b1, b2, Array.toList_map, Array.toList_map]
  exact h3.map f
end
theorem conS_of {P : Program} {ρ : Ren} (L : SlLaysF.n6 P ρ) {g : FuncId} {e e' : TypeId} {t : Ty} (cf : List t.den → List t.den → Int) (hO : SWO (ltOf cf)) (hT : ∀ x y, ltOf cf x y = false → ltOf cf y x = false → x = y) (eg : ∀ args w, (callFunc g args).run P w = .ok (.enter g args) w) (xs : List (List t.den)) (hn : xs.length < 4611686018427387904)
  (hcmp : ∀ (w : World) (S : Nat → Prop) (x y : List t.den) (v u : Value), (∀ b, S b → b < w.heap.size) → x ∈ xs → y ∈ xs → Vs w S (.sl e' t) x v → Vs w S (.sl e' t) y u → Calls P g #[v, u] w fun e w' => e = .returned (.int .i64 (cf x y)) ∧ ∃ q os', w' = grow (w.drewN q) os') :
  ConS P (ρ.f 6) g e (.sl e' t) xs (xs.mergeSort fun x y => !(ltOf cf) y x) := by
 refine ⟨?_, List.length_mergeSort _, fun w S v cs hS ho hfl hb => ?_⟩
 ·obtain ⟨nm, h1, h2⟩ := L.f6
  exact ⟨_, h2, h1, rfl⟩
 by_cases hx : xs = []
 ·subst hx
  obtain ⟨A, c, rfl, _, _⟩ := own_row ho
  refine (AnyF.slices_SortFunc_none (P := P) (ρ := ρ) { L with } A c (.func (.func g) #[] #[]) w).mono ?_
  rintro e1 w' ⟨rfl, rfl⟩
  exact ⟨rfl, ⟨rfl, rfl, rfl, Nat.le_refl _, fun _ _ _ => rfl⟩, cs, by rw [List.mergeSort_nil]; exact ho, by rw [List.mergeSort_nil]; exact hfl⟩
 ·obtain ⟨h0, ⟨_, hn⟩ | ⟨g0, cap, cur, rfl, _, hcur, hn, hcap, hsize, htake⟩⟩ := ho
  ·exact absurd (List.eq_nil_of_length_eq_zero hn) hx
  have hsz1 : (Ty.sl e' t).sz = 1 := rfl
  rw [hsz1, Nat.mul_one] at h0 hsize htake
  let α := { p : Value × List t.den // Vs w S (.sl e' t) p.2 p.1 ∧ p.2 ∈ xs }
  have key : ∀ (ys : List (List t.den)) (cs : List Value), (∀ y ∈ ys, y ∈ xs) → Fl (Cs w S (.sl e' t)) ys cs → ∃ l : List α, l.map (fun p => p.1.1) = cs ∧ l.map (fun p => p.1.2) = ys := by
   intro ys
   induction ys with
   | nil => intro cs _ h; exact ⟨[], h.symm, rfl⟩
   | cons y ys ih =>
    intro cs hm ⟨c1, c2, e1, r, hl⟩
    obtain ⟨l, l1, l2⟩ := ih c2 (fun z hz => hm z (List.mem_cons_of_mem _ hz)) hl
    have r0 := r
    obtain ⟨A, c, cs', r1, _⟩ := r
    refine ⟨⟨(.slice A (List.length y) c, y), ⟨c1, r0, by rw [r1]; simp [Ty.mk, Ty.ag]⟩, hm y List.mem_cons_self⟩ :: l, ?_, by simp [l2]⟩
    show (.slice A (List.length y) c : Value) :: l.map (fun p => p.1.1) = cs
    rw [l1, e1, r1]; rfl
  obtain ⟨l, l1, l2⟩ := key xs cs (fun _ h => h) hfl
  have hll : l.length = xs.length := by rw [← l2, List.length_map]
  obtain ⟨p0, l0⟩ : ∃ p0 : α, p0 ∈ l := by
   rcases l with _ | ⟨p0, l⟩
   ·exact absurd (List.eq_nil_of_length_eq_zero (by simpa using hll.symm)) hx
   ·exact ⟨p0, List.mem_cons_self⟩
  haveI : Inhabited α := ⟨p0⟩
  let enc : α → Value := fun p => p.1.1
  have h1 : OneCell enc := fun p => by
   obtain ⟨A, c, _, e1, _⟩ := Vs_sl.1 p.2.1
   injection e1 with e1 _
   show (p.1.1).oneCell' = true
   rw [e1]; rfl
  let cf' : α → α → Int := fun p q => cf p.1.2 q.1.2
  have hO' : SWO (ltOf cf') := ⟨fun x => hO.irrefl x.1.2, fun x y z => hO.trans x.1.2 y.1.2 z.1.2, fun x y z => hO.ntrans x.1.2 y.1.2 z.1.2⟩
  have hg0 : g0 < w.heap.size := (Array.getElem?_eq_some_iff.1 hcur).1
  have hC : CmpLays1 P g #[] enc cf' g0 0 l.toArray.size w := by
   intro m os dk _ x y
   have hg := grown_srt (enc := enc) (w := w) (g := g0) (n := m) (os := os) dk
   have ha : Ag S w (sortWorld enc w g0 0 m dk os) := fun b hb' => hg.block b (hS b hb') fun q => by
    injection q with q; subst q
    exact (hb b rfl).1 hb'
   have := hcmp (sortWorld enc w g0 0 m dk os) S x.1.2 y.1.2 x.1.1 y.1.1 (fun b hb' => Nat.lt_of_lt_of_le (hS b hb') hg.size) x.2.2 y.2.2 (Vs_mono (fun _ h => h) ha x.2.1) (Vs_mono (fun _ h => h) ha y.2.1)
   simpa using this
  have hH : Holds enc w g0 0 l.toArray := holds_blk hcur (by rw [hll, htake]; exact l1.symm)
  have hc := Any.slices_SortFunc L enc h1 cf' hO' g #[] g0 0 cap l.toArray w eg hC hH hg0 (by simp only [List.size_toArray]; omega)
  rw [show l.toArray.size = xs.length by simp [hll]] at hc
  refine hc.mono ?_
  rintro e1 w' ⟨rfl, d', n, os, hp, hs, rfl⟩
  have hds : d'.size = xs.length := hp.1.trans (by simp [hll])
  have hsrt : d'.toList.map (fun p => p.1.2) = xs.mergeSort fun x y => !(ltOf cf) y x := by
   have hu := sorted_unique_holds (lt := ltOf cf) hO hT (l.toArray.map fun p => p.1.2) (d'.map fun p => p.1.2) (perm_map (by rw [show l.toArray.size = xs.length by simp [hll]]; exact hp)) (by
    intro i j _ h2 h3
    have h3 : j < xs.length := by simpa [hll] using h3
    rw [getElem!_pos _ i (by simp; omega), getElem!_pos _ j (by simp; omega)]
    have := hs i j (Nat.zero_le _) h2 h3
    rw [getElem!_pos _ i (by omega), getElem!_pos _ j (by omega)] at this
    have this : ltOf cf (d'[j]).1.2 (d'[i]).1.2 = false := this
    simpa using this)
   simp only [Array.toList_map, List.map_toArray, List.toList_toArray] at hu
   rw [hu, l2]
  refine ⟨rfl, grown_srt d', d'.toList.map enc, ?_, ?_⟩
  ·rw [hsz1]
   refine ⟨by simp [hds], .inr ⟨g0, cap, _, by rw [List.length_mergeSort], Nat.zero_le _, heap_srt d' hcur, by rw [List.length_mergeSort]; exact hn, hcap, by simp [putCells, hsize], ?_⟩⟩
   rw [Nat.mul_one, List.length_mergeSort, ← hds, ← Array.length_toList]
   exact take_put (enc := enc) cur d'.toList (by rw [Array.length_toList, hds]; omega)
  ·rw [← hsrt]
   have : ∀ l : List α, Fl (Cs w S (.sl e' t)) (l.map fun p => p.1.2) (l.map enc) := by
    intro l
    induction l with
    | nil => rfl
    | cons p l ih =>
     exact ⟨[enc p], _, rfl, Vs_sl.1 p.2.1, ih⟩
   exact this d'.toList
end Go.TT
end

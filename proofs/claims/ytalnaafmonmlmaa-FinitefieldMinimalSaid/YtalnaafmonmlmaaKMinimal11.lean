/- Machine side and arithmetic of the law, put together by a program of the session. No conditions. -/
import Derived.RangeFuncNested
import Derived.RangeFuncBound
import Derived.RangeFuncCalls
import Derived.RangeFuncLeaves
import Derived.Shelf.Abstract
import Derived.OwnWalkIn
import Derived.TacticsInMore
import Derived.LoopNIn
import Derived.LoopIn
import Derived.Test.YtalnaafmonmlmaaKMinimal5
import Derived.Test.YtalnaafmonmlmaaKMinimal6
import Derived.Test.YtalnaafmonmlmaaKMinimal7
import Derived.Test.YtalnaafmonmlmaaKMinimal8
import Derived.Test.YtalnaafmonmlmaaKMinimal10
section
namespace Go.Proofs.Ytalnaafmonmlmaa.Q
open Go.RowKit Go.Shelf Go.Proofs.YtalnaafmonmlmaaW.PrintWords Go.Proofs.YtalnaafmonmlmaaW.PrintLast Go.Proofs.YtalnaafmonmlmaaW.PrintMore
set_option linter.unusedVariables false
set_option linter.unusedSimpArgs false
attribute [local go_sem] Oper.semAt_some
def Lie (lo hi : Nat) (W W' : World) : Prop := W.heap.size ≤ W'.heap.size ∧ ∀ b, lo ≤ b → b < hi → W'.heap[b]? = W.heap[b]?
theorem Lie.refl (lo hi : Nat) (W : World) : Lie lo hi W W := ⟨Nat.le_refl _, fun _ _ _ => rfl⟩
theorem Lie.trans {lo hi : Nat} {A B C : World} (h : Lie lo hi A B) (k : Lie lo hi B C) : Lie lo hi A C := ⟨Nat.le_trans h.1 k.1, fun b h1 h2 => (k.2 b h1 h2).trans (h.2 b h1 h2)⟩
theorem Lie.put {lo hi l : Nat} (W : World) (o : Obj) (h : hi ≤ l) : Lie lo hi W (W.putObj l o) := ⟨by simp, fun b _ h2 => World.putObj_heap_other (by omega)⟩
theorem Lie.below {lo hi : Nat} {W W' : World} (h : Below W.heap.size W W') (hs : hi ≤ W.heap.size) : Lie lo hi W W' := ⟨h.size, fun b _ h2 => h.block b (by omega)⟩
theorem keepsOthers_below {W W' : World} (h : Below W.heap.size W W') : KeepsOthers W W' := ⟨h.size, fun k o hk _ => (h.block k (Array.getElem?_eq_some_iff.1 hk).1).trans hk⟩
def RoundEnd (lo hi : Nat) (I : Nat → World → Prop) (Ix : Code → Nat → World → Prop) (k : Nat) (W : World) : Exit → Act → World → Prop
 | .normal, _, W' => KeepsOthers W W' ∧ Lie lo hi W W' ∧ I (k + 1) W'
 | .ret, _, W' => KeepsOthers W W' ∧ Ix .ret k W'
 | .exit id, _, W' => KeepsOthers W W' ∧ Ix (.exit id) k W'
 | .goto _, _, _ => False
 | .panic _, _, _ => False
 | .outgrown, _, _ => False
def Visits (P : Program) (g : Nat) (lb : Array Value) (enc : Nat → Value → Array Value) (Gd : Nat → Value → World → Prop) (lo hi N : Nat) (W0 : World) (C : Nat → World → Prop) : Prop :=
 ∀ (m l : Nat) (J Jx : Nat → World → Prop) (W : World), 1 ≤ m → Below W0.heap.size W0 W →
  (∀ k A B, J k A → Below A.heap.size A B → J k B) → (∀ k A, J k A → C k A) →
  (∀ k v W1, J k W1 → k < N → Gd k v W1 → YieldAt Fence.wide (m - 1) P l (enc k v) W1 fun e W' => (e = .returned (.bool true) ∧ J (k + 1) W' ∧ Lie lo hi W1 W') ∨ (e = .returned (.bool false) ∧ Jx k W')) →
  J 0 W → CallsIn Fence.wide m P g (#[.func (.yield l) #[] #[]] ++ lb) W fun e W' => (∃ v, e = .returned v) ∧ (J N W' ∨ ∃ k, k < N ∧ Jx k W')
theorem wp_range {P : Program} {g : Operand} {ps : Array Tmp} {assign body : Code} {Q : Exit → Act → World → Prop} {a : Act} {w : World} {gf : Nat} {lb : Array Value}
  (hg : a.eval g = .func (.func gf) #[] lb) (eg : ∀ args w, (callFunc gf args).run P w = .ok (.enter gf args) w)
  {enc : Nat → Value → Array Value} {Gd : Nat → Value → World → Prop} {lo hi N : Nat} {W0 : World} {CC : Nat → World → Prop} (hseq : Visits P gf lb enc Gd lo hi N W0 CC) (hb0 : Below W0.heap.size W0 w) (hhi : hi ≤ w.heap.size) (hps : ∀ k v, (enc k v).size = ps.size)
  (I : Nat → World → Prop) (Ix : Code → Nat → World → Prop) (M : Nat → Value → World → Prop) (a₁ : Nat → Value → Act)
  (hI1 : ∀ k A B, I k A → Below A.heap.size A B → I k B) (hIC : ∀ k A, I k A → CC k A)
  (hI2 : ∀ k A l o o', I k A → w.heap.size ≤ l → A.heap[l]? = some o → o.isCells = false → I k (A.putObj l o'))
  (hX2 : ∀ c k A l o o', Ix c k A → w.heap.size ≤ l → A.heap[l]? = some o → o.isCells = false → Ix c k (A.putObj l o'))
  (hM2 : ∀ k v A l o o', M k v A → w.heap.size ≤ l → A.heap[l]? = some o → o.isCells = false → M k v (A.putObj l o')) (h0 : I 0 w)
  (hassign : ∀ (l k : Nat) (v : Value) (W : World) (K : Act → World → Prop), k < N → I k W → Gd k v W → (∀ W', KeepsOthers W W' → Lie lo hi W W' → M k v W' → K (a₁ k v) W') →
   assign.wpIn (Fence.wide.inRound l) 1 P (Exit.then K (fun _ _ _ => False)) { tmps := (ps.zip (enc k v)).foldl (fun t (p, v) => t.setIfInBounds p v) a.tmps, defers := [] } W)
  (hbody : ∀ (l k : Nat) (v : Value) (W : World), k < N → M k v W → body.wpIn (Fence.wide.inRound l) 1 P (RoundEnd lo hi I Ix k W) (a₁ k v) W)
  (hdone : ∀ (D : Nat) (W : World), w.heap.size ≤ D → I N W → W.heap[D]? = some (.deferred (some [])) → Q .normal { a with defers := { target := .collected D, args := #[] } :: a.defers } W)
  (hstop : ∀ (D : Nat) (c : Code) (k : Nat) (W : World), w.heap.size ≤ D → k < N → Ix c k W → W.heap[D]? = some (.deferred (some [])) → c.wp P Q { a with defers := { target := .collected D, args := #[] } :: a.defers } W) :
  (Code.rangeFunc g ps assign body).wp P Q a w := by
 refine (wpIn_wide (n := 3)).1 (wpIn_rangeFunc fun fn hfn => ?_)
 obtain ⟨R, hR⟩ : ∃ R : LoopState → Option Code → Loop, R = fun st pe => { state := st, pending := pe, fn := fn, tmps := a.tmps, params := ps, assign := assign, body := body, defers := w.heap.size } := ⟨_, rfl⟩
 obtain ⟨V, hV⟩ : ∃ V, (w.alloc (.deferred (some []))).alloc (.loop (R .ready none)) = V := ⟨_, rfl⟩
 have hbV : Below w.heap.size w V := by
  rw [← hV]
  exact ((Below.refl _ w).alloc (Nat.le_refl _) _).alloc (by simp) _
 have hloop : V.heap[w.heap.size + 1]? = some (.loop (R .ready none)) := by
  have := World.alloc_heap_new (w.alloc (.deferred (some []))) (.loop (R .ready none))
  rw [World.size_alloc] at this
  rw [← hV]; exact this
 have hdef : V.heap[w.heap.size]? = some (.deferred (some [])) := by
  rw [← hV]
  exact (Below.heap_alloc _ _ _ (by simp)).trans (World.alloc_heap_new w _)
 refine ⟨w.heap.size + 1, [{ target := .collected w.heap.size, args := #[] }], V, { target := .fn (.func gf) lb, args := #[.func (.yield (w.heap.size + 1)) #[] #[]] }, V, gf, #[.func (.yield (w.heap.size + 1)) #[] #[]] ++ lb, V, ?_, ?_, fun _ _ => trivial, ?_, fun _ => by omega, ?_⟩
 ·rw [← hV, hR]; exact run_enterLoop_outer _ _ _ _ _
 ·simp only [resolve, hg]
  simp [go_sem]
 ·simp [invoke, go_sem, eg]
 refine (hseq (3 - 1) (w.heap.size + 1) (fun k A => I k A ∧ A.heap[w.heap.size + 1]? = some (.loop (R .ready none)) ∧ A.heap[w.heap.size]? = some (.deferred (some [])))
  (fun k A => ∃ c, Ix c k A ∧ A.heap[w.heap.size + 1]? = some (.loop (R .done (some c))) ∧ A.heap[w.heap.size]? = some (.deferred (some []))) V (by omega) (hb0.trans (hbV.mono hb0.size)) ?_ (fun k A h => hIC k A h.1) ?_
  ⟨hI1 _ _ _ h0 hbV, hloop, hdef⟩).mono ?_
 ·rintro k A B ⟨h1, h2, h3⟩ hb
  exact ⟨hI1 _ _ _ h1 hb, (hb.block _ (Array.getElem?_eq_some_iff.1 h2).1).trans h2, (hb.block _ (Array.getElem?_eq_some_iff.1 h3).1).trans h3⟩
 ·rintro k v A ⟨h1, h2, h3⟩ hk hgd
  have hy := run_yield (P := P) (args := enc k v) h2 (by rw [hR]; exact hps k v)
  rw [hR] at hy
  refine ⟨fn, _, assign, body, hy, roundIn_of_wpIn hfn (hassign _ k v A _ hk h1 hgd fun B hKB hLB hMB => ?_)⟩
  have g2 := hKB.same _ _ h2 rfl
  have g3 := hKB.same _ _ h3 rfl
  obtain ⟨B', hB'⟩ : ∃ B', B.putObj (w.heap.size + 1) (.loop { R .ready none with state := .busy }) = B' := ⟨_, rfl⟩
  refine ⟨B', by rw [← hB']; exact run_beginRound g2 (by rw [hR]), ?_⟩
  have k2 : B'.heap[w.heap.size + 1]? = some (.loop { R .ready none with state := .busy }) := by rw [← hB']; exact World.putObj_heap_same (Array.getElem?_eq_some_iff.1 g2).1
  have k3 : B'.heap[w.heap.size]? = some (.deferred (some [])) := by rw [← hB']; exact (World.putObj_heap_other (by omega)).trans g3
  have hLB' : Lie lo hi A B' := by rw [← hB']; exact hLB.trans (Lie.put _ _ (by omega))
  refine wpIn_mono (hbody _ k v B' hk (by rw [← hB']; exact hM2 _ _ _ _ _ _ hMB (by omega) g2 rfl)) ?_
  have close : ∀ (jump : Option Code) (E : World), KeepsOthers B' E → ∃ E', (Instr.endRound (w.heap.size + 1) jump).run P E = .ok (.bool jump.isNone) E' ∧ E' = E.putObj (w.heap.size + 1) (.loop (R (if jump.isNone then .ready else .done) jump)) ∧
    (∃ o, E.heap[w.heap.size + 1]? = some o ∧ o.isCells = false) ∧ E'.heap[w.heap.size + 1]? = some (.loop (R (if jump.isNone then .ready else .done) jump)) ∧ E'.heap[w.heap.size]? = some (.deferred (some [])) := by
   intro jump E hE
   have e2 := hE.same _ _ k2 rfl
   have e3 := hE.same _ _ k3 rfl
   refine ⟨_, ?_, rfl, ⟨_, e2, rfl⟩, World.putObj_heap_same (Array.getElem?_eq_some_iff.1 e2).1, (World.putObj_heap_other (by omega)).trans e3⟩
   have e4 := run_endRound (P := P) jump e2
   rw [hR] at e4 ⊢
   exact e4
  rintro e a3 E hp
  cases e with
  | normal =>
   obtain ⟨p1, p2, p3⟩ := hp
   obtain ⟨E', r1, r2, ⟨o, r3, r4⟩, r5, r6⟩ := close none E p1
   subst r2
   exact ⟨_, _, r1, .inl ⟨rfl, ⟨hI2 _ _ _ _ _ p3 (by omega) r3 r4, r5, r6⟩, (hLB'.trans p2).trans (Lie.put _ _ (by omega))⟩⟩
  | ret =>
   obtain ⟨p1, p3⟩ := hp
   obtain ⟨E', r1, r2, ⟨o, r3, r4⟩, r5, r6⟩ := close (some .ret) E p1
   subst r2
   exact ⟨_, _, r1, .inr ⟨rfl, .ret, hX2 _ _ _ _ _ _ p3 (by omega) r3 r4, r5, r6⟩⟩
  | exit id =>
   obtain ⟨p1, p3⟩ := hp
   obtain ⟨E', r1, r2, ⟨o, r3, r4⟩, r5, r6⟩ := close (some (.exit id)) E p1
   subst r2
   exact ⟨_, _, r1, .inr ⟨rfl, .exit id, hX2 _ _ _ _ _ _ p3 (by omega) r3 r4, r5, r6⟩⟩
  | goto t => exact hp.elim
  | panic c => exact hp.elim
  | outgrown => exact hp.elim
 ·rintro e E ⟨⟨v, rfl⟩, (⟨h1, h2, h3⟩ | ⟨k, hk, c, h1, h2, h3⟩)⟩
  ·have r := run_endLoop (P := P) h2 (by rw [hR]; simp)
   rw [hR] at r
   exact ⟨none, _, r, hdone _ _ (Nat.le_refl _) (hI2 _ _ _ _ _ h1 (by omega) h2 rfl) ((World.putObj_heap_other (by omega)).trans h3)⟩
  ·have r := run_endLoop (P := P) h2 (by rw [hR]; simp)
   rw [hR] at r
   exact ⟨some c, _, r, wpIn_wide.2 (hstop _ c k _ (Nat.le_refl _) hk (hX2 _ _ _ _ _ _ h1 (by omega) h2 rfl) ((World.putObj_heap_other (by omega)).trans h3))⟩
theorem put_cells {W : World} {l b : Nat} {o o' : Obj} {cells : Array Value} {t : TypeId} {fr : Nat × Nat} (hb : W.heap[b]? = some (.cells cells t fr)) (hl : W.heap[l]? = some o) (ho : o.isCells = false) : (W.putObj l o').heap[b]? = some (.cells cells t fr) := by
 refine (World.putObj_heap_other ?_).trans hb
 rintro rfl
 rw [hb] at hl
 cases hl
 cases ho
theorem R_putObj {W : World} {l base e : Nat} {o o' : Obj} {ok : Nat → Prop} {v : Value} {xs : List Int} (h : Kd.R (Kd.int .i64) e W base ok v xs) (hl : W.heap[l]? = some o) (ho : o.isCells = false) : Kd.R (Kd.int .i64) e (W.putObj l o') base ok v xs := by
 refine Kd.R_mono (Kd.R_grown (Kd.R_bound h) (grownBy_putObj' W l o') fun k hk => ?_) (fun k hk => hk.1)
 obtain ⟨_, _, _, q, _, cells, hc⟩ := hk
 intro e
 cases e
 rw [hc] at hl
 cases hl
 cases ho
theorem below_putObj {w W : World} {n l : Nat} {o' : Obj} (h : Below n w W) (hn : n ≤ w.heap.size) (hl : n ≤ l) : Below n w (W.putObj l o') :=
 h.grown (grownBy_putObj' W l o') (Nat.le_trans hn h.size) (fun k e => by cases e; exact hl)
def GivenEl (B : Nat) (el : Nat → List Int) (k : Nat) (v : Value) (W : World) : Prop := ∃ base, B ≤ base ∧ base ≤ W.heap.size ∧ Kd.R (Kd.int .i64) 3 W base (fun b => base ≤ b) v (el k)
set_option maxRecDepth 100000 in
set_option maxHeartbeats 2000000 in
theorem Elements1_visits (K : Nat) (Bq Bf : Nat) (p : Int) (Am : Option Addr) (cm : Nat) (lm : List Int) (el : Nat → List Int) (hc : lm.length ≤ cm) (N : Nat) (hN : N ≤ 4294967296)
  (W0 : World) (lo hi : Nat) (hq : lo ≤ Bq ∧ Bq < hi) (hf : lo ≤ Bf ∧ Bf < hi) (hhi : hi ≤ W0.heap.size)
  (c1 : W0.heap[Bq]? = some (.cells #[.int .i64 (N : Int)] 3 (0, 0))) (c2 : W0.heap[Bf]? = some (.cells #[.int .i64 p, .slice Am lm.length cm] 68 (0, 0))) :
  Visits Try.prog 101 #[.pointer (some ⟨Bq, 0, none⟩), .pointer (some ⟨Bf, 0, none⟩)] (fun k v => #[.int .i64 (k : Int), v]) (GivenEl W0.heap.size el) lo hi N W0
   (fun k W => Kd.C (Kd.int .i64) W Am lm.length lm ∧ (k < N → gFElement.f K p lm (k : Int) = some (el k))) := by
 intro m l J Jx W hm hW hJ hC hY h0
 have hu68 := Try.underlying68
 have hcell := cell_of_one ((hW.block Bq (by omega)).trans c1)
 refine callsIn_of_wp Try.func101 rfl trivial ?_ rfl
 simp only [Try.ntmps101, List.size_toArray, List.length_cons, List.length_nil, Nat.reduceAdd, Nat.reduceSub, Array.replicate_succ, Array.replicate_zero, List.push_toArray, List.append_toArray, List.nil_append, List.cons_append]
 gi_wp2
 gi_loopw [6] (fun i wr => ∃ k : Nat, k ≤ N ∧ i = .int .i64 k ∧ J k wr ∧ Lie lo hi W0 wr)
  (fun i _ => N - (intOf i).toNat)
 case atStart => exact ⟨0, Nat.zero_le _, rfl, h0, Lie.below hW hhi⟩
 case round =>
  obtain ⟨k, hk, rfl, hJs, hwr⟩ := hrel
  have hbk := (hwr.2 Bf hf.1 hf.2).trans c2
  have hcz0 : wr.cell? ⟨Bf, 0, none⟩ = some (.int .i64 p) := (blk_cell hbk 0).trans rfl
  have hcz1 : wr.cell? ⟨Bf, 1, none⟩ = some (.slice Am lm.length cm) := (blk_cell hbk 1).trans rfl
  by_cases hlt : k < N
  ·have c4 : decide ((k : Int) < (N : Int)) = true := decide_eq_true (by omega)
   obtain ⟨hR0, hE⟩ := hC k wr hJs
   gi_wp2
   refine ⟨trivial, (callsIn_wide.2 (gFElement.calls K p Am cm lm (k : Int) (el k) wr hR0 hc (hE hlt))).mono ?_⟩
   rintro e W1 ⟨v, rfl, hv, hb⟩
   obtain ⟨fn, tmps, assign, body, hy, hR⟩ := hY k v W1 (hJ _ _ _ hJs hb) hlt ⟨wr.heap.size, hwr.1, hb.size, Kd.R_mono (Kd.R_newM (M := fun b => wr.heap.size ≤ b) (w := wr) hv (Nat.le_refl _) (fun _ h => h)) (fun _ h => h.1)⟩
   have hLb : Lie lo hi wr W1 := Lie.below hb (Nat.le_trans hhi hwr.1)
   gi_wp2
   refine hR.mono ?_
   rintro e W3 (⟨rfl, hJ3, hk3⟩ | ⟨rfl, hJx3⟩)
   ·gi_wp2
    go_roundw
    case rel => exact ⟨k + 1, by omega, by push_cast; rfl, hJ3, (hwr.trans hLb).trans hk3⟩
    case measure => simp [intOf]; omega
   ·gi_wp2
    refine bodyPost_ret (results_none rfl _ _ _) rfl ?_
    exact ⟨⟨_, rfl⟩, .inr ⟨k, hlt, hJx3⟩⟩
  ·obtain rfl : k = N := by omega
   have c4 : decide ((k : Int) < (k : Int)) = false := decide_eq_false (by omega)
   gi_wp2
   go_end0
   exact ⟨⟨_, rfl⟩, .inl hJs⟩
end Go.Proofs.Ytalnaafmonmlmaa.Q
end
section
namespace Go.Proofs.Ytalnaafmonmlmaa.Q
open Go.RowKit Go.Proofs.YtalnaafmonmlmaaW.PrintWords Go.Proofs.YtalnaafmonmlmaaW.PrintLast Go.Proofs.YtalnaafmonmlmaaW.PrintMore
attribute [local go_sem] max2_int min2_int max_two min_two max_three min_three max_four min_four
set_option linter.unusedVariables false
set_option linter.unusedSimpArgs false
set_option maxHeartbeats 8000000
set_option maxRecDepth 100000
def fi_Generator.l0 (kk : Nat) : Nat → Int → List Int → Int → Nat → Option (List Int × Int)
 | 0, _, _, _, _ => none
 | k + 1, p, l, q, i => if (i : Int) < q then (gFElement.f kk p l (i : Int)).bind fun a => (gFGenerates.f kk p l a q).bind fun b => if b = true then some (a, 0) else fi_Generator.l0 kk k p l q (i + 1) else some ([], 10)
def fi_Generator.f (k : Nat) (a0_0 : Int) (l0_1 : List Int) : Option (List Int × Int) := (fi_Check.f k a0_0 l0_1).bind fun e => if e = 0 then (fi_size.f k a0_0 l0_1 2147483647).bind fun r => if r.2 = 0 then (if 0 ≤ r.1 ∧ r.1 ≤ 4294967296 then fi_Generator.l0 k k a0_0 l0_1 r.1 0 else none) else some ([], r.2) else some ([], e)
theorem fi_Generator.mono_l (kk : Nat) : ∀ k p l q i, LeO (fi_Generator.l0 kk k p l q i) (fi_Generator.l0 (kk + 1) (k + 1) p l q i)
 | 0 => fun _ _ _ _ r h => by simp [fi_Generator.l0] at h
 | k + 1 => by
  intro p l q i
  have ih0 := fi_Generator.mono_l kk k
  have ih1 := gFElement.mono
  have ih2 := gFGenerates.mono
  unfold fi_Generator.l0
  with_reducible repeat' first | exact ih0 _ _ _ _ | exact ih1 _ _ _ _ | exact ih2 _ _ _ _ _ | exact LeO.refl _ | refine LeO.ite ?_ ?_ | refine LeO.bind ?_ (fun _ => ?_)
theorem fi_Generator.mono (a0_0 : Int) (l0_1 : List Int) (k : Nat) : LeO (fi_Generator.f k a0_0 l0_1) (fi_Generator.f (k + 1) a0_0 l0_1) := by
 have ih0 := fi_Generator.mono_l k k a0_0 l0_1
 have ih1 := fi_Check.mono
 have ih2 := fi_size.mono
 unfold fi_Generator.f
 with_reducible repeat' first | exact ih0 _ _ | exact ih1 _ _ _ | exact ih2 _ _ _ _ | exact LeO.refl _ | refine LeO.ite ?_ ?_ | refine LeO.bind ?_ (fun _ => ?_)
theorem twoCells_run (w : World) (b c : Nat) (x y : Value) (tx ty : TypeId) (P : Program) (tmps : Array Value) {fn : Func} {t u : Tmp} (h : fn.results = #[.cell t tx, .cell u ty]) (hx1 : ∀ W, (isAgg tx).run P W = .ok false W) (hy1 : ∀ W, (isAgg ty).run P W = .ok false W)
  (ht : tmps.getD t undef = .pointer (some ⟨b, 0, none⟩)) (hu : tmps.getD u undef = .pointer (some ⟨c, 0, none⟩)) (hb : w.heap[b]? = some (.cells #[x] tx (0, 0))) (hc : w.heap[c]? = some (.cells #[y] ty (0, 0))) :
  (results fn tmps).run P w = .ok (.tuple #[x, y]) w := by
 have h1 := cell_of_one hb
 have h2 := cell_of_one hc
 rw [Array.getD_eq_getD_getElem?] at ht hu
 simp [results, h, ht, hu, go_sem, h1, h2, hx1, hy1]
structure GenI (kk : Nat) (p : Int) (l : List Int) (A : Option Addr) (c : Nat) (q : Int) (r1 : List Int) (r2 : Int) (w : World) (g B : Nat) (k : Nat) (W : World) : Prop where
 now : ∃ j, fi_Generator.l0 kk j p l q k = some (r1, r2)
 res : W.heap[w.heap.size + 1]? = some (.cells #[.slice none 0 0] 25 (0, 0))
 err : W.heap[w.heap.size + 1 + 1]? = some (.cells #[.int .i64 0] 26 (0, 0))
 box : W.heap[g]? = some (.cells #[.int .i64 q] 3 (0, 0))
 fld : W.heap[g + 1]? = some (.cells #[.int .i64 p, .slice A l.length c] 68 (0, 0))
 below : Below w.heap.size w W
 size : B ≤ W.heap.size
structure GenX (r1 : List Int) (r2 : Int) (w : World) (cd : Code) (W : World) : Prop where
 ret : cd = .ret
 none : r2 = 0
 err : W.heap[w.heap.size + 1 + 1]? = some (.cells #[.int .i64 0] 26 (0, 0))
 res : ∃ v base, w.heap.size ≤ base ∧ W.heap[w.heap.size + 1]? = some (.cells #[v] 25 (0, 0)) ∧ Kd.R (Kd.int .i64) 3 W base (fun b => base ≤ b) v r1
 below : Below w.heap.size w W
theorem GenI.after {kk : Nat} {p : Int} {l : List Int} {A : Option Addr} {c : Nat} {q : Int} {r1 : List Int} {r2 : Int} {w : World} {g B k : Nat} {W W' : World} (h : GenI kk p l A c q r1 r2 w g B k W) (hb : Below W.heap.size W W') : GenI kk p l A c q r1 r2 w g B k W' :=
 ⟨h.now, blk_below h.res hb, blk_below h.err hb, blk_below h.box hb, blk_below h.fld hb, h.below.trans (hb.mono h.below.size), Nat.le_trans h.size hb.size⟩
theorem GenI.put {kk : Nat} {p : Int} {l : List Int} {A : Option Addr} {c : Nat} {q : Int} {r1 : List Int} {r2 : Int} {w : World} {g B k b : Nat} {W : World} {o o' : Obj} (h : GenI kk p l A c q r1 r2 w g B k W) (hb : w.heap.size ≤ b) (ho : W.heap[b]? = some o) (hc : o.isCells = false) : GenI kk p l A c q r1 r2 w g B k (W.putObj b o') :=
 ⟨h.now, put_cells h.res ho hc, put_cells h.err ho hc, put_cells h.box ho hc, put_cells h.fld ho hc, below_putObj h.below (Nat.le_refl _) hb, by simpa using h.size⟩
theorem GenX.put {r1 : List Int} {r2 : Int} {w : World} {cd : Code} {b : Nat} {W : World} {o o' : Obj} (h : GenX r1 r2 w cd W) (hb : w.heap.size ≤ b) (ho : W.heap[b]? = some o) (hc : o.isCells = false) : GenX r1 r2 w cd (W.putObj b o') := by
 obtain ⟨v, base, h1, h2, h3⟩ := h.res
 exact ⟨h.ret, h.none, put_cells h.err ho hc, ⟨v, base, h1, put_cells h2 ho hc, R_putObj h3 ho hc⟩, below_putObj h.below (Nat.le_refl _) hb⟩
theorem gf_Elements_calls (p : Int) (A : Option Addr) (n c : Nat) (q : Int) (w : World) :
  Calls Try.prog 71 #[.agg #[.int .i64 p, .slice A n c], .int .i64 q] w fun e w' => e = .returned (.func (.func 101) #[] #[.pointer (some ⟨w.heap.size + 1, 0, none⟩), .pointer (some ⟨w.heap.size, 0, none⟩)]) ∧
   w' = (w.alloc (.cells #[.int .i64 p, .slice A n c] 68)).alloc (.cells #[.int .i64 q] 3) := by
 have hu68 := Try.underlying68
 have hmf : ∀ (fn : Fn) (first cap : Array Value) (w : World), (Instr.makeFunc fn first cap).run Try.prog w = .ok (.func fn first cap) w := fun _ _ _ _ => rfl
 go_enter Try.func71, Try.ntmps71
 go_wp2
 go_ret
 exact ⟨rfl, rfl⟩
attribute [local go_sem] Oper.semAt_some in
theorem fi_Generator.calls (k : Nat) (a0_0 : Int) (A0_1 : Option Addr) (c0_1 : Nat) (l0_1 : List Int) (r1 : List Int) (r2 : Int) (w : World) (hr0_1 : Kd.C (Kd.int .i64) w A0_1 l0_1.length l0_1) (hc0_1 : l0_1.length ≤ c0_1) (h : fi_Generator.f k a0_0 l0_1 = some (r1, r2)) :
  Calls Try.prog 36 #[.agg #[.int .i64 a0_0, .slice A0_1 l0_1.length c0_1]] w fun e w' => ∃ v0_ : Value, e = .returned (.tuple #[v0_, .int .i64 r2]) ∧ Kd.R (Kd.int .i64) 3 w' w.heap.size (fun _ => True) v0_ r1 ∧ Below w.heap.size w w' := by
 have hu68 := Try.underlying68
 have hu33 := Try.underlying33
 obtain ⟨e1, hC, hE⟩ := Option.bind_eq_some_iff.mp h
 clear h
 have HR := zm hr0_1
 have HC := zm hc0_1
 have HK := zm hC
 have HE := zm hE
 clear hr0_1 hc0_1 hC hE
 obtain ⟨W0, hW0⟩ : ∃ W0, ((w.alloc (Obj.cells #[Value.int .i64 a0_0, .slice A0_1 l0_1.length c0_1] 33)).alloc (Obj.cells #[Value.slice none 0 0] 25)).alloc (Obj.cells #[Value.int .i64 0] 26) = W0 := ⟨_, rfl⟩
 have sz : Aside0 (W0.heap.size = w.heap.size + 3) := ⟨by rw [← hW0]; simp⟩
 have BF : Aside0 (W0.heap[w.heap.size]? = some (.cells #[Value.int .i64 a0_0, .slice A0_1 l0_1.length c0_1] 33 (0, 0))) := ⟨by rw [← hW0]; exact blk_alloc (blk_alloc (blk_new w _) _) _⟩
 have BR : Aside0 (W0.heap[w.heap.size + 1]? = some (.cells #[Value.slice none 0 0] 25 (0, 0))) := ⟨by
  rw [← hW0]
  refine blk_alloc ?_ _
  have := blk_new (w.alloc (Obj.cells #[Value.int .i64 a0_0, .slice A0_1 l0_1.length c0_1] 33)) (Obj.cells #[Value.slice none 0 0] 25)
  rwa [World.size_alloc] at this⟩
 have BE : Aside0 (W0.heap[w.heap.size + 1 + 1]? = some (.cells #[Value.int .i64 0] 26 (0, 0))) := ⟨by
  rw [← hW0]
  have := blk_new ((w.alloc (Obj.cells #[Value.int .i64 a0_0, .slice A0_1 l0_1.length c0_1] 33)).alloc (Obj.cells #[Value.slice none 0 0] 25)) (Obj.cells #[Value.int .i64 0] 26)
  rwa [World.size_alloc, World.size_alloc] at this⟩
 have HR0 : Aside0 (Kd.C (Kd.int .i64) W0 A0_1 l0_1.length l0_1) := ⟨by rw [← hW0]; exact Kd.C_alloc (Kd.C_alloc (Kd.C_alloc HR.out _) _) _⟩
 have HB0 : Aside0 (Below w.heap.size w W0) := ⟨by rw [← hW0]; exact (((Below.refl _ w).alloc (Nat.le_refl _) _).alloc (by simp) _).alloc (by simp; omega) _⟩
 have HW0 := zm hW0
 clear hW0
 refine (callsIn_wide (n := 3)).1 (callsIn_of_wp_marks Try.func36 rfl trivial (wpIn_wide.2 ?_) rfl)
 simp only [Try.ntmps36, List.size_toArray, List.length_cons, List.length_nil, Nat.reduceAdd, Nat.reduceSub, Array.replicate_succ, Array.replicate_zero, List.push_toArray, List.append_toArray, List.nil_append, List.cons_append]
 by_cases he : e1 = 0
 rotate_left
 ·have HE2 := HE.out
  rw [if_neg he] at HE2
  obtain ⟨rfl, rfl⟩ := Prod.mk.inj (Option.some.inj HE2)
  have c1b0 : (e1 != 0) = true := bne_iff_ne.mpr he
  have c1b1 : (e1 == 0) = false := beq_eq_false_iff_ne.mpr he
  clear HE HE2 he
  go_wp2_with (first | (go_at_call 23; rw [HW0.out]; (with_reducible refine (fi_Check.calls k a0_0 _ _ l0_1 e1 _ HR0.out HC.out HK.out).mono ?_); rintro e w1 ⟨rfl, hb1⟩; have br := blk_below BR.out hb1; have be := blk_below BE.out hb1; have hrc := blk_cell br 0; have hrf := blk_frozen br 0; have hec := blk_cell be 0; have hef := blk_frozen be 0; have HB1 := zm (HB0.out.trans (hb1.mono HB0.out.size)); have BR1 := zm br; have BE1 := zm be; clear hb1 br be))
  simp only [bodyPostM, LeavesInM, LeavesIn]
  refine ⟨_, twoCells_run _ (w.heap.size + 1) (w.heap.size + 1 + 1) (.slice none 0 0) (.int .i64 e1) 25 26 _ _ rfl (fun W => by simp [isAgg, Try.underlying25]) (fun W => by simp [isAgg, Try.underlying26]) rfl rfl ?_ (one_setCell (by rw [Below.heap_setCell _ _ _ _ (by simp)]; exact BE1.out)), ?_⟩
  ·rw [Below.heap_setCell _ _ _ _ (by simp)]
   exact one_setCell BR1.out
  exact ⟨_, rfl, Kd.R_nil _ _ _ _ _, (HB1.out.setCell (by first | (simp; done) | (simp; omega)) _).setCell (by first | (simp; done) | (simp; omega)) _⟩
 subst he
 have HE2 := HE.out
 rw [if_pos rfl] at HE2
 obtain ⟨⟨q, e2⟩, hS, hE2⟩ := Option.bind_eq_some_iff.mp HE2
 have HS := zm hS
 have c0b : ((0 : Int) != 0) = false := rfl
 clear HE HE2 hS
 by_cases he2 : e2 = 0
 rotate_left
 ·have HE3 : some (([] : List Int), e2) = some (r1, r2) := by simpa [he2] using hE2
  obtain ⟨rfl, rfl⟩ := Prod.mk.inj (Option.some.inj HE3)
  have c2b0 : (e2 != 0) = true := bne_iff_ne.mpr he2
  have c2b1 : (e2 == 0) = false := beq_eq_false_iff_ne.mpr he2
  clear hE2 HE3 he2
  go_wp2_with (first | (go_at_call 23; rw [HW0.out]; (with_reducible refine (fi_Check.calls k a0_0 _ _ l0_1 0 _ HR0.out HC.out HK.out).mono ?_); rintro e w1 ⟨rfl, hb1⟩; have bf := blk_below BF.out hb1; have hfc0 := blk_cell bf 0; have hfc1 := blk_cell bf 1; have BF1 := zm bf; have BR1 := zm (blk_below BR.out hb1); have BE1 := zm (blk_below BE.out hb1); have HR1 := zm (Kd.C_below HR0.out hb1); have HB1 := zm (HB0.out.trans (hb1.mono HB0.out.size)); have SZ1 := zm hb1.size; clear bf hb1) | (go_at_call 51; (with_reducible refine (fi_size.calls k a0_0 _ _ l0_1 2147483647 q e2 _ HR1.out HC.out HS.out).mono ?_); rintro e w2 ⟨rfl, hb2⟩; have bf2 := blk_below BF1.out hb2; have br2 := blk_below BR1.out hb2; have be2 := blk_below BE1.out hb2; have hfd0 := blk_cell bf2 0; have hfd1 := blk_cell bf2 1; have hrc := blk_cell br2 0; have hrf := blk_frozen br2 0; have hec := blk_cell be2 0; have hef := blk_frozen be2 0; have BF2 := zm bf2; have BR2 := zm br2; have BE2 := zm be2; have HR2 := zm (Kd.C_below HR1.out hb2); have HB2 := zm (HB1.out.trans (hb2.mono HB1.out.size)); have SZ2 := zm hb2.size; obtain ⟨W3, hW3⟩ : ∃ W3, w2.alloc (Obj.cells #[Value.int .i64 q] 3) = W3 := ⟨_, rfl⟩; have bf3 := blk_alloc bf2 (Obj.cells #[Value.int .i64 q] 3); have br3 := blk_alloc br2 (Obj.cells #[Value.int .i64 q] 3); have be3 := blk_alloc be2 (Obj.cells #[Value.int .i64 q] 3); have bq3 := blk_new w2 (Obj.cells #[Value.int .i64 q] 3); have hfe0 := blk_cell bf3 0; have hfe1 := blk_cell bf3 1; have hrc3 := blk_cell br3 0; have hrf3 := blk_frozen br3 0; have hec3 := blk_cell be3 0; have hef3 := blk_frozen be3 0; have hqc3 := blk_cell bq3 0; have BR3 := zm br3; have BE3 := zm be3; have BQ3 := zm bq3; have bf4 := blk_alloc bf3 (Obj.cells #[Value.int .i64 a0_0, .slice A0_1 l0_1.length c0_1] 68); have bq4 := blk_alloc bq3 (Obj.cells #[Value.int .i64 a0_0, .slice A0_1 l0_1.length c0_1] 68); have bg4 := blk_new (w2.alloc (Obj.cells #[Value.int .i64 q] 3)) (Obj.cells #[Value.int .i64 a0_0, .slice A0_1 l0_1.length c0_1] 68); rw [World.size_alloc] at bg4; have hqc4 := blk_cell bq4 0; have hgc40 := blk_cell bg4 0; have hgc41 := blk_cell bg4 1; have BQ4 := zm bq4; have BG4 := zm bg4; clear hW3 W3 bf3 br3 be3 bq3 bf4 bq4 bg4; clear bf2 br2 be2 hb2))
  simp only [bodyPostM, LeavesInM, LeavesIn]
  have s2 : w.heap.size + 3 ≤ w2.heap.size := by have := sz.out; have := SZ1.out; have := SZ2.out; omega
  have hb3 : Below w.heap.size w (w2.alloc (Obj.cells #[Value.int .i64 q] 3)) := HB2.out.alloc (by omega) _
  refine ⟨_, twoCells_run _ (w.heap.size + 1) (w.heap.size + 1 + 1) (.slice none 0 0) (.int .i64 e2) 25 26 _ _ rfl (fun W => by simp [isAgg, Try.underlying25]) (fun W => by simp [isAgg, Try.underlying26]) rfl rfl ?_ (one_setCell (by rw [Below.heap_setCell _ _ _ _ (by simp)]; exact BE3.out)), ?_⟩
  ·rw [Below.heap_setCell _ _ _ _ (by simp)]
   exact one_setCell BR3.out
  exact ⟨_, rfl, Kd.R_nil _ _ _ _ _, (hb3.setCell (by first | (simp; done) | (simp; omega)) _).setCell (by first | (simp; done) | (simp; omega)) _⟩
 subst he2
 have HE3 : (if 0 ≤ q ∧ q ≤ 4294967296 then fi_Generator.l0 k k a0_0 l0_1 q 0 else none) = some (r1, r2) := by simpa using hE2
 clear hE2
 by_cases hq : 0 ≤ q ∧ q ≤ 4294967296
 rotate_left
 ·rw [if_neg hq] at HE3
  cases HE3
 rw [if_pos hq] at HE3
 have HL := zm HE3
 have HQ := zm hq
 clear HE3 hq
 go_wp2_with (first | (go_at_call 23; rw [HW0.out]; (with_reducible refine (fi_Check.calls k a0_0 _ _ l0_1 0 _ HR0.out HC.out HK.out).mono ?_); rintro e w1 ⟨rfl, hb1⟩; have bf := blk_below BF.out hb1; have hfc0 := blk_cell bf 0; have hfc1 := blk_cell bf 1; have BF1 := zm bf; have BR1 := zm (blk_below BR.out hb1); have BE1 := zm (blk_below BE.out hb1); have HR1 := zm (Kd.C_below HR0.out hb1); have HB1 := zm (HB0.out.trans (hb1.mono HB0.out.size)); have SZ1 := zm hb1.size; clear bf hb1) | (go_at_call 51; (with_reducible refine (fi_size.calls k a0_0 _ _ l0_1 2147483647 q 0 _ HR1.out HC.out HS.out).mono ?_); rintro e w2 ⟨rfl, hb2⟩; have bf2 := blk_below BF1.out hb2; have br2 := blk_below BR1.out hb2; have be2 := blk_below BE1.out hb2; have hfd0 := blk_cell bf2 0; have hfd1 := blk_cell bf2 1; have hrc := blk_cell br2 0; have hrf := blk_frozen br2 0; have hec := blk_cell be2 0; have hef := blk_frozen be2 0; have BF2 := zm bf2; have BR2 := zm br2; have BE2 := zm be2; have HR2 := zm (Kd.C_below HR1.out hb2); have HB2 := zm (HB1.out.trans (hb2.mono HB1.out.size)); have SZ2 := zm hb2.size; obtain ⟨W3, hW3⟩ : ∃ W3, w2.alloc (Obj.cells #[Value.int .i64 q] 3) = W3 := ⟨_, rfl⟩; have bf3 := blk_alloc bf2 (Obj.cells #[Value.int .i64 q] 3); have br3 := blk_alloc br2 (Obj.cells #[Value.int .i64 q] 3); have be3 := blk_alloc be2 (Obj.cells #[Value.int .i64 q] 3); have bq3 := blk_new w2 (Obj.cells #[Value.int .i64 q] 3); have hfe0 := blk_cell bf3 0; have hfe1 := blk_cell bf3 1; have hrc3 := blk_cell br3 0; have hrf3 := blk_frozen br3 0; have hec3 := blk_cell be3 0; have hef3 := blk_frozen be3 0; have hqc3 := blk_cell bq3 0; have BR3 := zm br3; have BE3 := zm be3; have BQ3 := zm bq3; have bf4 := blk_alloc bf3 (Obj.cells #[Value.int .i64 a0_0, .slice A0_1 l0_1.length c0_1] 68); have bq4 := blk_alloc bq3 (Obj.cells #[Value.int .i64 a0_0, .slice A0_1 l0_1.length c0_1] 68); have bg4 := blk_new (w2.alloc (Obj.cells #[Value.int .i64 q] 3)) (Obj.cells #[Value.int .i64 a0_0, .slice A0_1 l0_1.length c0_1] 68); rw [World.size_alloc] at bg4; have hqc4 := blk_cell bq4 0; have hgc40 := blk_cell bg4 0; have hgc41 := blk_cell bg4 1; have BQ4 := zm bq4; have BG4 := zm bg4; clear hW3 W3 bf3 br3 be3 bq3 bf4 bq4 bg4; clear bf2 br2 be2 hb2) | (go_at_call 71; refine (gf_Elements_calls _ _ _ _ _ _).mono ?_; rintro e w' ⟨rfl, rfl⟩))
 obtain ⟨N, rfl⟩ : ∃ N : Nat, q = (N : Int) := ⟨q.toNat, by have := HQ.out.1; omega⟩
 generalize hw5 : (((w2.alloc (Obj.cells #[Value.int .i64 (N : Int)] 3)).alloc (Obj.cells #[Value.int .i64 a0_0, .slice A0_1 l0_1.length c0_1] 68)).alloc (Obj.cells #[Value.int .i64 a0_0, .slice A0_1 l0_1.length c0_1] 68)).alloc (Obj.cells #[Value.int .i64 (N : Int)] 3) = w5
 have s5 : w5.heap.size = w2.heap.size + 4 := by rw [← hw5]; simp
 have s2 : w.heap.size + 3 ≤ w2.heap.size := by have := sz.out; have := SZ1.out; have := SZ2.out; omega
 have hb25 : Below w2.heap.size w2 w5 := by rw [← hw5]; exact ((((Below.refl _ w2).alloc (Nat.le_refl _) _).alloc (by simp) _).alloc (by simp; omega) _).alloc (by simp; omega) _
 have b5q : w5.heap[w2.heap.size]? = some (.cells #[.int .i64 (N : Int)] 3 (0, 0)) := by rw [← hw5]; exact blk_alloc (blk_alloc BQ4.out _) _
 have b5f : w5.heap[w2.heap.size + 1]? = some (.cells #[.int .i64 a0_0, .slice A0_1 l0_1.length c0_1] 68 (0, 0)) := by rw [← hw5]; exact blk_alloc (blk_alloc BG4.out _) _
 have b5g : w5.heap[w2.heap.size + 1 + 1]? = some (.cells #[.int .i64 a0_0, .slice A0_1 l0_1.length c0_1] 68 (0, 0)) := by
  rw [← hw5]
  refine blk_alloc ?_ _
  have := blk_new ((w2.alloc (Obj.cells #[Value.int .i64 (N : Int)] 3)).alloc (Obj.cells #[Value.int .i64 a0_0, .slice A0_1 l0_1.length c0_1] 68)) (Obj.cells #[Value.int .i64 a0_0, .slice A0_1 l0_1.length c0_1] 68)
  rwa [World.size_alloc, World.size_alloc] at this
 have b5p : w5.heap[w2.heap.size + 1 + 1 + 1]? = some (.cells #[.int .i64 (N : Int)] 3 (0, 0)) := by
  rw [← hw5]
  have := blk_new (((w2.alloc (Obj.cells #[Value.int .i64 (N : Int)] 3)).alloc (Obj.cells #[Value.int .i64 a0_0, .slice A0_1 l0_1.length c0_1] 68)).alloc (Obj.cells #[Value.int .i64 a0_0, .slice A0_1 l0_1.length c0_1] 68)) (Obj.cells #[Value.int .i64 (N : Int)] 3)
  rwa [World.size_alloc, World.size_alloc, World.size_alloc] at this
 have hI0 : GenI k a0_0 l0_1 A0_1 c0_1 (N : Int) r1 r2 w w2.heap.size w5.heap.size 0 w5 :=
  ⟨⟨k, HL.out⟩, blk_below BR2.out hb25, blk_below BE2.out hb25, b5q, b5f, HB2.out.trans (hb25.mono HB2.out.size), Nat.le_refl _⟩
 clear hw5 hfe0 hfe1 hrc3 hrf3 hec3 hef3 hqc3 hqc4 hgc40 hgc41 hrc hrf hec hef hfd0 hfd1 BR3 BE3 BQ3 BQ4 BG4
 refine wp_range (gf := 101) (lb := #[.pointer (some ⟨w2.heap.size + 1 + 1 + 1, 0, none⟩), .pointer (some ⟨w2.heap.size + 1 + 1, 0, none⟩)]) rfl (enters_of Try.func101 (by kernel_rfl) rfl)
  (Elements1_visits k (w2.heap.size + 1 + 1 + 1) (w2.heap.size + 1 + 1) a0_0 A0_1 c0_1 l0_1 (fun i => (gFElement.f k a0_0 l0_1 (i : Int)).getD []) HC.out N (by have := HQ.out.2; omega) w5 (w2.heap.size + 1 + 1) (w2.heap.size + 4) ⟨by omega, by omega⟩ ⟨by omega, by omega⟩ (by omega) b5p b5g)
  (Below.refl _ _) (by omega) (fun _ _ => rfl)
  (GenI k a0_0 l0_1 A0_1 c0_1 (N : Int) r1 r2 w w2.heap.size w5.heap.size) (fun cd _ W => GenX r1 r2 w cd W)
  (fun i v W => GenI k a0_0 l0_1 A0_1 c0_1 (N : Int) r1 r2 w w2.heap.size w5.heap.size i W ∧ GivenEl w5.heap.size (fun i => (gFElement.f k a0_0 l0_1 (i : Int)).getD []) i v W)
  (fun i v => { tmps := #[Value.agg #[.int .i64 a0_0, .slice A0_1 l0_1.length c0_1], .pointer (some ⟨w.heap.size, 0, none⟩), .pointer (some ⟨w.heap.size + 1, 0, none⟩), .pointer (some ⟨w.heap.size + 1 + 1, 0, none⟩), .int .i64 0,
   .pointer (some ⟨w2.heap.size, 0, none⟩), .int .i64 0, .pointer (some ⟨w2.heap.size + 1, 0, none⟩), undef, v, Value.agg #[.int .i64 a0_0, .slice A0_1 l0_1.length c0_1], .int .i64 0, .int .i64 0, .bool false, undef,
   .tuple #[.int .i64 (N : Int), .int .i64 0], Value.agg #[.int .i64 a0_0, .slice A0_1 l0_1.length c0_1], .tuple #[.int .i64 (N : Int), .int .i64 0], .int .i64 (N : Int), .int .i64 0, .int .i64 0, .bool false, undef,
   Value.agg #[.int .i64 a0_0, .slice A0_1 l0_1.length c0_1], Value.agg #[.int .i64 a0_0, .slice A0_1 l0_1.length c0_1], Value.agg #[.int .i64 a0_0, .slice A0_1 l0_1.length c0_1], .int .i64 (N : Int),
   .func (.func 101) #[] #[.pointer (some ⟨w2.heap.size + 1 + 1 + 1, 0, none⟩), .pointer (some ⟨w2.heap.size + 1 + 1, 0, none⟩)], .int .i64 (i : Int), v, undef, undef, undef, undef, undef], defers := [] })
  (fun i A B h hb => h.after hb) ?ic (fun i A b o o' h hb ho hc => h.put (by omega) ho hc) (fun cd i A b o o' h hb ho hc => h.put (by omega) ho hc)
  (fun i v A b o o' h hb ho hc => ⟨h.1.put (by omega) ho hc, by obtain ⟨base, h1, h2, h3⟩ := h.2; exact ⟨base, h1, by simpa using h2, R_putObj h3 ho hc⟩⟩) hI0 ?assign ?body ?done ?stop
 case ic =>
  rintro i W h
  refine ⟨Kd.C_below HR.out h.below, fun hi => ?_⟩
  obtain ⟨j, hj⟩ := h.now
  cases j with
  | zero => cases hj
  | succ j =>
   rw [fi_Generator.l0, if_pos (by omega)] at hj
   obtain ⟨a, ha, _⟩ := Option.bind_eq_some_iff.mp hj
   rw [ha]; rfl
 case assign =>
  intro l i v W K hi h1 h2 hK
  gi_wp2
  exact hK W (KeepsOthers.refl _) (Lie.refl _ _ _) ⟨h1, h2⟩
 case body =>
  rintro l i v W hi ⟨h1, base, g1, g2, g3⟩
  obtain ⟨j, hj⟩ := h1.now
  cases j with
  | zero => cases hj
  | succ j =>
   rw [fi_Generator.l0, if_pos (by omega)] at hj
   obtain ⟨a, ha, hj⟩ := Option.bind_eq_some_iff.mp hj
   obtain ⟨b, hb, hj⟩ := Option.bind_eq_some_iff.mp hj
   have g4 : Kd.R (Kd.int .i64) 3 W base (fun b => base ≤ b) v a := by
    have := g3
    dsimp only at this
    rw [ha] at this
    exact this
   clear g3
   obtain ⟨A, c, rfl⟩ := Kd.R_slice g4
   obtain ⟨_, hac, hca⟩ := Kd.R_reads' g4
   have hc0 := blk_cell h1.box 0
   have hf0 := blk_cell h1.fld 0
   have hf1 := blk_cell h1.fld 1
   have H1 := zm h1
   have G4 := zm g4
   have HCA := zm hca
   clear h1 g4 hca
   cases b with
   | false =>
    rw [if_neg (by simp)] at hj
    gi_wp2
    refine ⟨trivial, (CallsIn.inRound l (callsIn_wide.2 (gFGenerates.calls k a0_0 _ _ l0_1 A c a (N : Int) false W (Kd.C_below HR.out H1.out.below) HC.out HCA.out hac hb))).mono ?_⟩
    rintro e W3 ⟨rfl, hb3⟩
    gi_wp2
    have h4 := H1.out.after hb3
    exact ⟨keepsOthers_below hb3, Lie.below hb3 (by have := H1.out.size; omega), ⟨⟨j, hj⟩, h4.res, h4.err, h4.box, h4.fld, h4.below, h4.size⟩⟩
   | true =>
    rw [if_pos rfl] at hj
    obtain ⟨rfl, rfl⟩ := Prod.mk.inj (Option.some.inj hj)
    gi_wp2
    refine ⟨trivial, (CallsIn.inRound l (callsIn_wide.2 (gFGenerates.calls k a0_0 _ _ l0_1 A c a (N : Int) true W (Kd.C_below HR.out H1.out.below) HC.out HCA.out hac hb))).mono ?_⟩
    rintro e W3 ⟨rfl, hb3⟩
    have h4 := H1.out.after hb3
    have hrc := blk_cell h4.res 0
    have hrf := blk_frozen h4.res 0
    have hec := blk_cell h4.err 0
    have hef := blk_frozen h4.err 0
    have H4 := zm h4
    have HB3 := zm hb3
    have G5 := zm (Kd.R_below G4.out hb3)
    clear h4 hb3
    gi_wp2
    have e1 : ∀ u : Value, ((W3.setCell ⟨w.heap.size + 1, 0, none⟩ u).setCell ⟨w.heap.size + 1 + 1, 0, none⟩ (.int .i64 0)).heap[w.heap.size + 1]? = some (.cells #[u] 25 (0, 0)) := fun u => by
     rw [Below.heap_setCell _ _ _ _ (by simp)]
     exact one_setCell H4.out.res
    have e2 : ∀ u : Value, ((W3.setCell ⟨w.heap.size + 1, 0, none⟩ u).setCell ⟨w.heap.size + 1 + 1, 0, none⟩ (.int .i64 0)).heap[w.heap.size + 1 + 1]? = some (.cells #[Value.int .i64 0] 26 (0, 0)) := fun u =>
     one_setCell (by rw [Below.heap_setCell _ _ _ _ (by simp)]; exact H4.out.err)
    refine ⟨(keepsOthers_below HB3.out).trans ((KeepsOthers.setCell _ _ _).trans (KeepsOthers.setCell _ _ _)), rfl, rfl, e2 _, ⟨_, base, by have := HB2.out.size; omega, e1 _, ?_⟩, (H4.out.below.setCell (by first | (simp; done) | (simp; omega)) _).setCell (by first | (simp; done) | (simp; omega)) _⟩
    exact Kd.R_set (Kd.R_set G5.out H4.out.res (by intro q hq; simp [Kd.int, Kd.scalar] at hq; omega) 0 _)
     (show (W3.setCell ⟨w.heap.size + 1, 0, none⟩ _).heap[w.heap.size + 1 + 1]? = some (.cells #[Value.int .i64 0] 26 (0, 0)) from by rw [Below.heap_setCell _ _ _ _ (by simp)]; exact H4.out.err) (by intro q hq; simp [Kd.int, Kd.scalar] at hq; omega) 0 _
 case done =>
  intro D W hD h1 hK
  obtain ⟨j, hj⟩ := h1.now
  cases j with
  | zero => cases hj
  | succ j =>
   rw [fi_Generator.l0, if_neg (by omega)] at hj
   obtain ⟨rfl, rfl⟩ := Prod.mk.inj (Option.some.inj hj)
   have hrc := blk_cell h1.res 0
   have hrf := blk_frozen h1.res 0
   have hec := blk_cell h1.err 0
   have hef := blk_frozen h1.err 0
   have H1 := zm h1
   have HKD := zm hK
   clear h1 hK
   go_wp2
   have e1 : ((W.setCell ⟨w.heap.size + 1, 0, none⟩ (.slice none 0 0)).setCell ⟨w.heap.size + 1 + 1, 0, none⟩ (.int .i64 10)).heap[w.heap.size + 1]? = some (.cells #[.slice none 0 0] 25 (0, 0)) := by
    rw [Below.heap_setCell _ _ _ _ (by simp)]
    exact one_setCell H1.out.res
   have e2 : ((W.setCell ⟨w.heap.size + 1, 0, none⟩ (.slice none 0 0)).setCell ⟨w.heap.size + 1 + 1, 0, none⟩ (.int .i64 10)).heap[w.heap.size + 1 + 1]? = some (.cells #[Value.int .i64 10] 26 (0, 0)) :=
    one_setCell (by rw [Below.heap_setCell _ _ _ _ (by simp)]; exact H1.out.err)
   have hb : Below w.heap.size w ((W.setCell ⟨w.heap.size + 1, 0, none⟩ (.slice none 0 0)).setCell ⟨w.heap.size + 1 + 1, 0, none⟩ (.int .i64 10)) := (H1.out.below.setCell (by first | (simp; done) | (simp; omega)) _).setCell (by first | (simp; done) | (simp; omega)) _
   simp only [bodyPostM, LeavesInM]
   have hK2 := ((KeepsOthers.setCell W ⟨w.heap.size + 1, 0, none⟩ (.slice none 0 0)).trans (KeepsOthers.setCell _ ⟨w.heap.size + 1 + 1, 0, none⟩ (.int .i64 10))).same D _ HKD.out rfl
   refine ⟨by simp, .inl ⟨_, _, rfl, run_takeDeferred hK2, ?_⟩⟩
   simp only [LeavesIn]
   refine ⟨_, twoCells_run _ (w.heap.size + 1) (w.heap.size + 1 + 1) _ _ 25 26 _ _ rfl (fun W => by simp [isAgg, Try.underlying25]) (fun W => by simp [isAgg, Try.underlying26]) rfl rfl (put_cells e1 hK2 rfl) (put_cells e2 hK2 rfl), _, rfl, Kd.R_nil _ _ _ _ _, below_putObj hb (Nat.le_refl _) (by omega)⟩
 case stop =>
  rintro D cd i W hD hi h1 hK
  obtain rfl := h1.ret
  obtain rfl := h1.none
  obtain ⟨v, base, hb, h2, h3⟩ := h1.res
  have H1 := zm h1
  have HKD := zm hK
  have H2 := zm h2
  have H3 := zm h3
  clear h1 hK h2 h3
  go_wp2
  simp only [bodyPostM, LeavesInM]
  have hK2 := HKD.out
  refine ⟨by simp, .inl ⟨_, _, rfl, run_takeDeferred hK2, ?_⟩⟩
  simp only [LeavesIn]
  refine ⟨_, twoCells_run _ (w.heap.size + 1) (w.heap.size + 1 + 1) _ _ 25 26 _ _ rfl (fun W => by simp [isAgg, Try.underlying25]) (fun W => by simp [isAgg, Try.underlying26]) rfl rfl (put_cells H2.out hK2 rfl) (put_cells H1.out.err hK2 rfl), _, rfl, Kd.R_mono (Kd.R_lower (R_putObj H3.out HKD.out rfl) hb) (fun _ _ => trivial), below_putObj H1.out.below (Nat.le_refl _) (by omega)⟩
def fi_root.odd : Nat → Int → Int → Option (Int × Int)
 | 0, _, _ => none
 | k + 1, o, s => if Int.tmod o 2 = 0 then fi_root.odd k (wrap64 (Int.tdiv o 2)) (wrap64 (s + 1)) else some (o, s)
def fi_root.l0 (kk : Nat) : Nat → Int → List Int → Int → Nat → List Int → Option (List Int)
 | 0, _, _, _, _, _ => none
 | k + 1, p, l, q, i, z => if (i : Int) < q then (gFElement.f kk p l (i : Int)).bind fun a => if (a.length : Int) > 0 then (gFPow.f kk p l a (wrap64 (Int.tdiv (wrap64 (q - 1)) 2))).bind fun t => (gf_IsOne.f t).bind fun b => if b = true then fi_root.l0 kk k p l q (i + 1) a else some a else fi_root.l0 kk k p l q (i + 1) a else some z
def fi_root.f (k : Nat) (a0_0 : Int) (l0_1 : List Int) (l1 : List Int) (a2 : Int) : Option (List Int) := if 0 ≤ a2 ∧ a2 ≤ 4294967296 then (fi_root.odd k (wrap64 (a2 - 1)) 0).bind fun o => (fi_root.l0 k k a0_0 l0_1 a2 0 []).bind fun z => fi_rootTail.f k a0_0 l0_1 l1 a2 o.1 o.2 z else none
theorem fi_root.mono_odd : ∀ k o s, LeO (fi_root.odd k o s) (fi_root.odd (k + 1) o s)
 | 0 => fun _ _ r h => by simp [fi_root.odd] at h
 | k + 1 => by
  intro o s
  have ih0 := fi_root.mono_odd k
  unfold fi_root.odd
  with_reducible repeat' first | exact ih0 _ _ | exact LeO.refl _ | refine LeO.ite ?_ ?_
theorem fi_root.mono_l (kk : Nat) : ∀ k p l q i z, LeO (fi_root.l0 kk k p l q i z) (fi_root.l0 (kk + 1) (k + 1) p l q i z)
 | 0 => fun _ _ _ _ _ r h => by simp [fi_root.l0] at h
 | k + 1 => by
  intro p l q i z
  have ih0 := fi_root.mono_l kk k
  have ih1 := gFElement.mono
  have ih2 := gFPow.mono
  unfold fi_root.l0
  with_reducible repeat' first | exact ih0 _ _ _ _ _ | exact ih1 _ _ _ _ | exact ih2 _ _ _ _ _ | exact LeO.refl _ | refine LeO.ite ?_ ?_ | refine LeO.bind ?_ (fun _ => ?_)
theorem fi_root.mono (a0_0 : Int) (l0_1 : List Int) (l1 : List Int) (a2 : Int) (k : Nat) : LeO (fi_root.f k a0_0 l0_1 l1 a2) (fi_root.f (k + 1) a0_0 l0_1 l1 a2) := by
 have ih0 := fi_root.mono_l k k a0_0 l0_1
 have ih1 := fi_root.mono_odd
 have ih2 := fi_rootTail.mono
 unfold fi_root.f
 with_reducible repeat' first | exact ih0 _ _ _ | exact ih1 _ _ _ | exact ih2 _ _ _ _ _ _ _ _ | exact LeO.refl _ | exact LeO.none _ | refine LeO.ite ?_ ?_ | refine LeO.bind ?_ (fun _ => ?_)
def ZRow (B : Nat) (W : World) (v : Value) (z : List Int) : Prop := (v = .slice none 0 0 ∧ z = []) ∨ ∃ base, B ≤ base ∧ Kd.R (Kd.int .i64) 3 W base (fun b => base ≤ b) v z
theorem ZRow.after {B : Nat} {W W' : World} {v : Value} {z : List Int} (h : ZRow B W v z) (hb : Below W.heap.size W W') : ZRow B W' v z := by
 rcases h with h | ⟨base, h1, h2⟩
 ·exact .inl h
 exact .inr ⟨base, h1, Kd.R_below h2 hb⟩
theorem ZRow.put {B b : Nat} {W : World} {v : Value} {z : List Int} {o o' : Obj} (h : ZRow B W v z) (ho : W.heap[b]? = some o) (hc : o.isCells = false) : ZRow B (W.putObj b o') v z := by
 rcases h with h | ⟨base, h1, h2⟩
 ·exact .inl h
 exact .inr ⟨base, h1, R_putObj h2 ho hc⟩
theorem V_putObj {W : World} {D base e : Nat} {o : Obj} {ok : Nat → Prop} {v : Value} {xs : List Int} (h : Kd.V (Kd.int .i64) e W base ok v xs) (hne : ∀ k, ok k → k ≠ D) : Kd.V (Kd.int .i64) e (W.putObj D o) base ok v xs :=
 Kd.V_map h (fun A hf => fun W' hW' => hf W' (fun k hk hlt => (hW' k hk (by simpa using hlt)).trans (World.putObj_heap_other (hne k hk))))
structure RootI (kk : Nat) (p : Int) (l : List Int) (A : Option Addr) (c : Nat) (q : Int) (zf : List Int) (w : World) (zb B : Nat) (i : Nat) (W : World) : Prop where
 ex : ∃ z v, (∃ j, fi_root.l0 kk j p l q i z = some zf) ∧ W.heap[zb]? = some (.cells #[v] 25 (0, 0)) ∧ ZRow B W v z
 box : W.heap[w.heap.size + 1]? = some (.cells #[.int .i64 q] 3 (0, 0))
 fld : W.heap[w.heap.size]? = some (.cells #[.int .i64 p, .slice A l.length c] 68 (0, 0))
 below : Below w.heap.size w W
 size : B ≤ W.heap.size
structure RootX (p : Int) (l : List Int) (A : Option Addr) (c : Nat) (zf : List Int) (w : World) (zb B : Nat) (cd : Code) (W : World) : Prop where
 cd : cd = .exit 2
 ex : ∃ v, W.heap[zb]? = some (.cells #[v] 25 (0, 0)) ∧ ZRow B W v zf
 fld : W.heap[w.heap.size]? = some (.cells #[.int .i64 p, .slice A l.length c] 68 (0, 0))
 below : Below w.heap.size w W
structure RootM (kk : Nat) (p : Int) (l : List Int) (A : Option Addr) (c : Nat) (q : Int) (zf : List Int) (w : World) (zb B : Nat) (i : Nat) (v : Value) (W : World) : Prop where
 now : ∃ j z, fi_root.l0 kk j p l q i z = some zf
 cell : W.heap[zb]? = some (.cells #[v] 25 (0, 0))
 el : GivenEl B (fun i => (gFElement.f kk p l (i : Int)).getD []) i v W
 box : W.heap[w.heap.size + 1]? = some (.cells #[.int .i64 q] 3 (0, 0))
 fld : W.heap[w.heap.size]? = some (.cells #[.int .i64 p, .slice A l.length c] 68 (0, 0))
 below : Below w.heap.size w W
 size : B ≤ W.heap.size
theorem RootI.after {kk : Nat} {p : Int} {l : List Int} {A : Option Addr} {c : Nat} {q : Int} {zf : List Int} {w : World} {zb B i : Nat} {W W' : World} (h : RootI kk p l A c q zf w zb B i W) (hb : Below W.heap.size W W') : RootI kk p l A c q zf w zb B i W' := by
 obtain ⟨z, v, h1, h2, h3⟩ := h.ex
 exact ⟨⟨z, v, h1, blk_below h2 hb, h3.after hb⟩, blk_below h.box hb, blk_below h.fld hb, h.below.trans (hb.mono h.below.size), Nat.le_trans h.size hb.size⟩
theorem RootI.put {kk : Nat} {p : Int} {l : List Int} {A : Option Addr} {c : Nat} {q : Int} {zf : List Int} {w : World} {zb B i b : Nat} {W : World} {o o' : Obj} (h : RootI kk p l A c q zf w zb B i W) (hb : w.heap.size ≤ b) (ho : W.heap[b]? = some o) (hc : o.isCells = false) : RootI kk p l A c q zf w zb B i (W.putObj b o') := by
 obtain ⟨z, v, h1, h2, h3⟩ := h.ex
 exact ⟨⟨z, v, h1, put_cells h2 ho hc, h3.put ho hc⟩, put_cells h.box ho hc, put_cells h.fld ho hc, below_putObj h.below (Nat.le_refl _) hb, by simpa using h.size⟩
theorem RootX.put {p : Int} {l : List Int} {A : Option Addr} {c : Nat} {zf : List Int} {w : World} {zb B b : Nat} {cd : Code} {W : World} {o o' : Obj} (h : RootX p l A c zf w zb B cd W) (hb : w.heap.size ≤ b) (ho : W.heap[b]? = some o) (hc : o.isCells = false) : RootX p l A c zf w zb B cd (W.putObj b o') := by
 obtain ⟨v, h2, h3⟩ := h.ex
 exact ⟨h.cd, ⟨v, put_cells h2 ho hc, h3.put ho hc⟩, put_cells h.fld ho hc, below_putObj h.below (Nat.le_refl _) hb⟩
theorem RootM.put {kk : Nat} {p : Int} {l : List Int} {A : Option Addr} {c : Nat} {q : Int} {zf : List Int} {w : World} {zb B i b : Nat} {v : Value} {W : World} {o o' : Obj} (h : RootM kk p l A c q zf w zb B i v W) (hb : w.heap.size ≤ b) (ho : W.heap[b]? = some o) (hc : o.isCells = false) : RootM kk p l A c q zf w zb B i v (W.putObj b o') := by
 obtain ⟨base, h1, h2, h3⟩ := h.el
 exact ⟨h.now, put_cells h.cell ho hc, ⟨base, h1, by simpa using h2, R_putObj h3 ho hc⟩, put_cells h.box ho hc, put_cells h.fld ho hc, below_putObj h.below (Nat.le_refl _) hb, by simpa using h.size⟩
attribute [local go_sem] Oper.semAt_some in
theorem fi_root.calls (k : Nat) (a0_0 : Int) (A0_1 : Option Addr) (c0_1 : Nat) (l0_1 : List Int) (P1_ : Nat → Prop) (A1 : Option Addr) (c1 : Nat) (l1 : List Int) (a2 : Int) (r : List Int) (w : World) (hr0_1 : Kd.C (Kd.int .i64) w A0_1 l0_1.length l0_1) (hc0_1 : l0_1.length ≤ c0_1) (hs1 : Kd.V (Kd.int .i64) 3 w w.heap.size (fun k_ => P1_ k_) (.slice A1 l1.length c1) l1) (h : fi_root.f k a0_0 l0_1 l1 a2 = some r) :
  Calls Try.prog 56 #[.agg #[.int .i64 a0_0, .slice A0_1 l0_1.length c0_1], .slice A1 l1.length c1, .int .i64 a2] w fun e w' => ∃ v0_ : Value, e = .returned (v0_) ∧ Kd.V (Kd.int .i64) 3 w' w.heap.size (fun k_ => (P1_ k_ ∨ w.heap.size ≤ k_)) v0_ r ∧ Below w.heap.size w w' := by
 have hu68 := Try.underlying68
 unfold fi_root.f at h
 by_cases hq : 0 ≤ a2 ∧ a2 ≤ 4294967296
 rotate_left
 ·rw [if_neg hq] at h
  cases h
 rw [if_pos hq] at h
 obtain ⟨⟨od, s0⟩, hO, h⟩ := Option.bind_eq_some_iff.mp h
 obtain ⟨zf, hZ, hT⟩ := Option.bind_eq_some_iff.mp h
 have HR := zm hr0_1
 have HC := zm hc0_1
 have HS1 := zm hs1
 have HO := zm hO
 have HZ := zm hZ
 have HT := zm hT
 have HQ := zm hq
 clear hr0_1 hc0_1 hs1 hO hZ hT hq h
 have hD0 : Drawn0 ((w.alloc (Obj.cells #[.int .i64 a0_0, .slice A0_1 l0_1.length c0_1] 68)).alloc (Obj.cells #[.int .i64 a2] 3)) ((w.alloc (Obj.cells #[.int .i64 a0_0, .slice A0_1 l0_1.length c0_1] 68)).alloc (Obj.cells #[.int .i64 a2] 3)) := Drawn0.refl _
 have HD0 := zm hD0
 clear hD0
 refine (callsIn_wide (n := 3)).1 (callsIn_of_wp_marks Try.func56 rfl trivial (wpIn_wide.2 ?_) rfl)
 simp only [Try.ntmps56, List.size_toArray, List.length_cons, List.length_nil, Nat.reduceAdd, Nat.reduceSub, Array.replicate_succ, Array.replicate_zero, List.push_toArray, List.append_toArray, List.nil_append, List.cons_append]
 go_wp2
 go_loopg [7, 8] k (fun kq v7 v8 w' => ∃ (o s : Int), v7 = .int .i64 o ∧ v8 = .int .i64 s ∧ Aside0 (fi_root.odd kq o s = some (od, s0)) ∧ Drawn0 ((w.alloc (Obj.cells #[.int .i64 a0_0, .slice A0_1 l0_1.length c0_1] 68)).alloc (Obj.cells #[.int .i64 a2] 3)) w')
 case atStart => exact ⟨wrap64 (a2 - 1), 0, zX, zX, HO, by repeat (first | exact HD0.out | exact Drawn0.refl _ | apply Drawn0.step)⟩
 case round =>
  clear HO
  obtain ⟨o, s, rfl, rfl, HA, ⟨m1, rfl⟩⟩ := hrel
  cases gk with
  | zero => exact absurd HA.out (by simp [fi_root.odd])
  | succ k1 =>
   have H := HA.out
   clear HA
   simp only [fi_root.odd] at H
   by_cases c1 : Int.tmod o 2 = 0
   ·rw [if_pos c1] at H
    have c1b0 : (Int.tmod o 2 == 0) = true := beq_iff_eq.mpr c1
    clear c1
    have H' := zm H
    clear H
    go_wp2
    go_roundg k1
    case measure => omega
    case rel => exact ⟨(wrap64 (Int.tdiv o 2)), (wrap64 (s + 1)), zX, zX, H', by repeat (first | exact Drawn0.refl _ | apply Drawn0.step)⟩
   rw [if_neg c1] at H
   have c1b0 : (Int.tmod o 2 == 0) = false := beq_eq_false_iff_ne.mpr c1
   clear c1
   obtain ⟨rfl, rfl⟩ := Prod.mk.inj (Option.some.inj H)
   clear H
   have s9 : (((w.alloc (Obj.cells #[.int .i64 a0_0, .slice A0_1 l0_1.length c0_1] 68)).alloc (Obj.cells #[.int .i64 a2] 3)).drewN m1).heap.size = w.heap.size + 2 := by
    show ((w.alloc _).alloc _).heap.size = _
    simp
   have bf9 : (((w.alloc (Obj.cells #[.int .i64 a0_0, .slice A0_1 l0_1.length c0_1] 68)).alloc (Obj.cells #[.int .i64 a2] 3)).drewN m1).heap[w.heap.size]? = some (.cells #[.int .i64 a0_0, .slice A0_1 l0_1.length c0_1] 68 (0, 0)) := blk_drewN (blk_alloc (blk_new w _) _) _
   have bq9 : (((w.alloc (Obj.cells #[.int .i64 a0_0, .slice A0_1 l0_1.length c0_1] 68)).alloc (Obj.cells #[.int .i64 a2] 3)).drewN m1).heap[w.heap.size + 1]? = some (.cells #[.int .i64 a2] 3 (0, 0)) := blk_drewN (by
    have := blk_new (w.alloc (Obj.cells #[.int .i64 a0_0, .slice A0_1 l0_1.length c0_1] 68)) (Obj.cells #[.int .i64 a2] 3)
    rwa [World.size_alloc] at this) _
   have hb9 : Below w.heap.size w (((w.alloc (Obj.cells #[.int .i64 a0_0, .slice A0_1 l0_1.length c0_1] 68)).alloc (Obj.cells #[.int .i64 a2] 3)).drewN m1) := pw_below_drewN (((Below.refl _ w).alloc (Nat.le_refl _) _).alloc (by simp) _) _
   generalize (((w.alloc (Obj.cells #[.int .i64 a0_0, .slice A0_1 l0_1.length c0_1] 68)).alloc (Obj.cells #[.int .i64 a2] 3)).drewN m1) = W9 at s9 bf9 bq9 hb9 ⊢
   have bf10 := blk_alloc bf9 (Obj.cells #[Value.slice none 0 0] 25)
   have bq10 := blk_alloc bq9 (Obj.cells #[Value.slice none 0 0] 25)
   have bz10 := blk_new W9 (Obj.cells #[Value.slice none 0 0] 25)
   have hff0 := blk_cell bf10 0
   have hff1 := blk_cell bf10 1
   have hqq0 := blk_cell bq10 0
   have S9 := zm s9
   have BF10 := zm bf10
   have BQ10 := zm bq10
   have BZ10 := zm bz10
   have HB9 := zm hb9
   clear s9 bf9 bq9 bf10 bq10 bz10 hb9
   go_wp2_with (first | (go_at_call 71; refine (gf_Elements_calls _ _ _ _ _ _).mono ?_; rintro e w' ⟨rfl, rfl⟩))
   rename_i K hTail
   obtain ⟨N, rfl⟩ : ∃ N : Nat, a2 = (N : Int) := ⟨a2.toNat, by have := HQ.out.1; omega⟩
   generalize hw5 : ((W9.alloc (Obj.cells #[Value.slice none 0 0] 25)).alloc (Obj.cells #[Value.int .i64 a0_0, .slice A0_1 l0_1.length c0_1] 68)).alloc (Obj.cells #[Value.int .i64 (N : Int)] 3) = w5
   have s5 : w5.heap.size = W9.heap.size + 3 := by rw [← hw5]; simp
   have s9 := S9.out
   have hb5 : Below w.heap.size w w5 := by rw [← hw5]; exact ((HB9.out.alloc (by omega) _).alloc (by simp; omega) _).alloc (by simp; omega) _
   have b5f : w5.heap[w.heap.size]? = some (.cells #[.int .i64 a0_0, .slice A0_1 l0_1.length c0_1] 68 (0, 0)) := by rw [← hw5]; exact blk_alloc (blk_alloc BF10.out _) _
   have b5q : w5.heap[w.heap.size + 1]? = some (.cells #[.int .i64 (N : Int)] 3 (0, 0)) := by rw [← hw5]; exact blk_alloc (blk_alloc BQ10.out _) _
   have b5z : w5.heap[W9.heap.size]? = some (.cells #[.slice none 0 0] 25 (0, 0)) := by rw [← hw5]; exact blk_alloc (blk_alloc BZ10.out _) _
   have b5g : w5.heap[W9.heap.size + 1]? = some (.cells #[.int .i64 a0_0, .slice A0_1 l0_1.length c0_1] 68 (0, 0)) := by
    rw [← hw5]
    refine blk_alloc ?_ _
    have := blk_new (W9.alloc (Obj.cells #[Value.slice none 0 0] 25)) (Obj.cells #[Value.int .i64 a0_0, .slice A0_1 l0_1.length c0_1] 68)
    rwa [World.size_alloc] at this
   have b5p : w5.heap[W9.heap.size + 1 + 1]? = some (.cells #[.int .i64 (N : Int)] 3 (0, 0)) := by
    rw [← hw5]
    have := blk_new ((W9.alloc (Obj.cells #[Value.slice none 0 0] 25)).alloc (Obj.cells #[Value.int .i64 a0_0, .slice A0_1 l0_1.length c0_1] 68)) (Obj.cells #[Value.int .i64 (N : Int)] 3)
    rwa [World.size_alloc, World.size_alloc] at this
   have hI0 : RootI k a0_0 l0_1 A0_1 c0_1 (N : Int) zf w W9.heap.size w5.heap.size 0 w5 := ⟨⟨[], .slice none 0 0, ⟨k, HZ.out⟩, b5z, .inl ⟨rfl, rfl⟩⟩, b5q, b5f, hb5, Nat.le_refl _⟩
   have tailW : ∀ (D : Nat) (W : World) (v : Value), w5.heap.size ≤ D → W.heap[W9.heap.size]? = some (.cells #[v] 25 (0, 0)) → ZRow w5.heap.size W v zf →
     W.heap[w.heap.size]? = some (.cells #[.int .i64 a0_0, .slice A0_1 l0_1.length c0_1] 68 (0, 0)) → Below w.heap.size w W → W.heap[D]? = some (.deferred (some [])) → K { tmps := #[Value.agg #[.int .i64 a0_0, .slice A0_1 l0_1.length c0_1], .slice A1 l1.length c1, .int .i64 (N : Int), .pointer (some ⟨w.heap.size, 0, none⟩), undef, .pointer (some ⟨w.heap.size + 1, 0, none⟩), .slice none 0 0, .int .i64 o, .int .i64 s, .pointer (some ⟨W9.heap.size, 0, none⟩), undef, undef, undef, undef, undef, undef, .int .i64 (N : Int), .int .i64 (wrap64 ((N : Int) - 1)), .int .i64 o, .int .i64 (Int.tmod o 2), .bool false, u21, u22, u23, u24, Value.agg #[.int .i64 a0_0, .slice A0_1 l0_1.length c0_1], .int .i64 (N : Int), .func (.func 101) #[] #[.pointer (some ⟨W9.heap.size + 1 + 1, 0, none⟩), .pointer (some ⟨W9.heap.size + 1, 0, none⟩)], undef, undef, undef, undef, undef, undef, undef, undef, undef, undef, undef, undef, undef, undef, undef, undef, undef, undef, undef, undef, undef, undef, undef, undef, undef, undef, undef, undef, undef, undef, undef, undef, undef, undef, undef, undef, undef, undef, undef, undef, undef, undef, undef, undef, undef, undef, undef, undef, undef, undef, undef, undef, undef, undef, undef, undef, undef, undef, undef, undef, undef, undef, undef, undef], defers := [{ target := .collected D, args := #[] }] } W := by
    intro D W v hDs hz hr hf hb hD
    refine hTail _ _ ?_
    have hpos : w.heap.size ≤ W.heap.size := hb.size
    obtain ⟨Az, cz, hv, h5⟩ : ∃ Az cz, v = .slice Az zf.length cz ∧ Kd.V (Kd.int .i64) 3 W W.heap.size (fun k_ => (((((fun b => P1_ b ∧ b < w.heap.size) k_ ∨ (fun b => w.heap.size ≤ b ∧ b ≠ W9.heap.size ∧ b ≠ w.heap.size ∧ b ≠ D) k_) ∨ W.heap.size ≤ k_) ∧ k_ ≠ W9.heap.size) ∧ k_ ≠ w.heap.size)) v zf := by
     rcases hr with ⟨rfl, rfl⟩ | ⟨base, h1, h2⟩
     ·exact ⟨none, 0, rfl, Kd.V_nil _ _ _ _ _⟩
     obtain ⟨Az, cz, e⟩ := Kd.R_slice h2
     refine ⟨Az, cz, e, Kd.R_V (Kd.R_mono (Kd.R_bound h2) fun b hk => ?_)⟩
     obtain ⟨g1, _, _, q, _, cells, g2⟩ := hk
     have hne : b ≠ D := by
      rintro rfl
      rw [hD] at g2
      cases g2
     refine ⟨⟨.inl (.inr ⟨by omega, by omega, by omega, hne⟩), by omega⟩, by omega⟩
    subst hv
    have h1 : Kd.V (Kd.int .i64) 3 W W.heap.size (fun k_ => (((((fun b => P1_ b ∧ b < w.heap.size) k_ ∨ (fun b => w.heap.size ≤ b ∧ b ≠ W9.heap.size ∧ b ≠ w.heap.size ∧ b ≠ D) k_) ∨ W.heap.size ≤ k_) ∧ k_ ≠ W9.heap.size) ∧ k_ ≠ w.heap.size)) (.slice A1 l1.length c1) l1 :=
     Kd.V_map (Kd.V_mono (Kd.V_below (Kd.V_bound HS1.out) hb) fun b hk => ⟨⟨.inl (.inl hk), by have := hk.2; omega⟩, by have := hk.2; omega⟩) (fun _ hf => hf)
    have hDlt := (Array.getElem?_eq_some_iff.1 hD).1
    refine wp_mono (fi_rootTail.walk k a0_0 A0_1 c0_1 l0_1 (fun b => P1_ b ∧ b < w.heap.size) A1 c1 l1 (N : Int) o s (fun b => w.heap.size ≤ b ∧ b ≠ W9.heap.size ∧ b ≠ w.heap.size ∧ b ≠ D) Az cz zf r W W9.heap.size w.heap.size D _ (Kd.C_below HR.out hb) HC.out h1 h5 hz hf (by omega) HT.out hD ?_) noPanic_of
    intro v' W' hv' hb' hD'
    have hv2 : Kd.V (Kd.int .i64) 3 W' w.heap.size (fun k_ => (P1_ k_ ∨ w.heap.size ≤ k_) ∧ k_ ≠ D) v' r := Kd.V_map (Kd.V_mono hv' (ok' := fun k_ => (P1_ k_ ∨ w.heap.size ≤ k_) ∧ k_ ≠ D) (fun b hk => by
     rcases hk.1 with (h | h) | h
     ·exact ⟨.inl h.1, by have := h.2; omega⟩
     ·exact ⟨.inr h.1, h.2.2.2⟩
     exact ⟨.inr (by omega), by omega⟩)) (fun _ hf => hf)
    exact ⟨v', rfl, Kd.V_mono (V_putObj hv2 (fun b hb => hb.2)) (fun b hb => hb.1), below_putObj (hb.trans (hb'.mono hpos)) (Nat.le_refl _) (by omega)⟩
   refine wp_range (gf := 101) (lb := #[.pointer (some ⟨W9.heap.size + 1 + 1, 0, none⟩), .pointer (some ⟨W9.heap.size + 1, 0, none⟩)]) rfl (enters_of Try.func101 (by kernel_rfl) rfl)
    (Elements1_visits k (W9.heap.size + 1 + 1) (W9.heap.size + 1) a0_0 A0_1 c0_1 l0_1 (fun i => (gFElement.f k a0_0 l0_1 (i : Int)).getD []) HC.out N (by have := HQ.out.2; omega) w5 (W9.heap.size + 1) (W9.heap.size + 3) ⟨by omega, by omega⟩ ⟨by omega, by omega⟩ (by omega) b5p b5g)
    (Below.refl _ _) (by omega) (fun _ _ => rfl)
    (RootI k a0_0 l0_1 A0_1 c0_1 (N : Int) zf w W9.heap.size w5.heap.size) (fun cd _ W => RootX a0_0 l0_1 A0_1 c0_1 zf w W9.heap.size w5.heap.size cd W)
    (RootM k a0_0 l0_1 A0_1 c0_1 (N : Int) zf w W9.heap.size w5.heap.size)
    (fun i v => { tmps := #[Value.agg #[.int .i64 a0_0, .slice A0_1 l0_1.length c0_1], .slice A1 l1.length c1, .int .i64 (N : Int), .pointer (some ⟨w.heap.size, 0, none⟩), undef, .pointer (some ⟨w.heap.size + 1, 0, none⟩), .slice none 0 0, .int .i64 o, .int .i64 s, .pointer (some ⟨W9.heap.size, 0, none⟩), undef, undef, undef, undef, undef, undef, .int .i64 (N : Int), .int .i64 (wrap64 ((N : Int) - 1)), .int .i64 o, .int .i64 (Int.tmod o 2), .bool false, u21, u22, u23, u24, Value.agg #[.int .i64 a0_0, .slice A0_1 l0_1.length c0_1], .int .i64 (N : Int), .func (.func 101) #[] #[.pointer (some ⟨W9.heap.size + 1 + 1, 0, none⟩), .pointer (some ⟨W9.heap.size + 1, 0, none⟩)], .int .i64 (i : Int), v, undef, undef, undef, undef, undef, undef, undef, undef, undef, undef, undef, undef, undef, undef, undef, undef, undef, undef, undef, undef, undef, undef, undef, undef, undef, undef, undef, undef, undef, undef, undef, undef, undef, undef, undef, undef, undef, undef, undef, undef, undef, undef, undef, undef, undef, undef, undef, undef, undef, undef, undef, undef, undef, undef, undef, undef, undef, undef, undef, undef, undef, undef], defers := [] })
    (fun i A B h hb => h.after hb) ?ic (fun i A b o o' h hb ho hc => h.put (by omega) ho hc) (fun cd i A b o o' h hb ho hc => h.put (by omega) ho hc) (fun i v A b o o' h hb ho hc => h.put (by omega) ho hc) hI0 ?assign ?body ?done ?stop
   case ic =>
    rintro i W h
    refine ⟨Kd.C_below HR.out h.below, fun hi => ?_⟩
    obtain ⟨z, v, ⟨j, hj⟩, _⟩ := h.ex
    cases j with
    | zero => cases hj
    | succ j =>
     rw [fi_root.l0, if_pos (by omega)] at hj
     obtain ⟨a, ha, _⟩ := Option.bind_eq_some_iff.mp hj
     rw [ha]; rfl
   case assign =>
    intro l i v W K hi h1 h2 hK
    obtain ⟨base, g1, g2, g3⟩ := h2
    obtain ⟨z, v0, ⟨j, hj⟩, hz, _⟩ := h1.ex
    obtain ⟨Av, cv, rfl⟩ := Kd.R_slice g3
    have hzc := blk_cell hz 0
    have hzf := blk_frozen hz 0
    have H1 := zm h1
    have HZC := zm hz
    have G3 := zm g3
    have S5 := zm s5
    clear hz g3 h1 s9 s5
    gi_wp2
    have s9 := S9.out
    have s5 := S5.out
    have hne : ∀ b, b ≠ W9.heap.size → (W.setCell ⟨W9.heap.size, 0, none⟩ (.slice Av ((gFElement.f k a0_0 l0_1 (i : Int)).getD []).length cv)).heap[b]? = W.heap[b]? := fun b hb => Below.heap_setCell _ _ _ _ (by simpa using hb)
    refine hK _ (KeepsOthers.setCell _ _ _) ⟨by simp, fun b hb1 hb2 => hne b (by omega)⟩ ⟨⟨j, z, hj⟩, one_setCell HZC.out, ⟨base, g1, by simpa using g2, Kd.R_set G3.out HZC.out (by intro q hq; simp [Kd.int, Kd.scalar] at hq; omega) 0 _⟩, (hne _ (by omega)).trans H1.out.box, (hne _ (by omega)).trans H1.out.fld, H1.out.below.setCell (by first | (simp; done) | (simp; omega)) _, by simpa using H1.out.size⟩
   case body =>
    rintro l i v W hi h1
    obtain ⟨j, z, hj⟩ := h1.now
    obtain ⟨base, g1, g2, g3⟩ := h1.el
    cases j with
    | zero => cases hj
    | succ j =>
     rw [fi_root.l0, if_pos (by omega)] at hj
     obtain ⟨a, ha, hj⟩ := Option.bind_eq_some_iff.mp hj
     have g4 : Kd.R (Kd.int .i64) 3 W base (fun b => base ≤ b) v a := by
      have := g3
      dsimp only at this
      rw [ha] at this
      exact this
     clear g3
     obtain ⟨Av, cv, rfl⟩ := Kd.R_slice g4
     obtain ⟨_, hac, hca⟩ := Kd.R_reads' g4
     have hzc := blk_cell h1.cell 0
     have hqc := blk_cell h1.box 0
     have hf0 := blk_cell h1.fld 0
     have hf1 := blk_cell h1.fld 1
     have H1 := zm h1
     have G4 := zm g4
     have HCA := zm hca
     have HAC := zm hac
     have S5 := zm s5
     have HI := zm hi
     clear h1 g4 hca hac s5 s9 hi
     by_cases hl : (a.length : Int) > 0
     rotate_left
     ·rw [if_neg hl] at hj
      have c5b0 : decide ((0 : Int) < (a.length : Int)) = false := decide_eq_false hl
      have c5n : (0 < a.length) = False := eq_false (by omega)
      clear hl
      gi_wp2
      refine ⟨trivial, ?_⟩
      gi_wp2
      refine ⟨trivial, ?_⟩
      gi_wp2
      have hbX : Below W.heap.size W W := Below.refl _ _
      have s5 := S5.out
      exact ⟨keepsOthers_below hbX, Lie.below hbX (by have := H1.out.size; omega), ⟨a, .slice Av a.length cv, ⟨j, hj⟩, blk_below H1.out.cell hbX, .inr ⟨base, g1, Kd.R_below G4.out hbX⟩⟩, blk_below H1.out.box hbX, blk_below H1.out.fld hbX, H1.out.below.trans (hbX.mono H1.out.below.size), Nat.le_trans H1.out.size hbX.size⟩
     rw [if_pos hl] at hj
     obtain ⟨t, ht, hj⟩ := Option.bind_eq_some_iff.mp hj
     obtain ⟨b, hb, hj⟩ := Option.bind_eq_some_iff.mp hj
     have c5b0 : decide ((0 : Int) < (a.length : Int)) = true := decide_eq_true hl
     have c5n : (0 < a.length) = True := eq_true (by omega)
     clear hl
     cases b with
     | true =>
      rw [if_pos rfl] at hj
      gi_wp2
      refine ⟨trivial, (CallsIn.inRound l (callsIn_wide.2 (gFPow.calls k a0_0 _ _ l0_1 (fun b => base ≤ b) Av cv a _ t W (Kd.C_below HR.out H1.out.below) HC.out (Kd.R_V G4.out) ht))).mono ?_⟩
      rintro e W3 ⟨v3, rfl, hv3, hb3⟩
      obtain ⟨A3, c3, rfl⟩ := Kd.V_slice hv3
      have HV3 := zm hv3
      have HB3 := zm hb3
      clear hv3 hb3
      gi_wp2
      refine ⟨trivial, (CallsIn.inRound l (callsIn_wide.2 (gf_IsOne.calls A3 c3 t true W3 (Kd.V_reads' HV3.out).2.2 (Kd.V_reads' HV3.out).2.1 hb))).mono ?_⟩
      rintro e W4 ⟨rfl, ⟨nd, rfl⟩⟩
      gi_wp2
      have hbX : Below W.heap.size W (W3.drewN nd) := pw_below_drewN HB3.out nd
      have s5 := S5.out
      exact ⟨keepsOthers_below hbX, Lie.below hbX (by have := H1.out.size; omega), ⟨a, .slice Av a.length cv, ⟨j, hj⟩, blk_below H1.out.cell hbX, .inr ⟨base, g1, Kd.R_below G4.out hbX⟩⟩, blk_below H1.out.box hbX, blk_below H1.out.fld hbX, H1.out.below.trans (hbX.mono H1.out.below.size), Nat.le_trans H1.out.size hbX.size⟩
     | false =>
      rw [if_neg (by simp)] at hj
      obtain rfl := Option.some.inj hj
      gi_wp2
      refine ⟨trivial, (CallsIn.inRound l (callsIn_wide.2 (gFPow.calls k a0_0 _ _ l0_1 (fun b => base ≤ b) Av cv a _ t W (Kd.C_below HR.out H1.out.below) HC.out (Kd.R_V G4.out) ht))).mono ?_⟩
      rintro e W3 ⟨v3, rfl, hv3, hb3⟩
      obtain ⟨A3, c3, rfl⟩ := Kd.V_slice hv3
      have HV3 := zm hv3
      have HB3 := zm hb3
      clear hv3 hb3
      gi_wp2
      refine ⟨trivial, (CallsIn.inRound l (callsIn_wide.2 (gf_IsOne.calls A3 c3 t false W3 (Kd.V_reads' HV3.out).2.2 (Kd.V_reads' HV3.out).2.1 hb))).mono ?_⟩
      rintro e W4 ⟨rfl, ⟨nd, rfl⟩⟩
      gi_wp2
      have hbX : Below W.heap.size W (W3.drewN nd) := pw_below_drewN HB3.out nd
      have s5 := S5.out
      exact ⟨keepsOthers_below hbX, rfl, ⟨_, blk_below H1.out.cell hbX, .inr ⟨base, g1, Kd.R_below G4.out hbX⟩⟩, blk_below H1.out.fld hbX, H1.out.below.trans (hbX.mono H1.out.below.size)⟩
   case done =>
    intro D W hDs h1 hK
    obtain ⟨z, v, ⟨j, hj⟩, hz, hr⟩ := h1.ex
    cases j with
    | zero => cases hj
    | succ j =>
     rw [fi_root.l0, if_neg (by omega)] at hj
     obtain rfl := Option.some.inj hj
     exact tailW D W v hDs hz hr h1.fld h1.below hK
   case stop =>
    rintro D cd i W hDs hi h1 hK
    obtain rfl := h1.cd
    obtain ⟨v, hz, hr⟩ := h1.ex
    refine wp_exit ?_
    simp only [Exit.inBlock, if_true, Exit.then]
    exact tailW D W v hDs hz hr h1.fld h1.below hK
def fi_SquareRoot.f (k : Nat) (a0_0 : Int) (l0_1 : List Int) (l1 : List Int) : Option (List Int × Int) := (fi_check.f k a0_0 l0_1 (([l1] : List (List Int)))).bind fun t105 => (if t105 = 0 then ((fi_size.f k a0_0 l0_1 2147483647).bind fun bt106 => (if bt106.2 = 0 then (if a0_0 = 2 then ((gFPow.f k a0_0 l0_1 l1 (wrap64 (Int.tdiv bt106.1 2))).bind fun t109 => (some (t109, 0))) else (if (l1.length : Int) = 0 then (some (([] : List Int), 0)) else ((gFPow.f k a0_0 l0_1 l1 (wrap64 (Int.tdiv (wrap64 (bt106.1 - 1)) 2))).bind fun t112 => ((gf_IsOne.f t112).bind fun t115 => (if t115 = true then ((fi_root.f k a0_0 l0_1 l1 bt106.1).bind fun t116 => ((fp_Scale.f k a0_0 t116 (wrap64 (a0_0 - 1))).bind fun t119 => ((pm_Compare.f k t119 t116).bind fun t122 => (if t122 < 0 then (some (t119, 0)) else (some (t116, 0)))))) else (none)))))) else (none))) else (none))
theorem fi_SquareRoot.mono : ∀ a0 a1 a2 k, LeO (fi_SquareRoot.f k a0 a1 a2) (fi_SquareRoot.f (k + 1) a0 a1 a2) := by
 intro a0 a1 a2 k
 unfold fi_SquareRoot.f
 with_reducible repeat' first | exact fi_check.mono _ _ _ _ | exact fi_root.mono _ _ _ _ _ | exact fi_size.mono _ _ _ _ | exact fp_Scale.mono _ _ _ _ | exact gFPow.mono _ _ _ _ _ | exact pm_Compare.mono _ _ _ | exact LeO.refl _ | exact LeO.none _ | refine LeO.ite ?_ ?_ | refine LeO.bind ?_ (fun _ => ?_)
theorem fi_SquareRoot.calls (k : Nat) (a0_0 : Int) (A0_1 : Option Addr) (c0_1 : Nat) (l0_1 : List Int) (P1_ : Nat → Prop) (A1 : Option Addr) (c1 : Nat) (l1 : List Int) (r1 : List Int) (r2 : Int) (w : World) (hr0_1 : Kd.C (Kd.int .i64) w A0_1 l0_1.length l0_1) (hc0_1 : l0_1.length ≤ c0_1) (hs1 : Kd.V (Kd.int .i64) 3 w w.heap.size (fun k_ => P1_ k_) (.slice A1 l1.length c1) l1) (h : fi_SquareRoot.f k a0_0 l0_1 l1 = some (r1, r2)) :
  Calls Try.prog 17 #[.agg #[.int .i64 a0_0, .slice A0_1 l0_1.length c0_1], .slice A1 l1.length c1] w fun e w' => ∃ v0_ : Value, e = .returned (.tuple #[v0_, .int .i64 r2]) ∧ Kd.V (Kd.int .i64) 3 w' w.heap.size (fun k_ => (P1_ k_ ∨ w.heap.size ≤ k_)) v0_ r1 ∧ Below w.heap.size w w' := by
 have hu33 := Try.underlying33
 have hu68 := Try.underlying68
 have HR0_1 := zm hr0_1
 have HC0_1 := zm hc0_1
 clear hr0_1 hc0_1
 have HO1 := zm (show Kd.V (Kd.int .i64) 3 w w.heap.size (fun k_ => (P1_ k_ ∨ w.heap.size ≤ k_)) (.slice A1 l1.length c1) l1 from Kd.V_mono hs1 (fun k_ hk => .inl hk))
 have HB := zm (Below.refl w.heap.size w)
 have H := h; clear h; unfold fi_SquareRoot.f at H
 obtain ⟨y102, Ny102⟩ := zA ((([l1] : List (List Int))) : List (List Int)); rw [← Ny102.out] at H
 obtain ⟨t105, A3, H⟩ := zO H
 by_cases c4 : t105 = 0
 rotate_left
 ·rw [if_neg c4] at H
  exact absurd H (by simp)
 rw [if_pos c4] at H
 obtain ⟨c4b0, c4b1⟩ := zE c4; clear c4
 obtain ⟨⟨t106, t107⟩, A5, H⟩ := zO H; try dsimp only at H
 by_cases c6 : t107 = 0
 rotate_left
 ·rw [if_neg c6] at H
  exact absurd H (by simp)
 rw [if_pos c6] at H
 obtain ⟨c6b0, c6b1⟩ := zE c6; clear c6
 by_cases c7 : a0_0 = 2
 ·rw [if_pos c7] at H
  obtain ⟨c7b0, c7b1⟩ := zE c7; clear c7
  obtain ⟨t109, A8, H⟩ := zO H
  simp only [Option.some.injEq, Prod.mk.injEq] at H
  obtain ⟨rfl, rfl⟩ := H
  go_enter Try.func17, Try.ntmps17
  go_wp2_with (first | ((with_reducible refine gate_dst (N := 2) rfl ?_); refine zb 2 #[.int .i64 a0_0, .slice A0_1 l0_1.length c0_1] 33 ?_; intro gb101 hg w9 hbox hb; replace HO1 := zm (Kd.V_below (Kd.V_elderB (zV HO1.out) gb101 (Nat.le_of_eq hg.symm)) hb); have BK101 := zm (hbox); have GW101 := zg HB hg; have GE101 := GW101; replace HB := zBb HB hb; clear hb hbox hg; obtain ⟨hcz10_0, hcz10_1, hfz10_0, hfz10_1⟩ := zf2 BK101) | ((with_reducible refine gate_dst (N := 14) rfl ?_); refine Kd.N_lit (Kd.slice 3 (Kd.int .i64)) _ 25 ?hg (N' := 14) ?hd (xs := ([l1] : List (List Int))) (inner := [.slice A1 l1.length c1]) (ok := (fun k_ => (P1_ k_ ∨ w.heap.size ≤ k_) ∧ k_ ≠ gb101)) (okp := (fun k_ => (P1_ k_ ∨ w.heap.size ≤ k_) ∧ k_ ≠ gb101)) ?hr ?hp (fun _ hk => hk) ((show ∀ k_, w9.heap.size ≤ k_ → (fun k_ => (P1_ k_ ∨ w.heap.size ≤ k_) ∧ k_ ≠ gb101) k_ from fun k_ hk => ⟨(.inr (Nat.le_trans (zS HB) hk)), Kd.freshB (zK BK101.out) k_ hk⟩) _ (Nat.le_refl _)) (Below.refl _ _) (Nat.le_refl _) (by simp) ?_; (case hd => rfl); (case hg => rfl); (case hr => go_simp <;> rfl); (case hp => exact (Reps.one (show Kd.FK (Kd.slice 3 (Kd.int .i64)) _ _ l1 [.slice A1 l1.length c1] from (zFK HO1.out (fun k_ hk => ⟨hk.1, hk.2⟩))) (Reps.none _ _))); intro v103 w11 ho12 hb hg_ hnew_; clear hg_ hnew_; (first | rw [← Ny102.out] at ho12 | (simp only [Int.reduceToNat] at ho12; rw [← Ny102.out] at ho12)); replace HO1 := zm (Kd.V_elder' (zV HO1.out) (Kd.N_base ho12) hb); have HO104 := zm (Kd.N_lower ho12 (zS HB)); replace BK101 := zKb BK101 hb; replace HB := zBb HB hb; clear hb ho12; obtain ⟨Ao13, co13, eo13⟩ := Kd.N_slice HO104.out; subst eo13) | ((with_reducible refine gate_callee (f := 53) rfl ?_); refine zG (some 15) Try.func53 #[.agg #[.int .i64 a0_0, .slice A0_1 l0_1.length c0_1], .slice Ao13 y102.length co13] ?_; (with_reducible refine (fi_check.calls k a0_0 _ _ l0_1 _ _ y102 t105 _ (zC (Kd.C_below HR0_1.out HB.out)) HC0_1.out (zC ((Kd.N_reads' HO104.out).2.2)) ((Kd.N_reads' HO104.out).2.1) A3.out).mono ?_); rintro e w14 ⟨rfl, hb⟩; refine ⟨_, rfl, ?_⟩; replace HO1 := zVb HO1 hb; replace HO104 := zNb HO104 hb; replace BK101 := zKb BK101 hb; replace HB := zBb HB hb; obtain ⟨hcz15_0, hcz15_1, hfz15_0, hfz15_1⟩ := zf2 BK101) | ((with_reducible refine gate_callee (f := 51) rfl ?_); refine zG (some 21) Try.func51 #[.agg #[.int .i64 a0_0, .slice A0_1 l0_1.length c0_1], .int .i64 2147483647] ?_; (with_reducible refine (fi_size.calls k a0_0 _ _ l0_1 2147483647 t106 t107 _ (zC (Kd.C_below HR0_1.out HB.out)) HC0_1.out A5.out).mono ?_); rintro e w16 ⟨rfl, hb⟩; refine ⟨_, rfl, ?_⟩; replace HO1 := zVb HO1 hb; replace HO104 := zNb HO104 hb; replace BK101 := zKb BK101 hb; replace HB := zBb HB hb; obtain ⟨hcz17_0, hcz17_1, hfz17_0, hfz17_1⟩ := zf2 BK101) | ((with_reducible refine gate_dst (N := 9) rfl ?_); refine zb 9 #[.int .i64 0, .slice none 0 0] 68 ?_; intro gb108 hg w18 hbox hb; replace HO1 := zm (Kd.V_below (Kd.V_elderB (zV HO1.out) gb108 (Nat.le_of_eq hg.symm)) hb); replace HO104 := zm (Kd.N_below (Kd.N_elderB (zN HO104.out) gb108 (Nat.le_of_eq hg.symm)) hb); have BK108 := zm (hbox); have GW108 := zg HB hg; have GE108 := GW108; replace HB := zBb HB hb; have NB101_108 := zm ((by rw [hg]; exact Nat.ne_of_lt (blk_lt (zK BK101.out)) : gb101 ≠ gb108)); have NB108_101 := zm ((by rw [hg]; exact Nat.ne_of_gt (blk_lt (zK BK101.out)) : gb108 ≠ gb101)); replace BK101 := zKb BK101 hb; clear hb hbox hg; have hnb19 := NB108_101.out; have hnc19 := NB101_108.out; obtain ⟨hcz20_0, hcz20_1, hfz20_0, hfz20_1⟩ := zf2 BK108) | ((with_reducible refine gate_store (t := 68) (p := 9) rfl ?_); refine store_event (t := 68) (p := 9) (v := ?vo_w21) (w1 := ((w18.setCell ⟨gb108, 0, none⟩ (.int .i64 a0_0)).setCell ⟨gb108, 1, none⟩ (.slice A0_1 l0_1.length c0_1))) ?hg ?ho ?hn ?hr ?_; (case ho => rfl); (case hg => rfl); (case hn => rfl); (case hr => go_simp <;> rfl); intro w21 hw; replace HO1 : Aside0 (Kd.V (Kd.int .i64) 3 w21 w.heap.size (fun k_ => (P1_ k_ ∨ w.heap.size ≤ k_) ∧ some k_ ≠ (.slice Ao13 y102.length co13 : Value).ownBlock ∧ k_ ≠ gb101 ∧ k_ ≠ gb108) (.slice A1 l1.length c1) l1) := ⟨(by rw [hw]; exact (zV (Kd.V_mono (Kd.V_far (p := ⟨gb108, 1, none⟩) (Kd.V_far (p := ⟨gb108, 0, none⟩) (Kd.V_mono HO1.out (fun k_ hk => (⟨hk, hk.2⟩ : _ ∧ k_ ≠ gb108))) (fun _ hk => hk.2) (.int .i64 a0_0)) (fun _ hk => hk.2) (.slice A0_1 l0_1.length c0_1)) (fun _ hk => ⟨hk.1.1.1.1, ⟨hk.1.1.2, ⟨hk.1.1.1.2, hk.1.2⟩⟩⟩))))⟩; replace HO104 : Aside0 (Kd.N (Kd.slice 3 (Kd.int .i64)) 25 w21 w.heap.size (fun k_ => (P1_ k_ ∨ w.heap.size ≤ k_) ∧ k_ ≠ gb101 ∧ k_ ≠ gb108) (.slice Ao13 y102.length co13) y102) := ⟨(by rw [hw]; exact (zN (Kd.N_mono (Kd.N_far (p := ⟨gb108, 1, none⟩) (Kd.N_far (p := ⟨gb108, 0, none⟩) (Kd.N_mono HO104.out (fun k_ hk => (⟨hk, hk.2⟩ : _ ∧ k_ ≠ gb108))) (fun _ hk => hk.2) (.int .i64 a0_0)) (fun _ hk => hk.2) (.slice A0_1 l0_1.length c0_1)) (fun _ hk => ⟨hk.1.1.1, ⟨hk.1.1.2, hk.1.2⟩⟩))))⟩; replace BK101 : Aside0 (w21.heap[gb101]? = some (.cells #[.int .i64 a0_0, .slice A0_1 l0_1.length c0_1] 33 (0, 0))) := ⟨(by rw [hw]; exact (by (with_reducible repeat (first | refine blk_drewN ?_ _ | refine blk_drew ?_ | refine blk_alloc ?_ _)); refine blk_far ?_ NB101_108.out _; (with_reducible repeat (first | refine blk_drewN ?_ _ | refine blk_drew ?_ | refine blk_alloc ?_ _)); refine blk_far ?_ NB101_108.out _; (with_reducible repeat (first | refine blk_drewN ?_ _ | refine blk_drew ?_ | refine blk_alloc ?_ _)); exact BK101.out))⟩; replace BK108 : Aside0 (w21.heap[gb108]? = some (.cells #[.int .i64 a0_0, .slice A0_1 l0_1.length c0_1] 68 (0, 0))) := ⟨(by rw [hw]; exact (by (with_reducible repeat (first | refine blk_drewN ?_ _ | refine blk_drew ?_ | refine blk_alloc ?_ _)); refine blk_put (cs := #[.int .i64 a0_0, .slice none 0 0]) ?_ 1 _ rfl; (with_reducible repeat (first | refine blk_drewN ?_ _ | refine blk_drew ?_ | refine blk_alloc ?_ _)); refine blk_put (cs := #[.int .i64 0, .slice none 0 0]) ?_ 0 _ rfl; (with_reducible repeat (first | refine blk_drewN ?_ _ | refine blk_drew ?_ | refine blk_alloc ?_ _)); exact BK108.out))⟩; replace HB : Aside0 (Below w.heap.size w w21) := ⟨(by rw [hw]; exact (by repeat (first | (with_reducible first | exact HB.out | apply below_alloc | apply pw_below_drewN | apply below_drew1 | refine below_set ?_ GE101.out | refine below_set ?_ GE108.out) | exact HB.out)))⟩; clear hw; obtain ⟨hcz22_0, hcz22_1, hfz22_0, hfz22_1⟩ := zf2 BK101; obtain ⟨hcz23_0, hcz23_1, hfz23_0, hfz23_1⟩ := zf2 BK108) | ((with_reducible refine gate_callee (f := 54) rfl ?_); refine zG (some 36) Try.func54 #[.agg #[.int .i64 a0_0, .slice A0_1 l0_1.length c0_1], .slice A1 l1.length c1, .int .i64 (wrap64 (Int.tdiv t106 2))] ?_; (with_reducible refine (gFPow.calls k a0_0 _ _ l0_1 (fun k_ => ((P1_ k_ ∨ w.heap.size ≤ k_) ∧ (some k_ ≠ (.slice Ao13 y102.length co13 : Value).ownBlock ∧ (k_ ≠ gb101 ∧ k_ ≠ gb108)))) _ _ l1 (wrap64 (Int.tdiv t106 2)) t109 _ (zC (Kd.C_below HR0_1.out HB.out)) HC0_1.out HO1.out A8.out).mono ?_); rintro e w24 ⟨v110, rfl, ho0, hb⟩; refine ⟨_, rfl, ?_⟩; replace HO1 := zVb HO1 hb; have HO111 := zWV (fun k_ => (P1_ k_ ∨ w.heap.size ≤ k_) ∧ some k_ ≠ (.slice Ao13 y102.length co13 : Value).ownBlock ∧ k_ ≠ gb101 ∧ k_ ≠ gb108) ho0 HB (fun k_ hk_ => ⟨Or.elim hk_ (fun hs_ => hs_.1) (fun hn_ => (.inr (Nat.le_trans (zS HB) hn_))), Or.elim hk_ (fun hs_ => hs_.2.1) (fun hn_ => (Kd.fresh' (Kd.N_lt (zN HO104.out)) k_ hn_)), Or.elim hk_ (fun hs_ => hs_.2.2.1) (fun hn_ => (Kd.freshB (zK BK101.out) k_ hn_)), Or.elim hk_ (fun hs_ => hs_.2.2.2) (fun hn_ => (Kd.freshB (zK BK108.out) k_ hn_))⟩); replace HO104 := zNb HO104 hb; replace BK101 := zKb BK101 hb; replace BK108 := zKb BK108 hb; replace HB := zBb HB hb))
  go_ret2
  exact ⟨_, zQ, zV (Kd.V_mono HO111.out (fun _ hk => hk.1)), zT⟩
 rw [if_neg c7] at H
 obtain ⟨c7b0, c7b1⟩ := zU c7
 by_cases c25 : (l1.length : Int) = 0
 ·rw [if_pos c25] at H
  obtain ⟨c25b0, c25b1⟩ := zE c25; clear c25
  simp only [Option.some.injEq, Prod.mk.injEq] at H
  obtain ⟨rfl, rfl⟩ := H
  go_enter Try.func17, Try.ntmps17
  go_wp2_with (first | ((with_reducible refine gate_dst (N := 2) rfl ?_); refine zb 2 #[.int .i64 a0_0, .slice A0_1 l0_1.length c0_1] 33 ?_; intro gb101 hg w26 hbox hb; replace HO1 := zm (Kd.V_below (Kd.V_elderB (zV HO1.out) gb101 (Nat.le_of_eq hg.symm)) hb); have BK101 := zm (hbox); have GW101 := zg HB hg; have GE101 := GW101; replace HB := zBb HB hb; clear hb hbox hg; obtain ⟨hcz27_0, hcz27_1, hfz27_0, hfz27_1⟩ := zf2 BK101) | ((with_reducible refine gate_dst (N := 14) rfl ?_); refine Kd.N_lit (Kd.slice 3 (Kd.int .i64)) _ 25 ?hg (N' := 14) ?hd (xs := ([l1] : List (List Int))) (inner := [.slice A1 l1.length c1]) (ok := (fun k_ => (P1_ k_ ∨ w.heap.size ≤ k_) ∧ k_ ≠ gb101)) (okp := (fun k_ => (P1_ k_ ∨ w.heap.size ≤ k_) ∧ k_ ≠ gb101)) ?hr ?hp (fun _ hk => hk) ((show ∀ k_, w26.heap.size ≤ k_ → (fun k_ => (P1_ k_ ∨ w.heap.size ≤ k_) ∧ k_ ≠ gb101) k_ from fun k_ hk => ⟨(.inr (Nat.le_trans (zS HB) hk)), Kd.freshB (zK BK101.out) k_ hk⟩) _ (Nat.le_refl _)) (Below.refl _ _) (Nat.le_refl _) (by simp) ?_; (case hd => rfl); (case hg => rfl); (case hr => go_simp <;> rfl); (case hp => exact (Reps.one (show Kd.FK (Kd.slice 3 (Kd.int .i64)) _ _ l1 [.slice A1 l1.length c1] from (zFK HO1.out (fun k_ hk => ⟨hk.1, hk.2⟩))) (Reps.none _ _))); intro v103 w28 ho29 hb hg_ hnew_; clear hg_ hnew_; (first | rw [← Ny102.out] at ho29 | (simp only [Int.reduceToNat] at ho29; rw [← Ny102.out] at ho29)); replace HO1 := zm (Kd.V_elder' (zV HO1.out) (Kd.N_base ho29) hb); have HO104 := zm (Kd.N_lower ho29 (zS HB)); replace BK101 := zKb BK101 hb; replace HB := zBb HB hb; clear hb ho29; obtain ⟨Ao30, co30, eo30⟩ := Kd.N_slice HO104.out; subst eo30) | ((with_reducible refine gate_callee (f := 53) rfl ?_); refine zG (some 15) Try.func53 #[.agg #[.int .i64 a0_0, .slice A0_1 l0_1.length c0_1], .slice Ao30 y102.length co30] ?_; (with_reducible refine (fi_check.calls k a0_0 _ _ l0_1 _ _ y102 t105 _ (zC (Kd.C_below HR0_1.out HB.out)) HC0_1.out (zC ((Kd.N_reads' HO104.out).2.2)) ((Kd.N_reads' HO104.out).2.1) A3.out).mono ?_); rintro e w31 ⟨rfl, hb⟩; refine ⟨_, rfl, ?_⟩; replace HO1 := zVb HO1 hb; replace HO104 := zNb HO104 hb; replace BK101 := zKb BK101 hb; replace HB := zBb HB hb; obtain ⟨hcz32_0, hcz32_1, hfz32_0, hfz32_1⟩ := zf2 BK101) | ((with_reducible refine gate_callee (f := 51) rfl ?_); refine zG (some 21) Try.func51 #[.agg #[.int .i64 a0_0, .slice A0_1 l0_1.length c0_1], .int .i64 2147483647] ?_; (with_reducible refine (fi_size.calls k a0_0 _ _ l0_1 2147483647 t106 t107 _ (zC (Kd.C_below HR0_1.out HB.out)) HC0_1.out A5.out).mono ?_); rintro e w33 ⟨rfl, hb⟩; refine ⟨_, rfl, ?_⟩; replace HO1 := zVb HO1 hb; replace HO104 := zNb HO104 hb; replace BK101 := zKb BK101 hb; replace HB := zBb HB hb; obtain ⟨hcz34_0, hcz34_1, hfz34_0, hfz34_1⟩ := zf2 BK101) | ((with_reducible refine gate_dst (N := 9) rfl ?_); refine zb 9 #[.int .i64 0, .slice none 0 0] 68 ?_; intro gb108 hg w35 hbox hb; replace HO1 := zm (Kd.V_below (Kd.V_elderB (zV HO1.out) gb108 (Nat.le_of_eq hg.symm)) hb); replace HO104 := zm (Kd.N_below (Kd.N_elderB (zN HO104.out) gb108 (Nat.le_of_eq hg.symm)) hb); have BK108 := zm (hbox); have GW108 := zg HB hg; have GE108 := GW108; replace HB := zBb HB hb; have NB101_108 := zm ((by rw [hg]; exact Nat.ne_of_lt (blk_lt (zK BK101.out)) : gb101 ≠ gb108)); have NB108_101 := zm ((by rw [hg]; exact Nat.ne_of_gt (blk_lt (zK BK101.out)) : gb108 ≠ gb101)); replace BK101 := zKb BK101 hb; clear hb hbox hg; have hnb36 := NB108_101.out; have hnc36 := NB101_108.out; obtain ⟨hcz37_0, hcz37_1, hfz37_0, hfz37_1⟩ := zf2 BK108; obtain ⟨hcz38_0, hcz38_1, hfz38_0, hfz38_1⟩ := zf2 BK101))
  go_ret2
  exact ⟨_, zQ, zL, zT⟩
 rw [if_neg c25] at H
 obtain ⟨c25b0, c25b1⟩ := zU c25
 have c25b2 : ¬ (l1 = []) := fun h_ => c25 (by rw [h_]; rfl)
 obtain ⟨t112, A39, H⟩ := zO H
 obtain ⟨t115, A40, H⟩ := zO H
 by_cases c41 : t115 = true
 rotate_left
 ·replace c41 := Bool.eq_false_iff.mpr c41
  subst c41
  rw [if_neg Bool.false_ne_true] at H
  exact absurd H (by simp)
 subst c41
 rw [if_pos rfl] at H
 obtain ⟨t116, A42, H⟩ := zO H
 obtain ⟨t119, A43, H⟩ := zO H
 obtain ⟨t122, A44, H⟩ := zO H
 by_cases c45 : t122 < 0
 ·rw [if_pos c45] at H
  have c45b0 := decide_eq_true c45; clear c45
  simp only [Option.some.injEq, Prod.mk.injEq] at H
  obtain ⟨rfl, rfl⟩ := H
  go_enter Try.func17, Try.ntmps17
  go_wp2_with (first | ((with_reducible refine gate_dst (N := 2) rfl ?_); refine zb 2 #[.int .i64 a0_0, .slice A0_1 l0_1.length c0_1] 33 ?_; intro gb101 hg w46 hbox hb; replace HO1 := zm (Kd.V_below (Kd.V_elderB (zV HO1.out) gb101 (Nat.le_of_eq hg.symm)) hb); have BK101 := zm (hbox); have GW101 := zg HB hg; have GE101 := GW101; replace HB := zBb HB hb; clear hb hbox hg; obtain ⟨hcz47_0, hcz47_1, hfz47_0, hfz47_1⟩ := zf2 BK101) | ((with_reducible refine gate_dst (N := 14) rfl ?_); refine Kd.N_lit (Kd.slice 3 (Kd.int .i64)) _ 25 ?hg (N' := 14) ?hd (xs := ([l1] : List (List Int))) (inner := [.slice A1 l1.length c1]) (ok := (fun k_ => (P1_ k_ ∨ w.heap.size ≤ k_) ∧ k_ ≠ gb101)) (okp := (fun k_ => (P1_ k_ ∨ w.heap.size ≤ k_) ∧ k_ ≠ gb101)) ?hr ?hp (fun _ hk => hk) ((show ∀ k_, w46.heap.size ≤ k_ → (fun k_ => (P1_ k_ ∨ w.heap.size ≤ k_) ∧ k_ ≠ gb101) k_ from fun k_ hk => ⟨(.inr (Nat.le_trans (zS HB) hk)), Kd.freshB (zK BK101.out) k_ hk⟩) _ (Nat.le_refl _)) (Below.refl _ _) (Nat.le_refl _) (by simp) ?_; (case hd => rfl); (case hg => rfl); (case hr => go_simp <;> rfl); (case hp => exact (Reps.one (show Kd.FK (Kd.slice 3 (Kd.int .i64)) _ _ l1 [.slice A1 l1.length c1] from (zFK HO1.out (fun k_ hk => ⟨hk.1, hk.2⟩))) (Reps.none _ _))); intro v103 w48 ho49 hb hg_ hnew_; clear hg_ hnew_; (first | rw [← Ny102.out] at ho49 | (simp only [Int.reduceToNat] at ho49; rw [← Ny102.out] at ho49)); replace HO1 := zm (Kd.V_elder' (zV HO1.out) (Kd.N_base ho49) hb); have HO104 := zm (Kd.N_lower ho49 (zS HB)); replace BK101 := zKb BK101 hb; replace HB := zBb HB hb; clear hb ho49; obtain ⟨Ao50, co50, eo50⟩ := Kd.N_slice HO104.out; subst eo50) | ((with_reducible refine gate_callee (f := 53) rfl ?_); refine zG (some 15) Try.func53 #[.agg #[.int .i64 a0_0, .slice A0_1 l0_1.length c0_1], .slice Ao50 y102.length co50] ?_; (with_reducible refine (fi_check.calls k a0_0 _ _ l0_1 _ _ y102 t105 _ (zC (Kd.C_below HR0_1.out HB.out)) HC0_1.out (zC ((Kd.N_reads' HO104.out).2.2)) ((Kd.N_reads' HO104.out).2.1) A3.out).mono ?_); rintro e w51 ⟨rfl, hb⟩; refine ⟨_, rfl, ?_⟩; replace HO1 := zVb HO1 hb; replace HO104 := zNb HO104 hb; replace BK101 := zKb BK101 hb; replace HB := zBb HB hb; obtain ⟨hcz52_0, hcz52_1, hfz52_0, hfz52_1⟩ := zf2 BK101) | ((with_reducible refine gate_callee (f := 51) rfl ?_); refine zG (some 21) Try.func51 #[.agg #[.int .i64 a0_0, .slice A0_1 l0_1.length c0_1], .int .i64 2147483647] ?_; (with_reducible refine (fi_size.calls k a0_0 _ _ l0_1 2147483647 t106 t107 _ (zC (Kd.C_below HR0_1.out HB.out)) HC0_1.out A5.out).mono ?_); rintro e w53 ⟨rfl, hb⟩; refine ⟨_, rfl, ?_⟩; replace HO1 := zVb HO1 hb; replace HO104 := zNb HO104 hb; replace BK101 := zKb BK101 hb; replace HB := zBb HB hb; obtain ⟨hcz54_0, hcz54_1, hfz54_0, hfz54_1⟩ := zf2 BK101) | ((with_reducible refine gate_dst (N := 9) rfl ?_); refine zb 9 #[.int .i64 0, .slice none 0 0] 68 ?_; intro gb108 hg w55 hbox hb; replace HO1 := zm (Kd.V_below (Kd.V_elderB (zV HO1.out) gb108 (Nat.le_of_eq hg.symm)) hb); replace HO104 := zm (Kd.N_below (Kd.N_elderB (zN HO104.out) gb108 (Nat.le_of_eq hg.symm)) hb); have BK108 := zm (hbox); have GW108 := zg HB hg; have GE108 := GW108; replace HB := zBb HB hb; have NB101_108 := zm ((by rw [hg]; exact Nat.ne_of_lt (blk_lt (zK BK101.out)) : gb101 ≠ gb108)); have NB108_101 := zm ((by rw [hg]; exact Nat.ne_of_gt (blk_lt (zK BK101.out)) : gb108 ≠ gb101)); replace BK101 := zKb BK101 hb; clear hb hbox hg; have hnb56 := NB108_101.out; have hnc56 := NB101_108.out; obtain ⟨hcz57_0, hcz57_1, hfz57_0, hfz57_1⟩ := zf2 BK108) | ((with_reducible refine gate_store (t := 68) (p := 9) rfl ?_); refine store_event (t := 68) (p := 9) (v := ?vo_w58) (w1 := ((w55.setCell ⟨gb108, 0, none⟩ (.int .i64 a0_0)).setCell ⟨gb108, 1, none⟩ (.slice A0_1 l0_1.length c0_1))) ?hg ?ho ?hn ?hr ?_; (case ho => rfl); (case hg => rfl); (case hn => rfl); (case hr => go_simp <;> rfl); intro w58 hw; replace HO1 : Aside0 (Kd.V (Kd.int .i64) 3 w58 w.heap.size (fun k_ => (P1_ k_ ∨ w.heap.size ≤ k_) ∧ some k_ ≠ (.slice Ao50 y102.length co50 : Value).ownBlock ∧ k_ ≠ gb101 ∧ k_ ≠ gb108) (.slice A1 l1.length c1) l1) := ⟨(by rw [hw]; exact (zV (Kd.V_mono (Kd.V_far (p := ⟨gb108, 1, none⟩) (Kd.V_far (p := ⟨gb108, 0, none⟩) (Kd.V_mono HO1.out (fun k_ hk => (⟨hk, hk.2⟩ : _ ∧ k_ ≠ gb108))) (fun _ hk => hk.2) (.int .i64 a0_0)) (fun _ hk => hk.2) (.slice A0_1 l0_1.length c0_1)) (fun _ hk => ⟨hk.1.1.1.1, ⟨hk.1.1.2, ⟨hk.1.1.1.2, hk.1.2⟩⟩⟩))))⟩; replace HO104 : Aside0 (Kd.N (Kd.slice 3 (Kd.int .i64)) 25 w58 w.heap.size (fun k_ => (P1_ k_ ∨ w.heap.size ≤ k_) ∧ k_ ≠ gb101 ∧ k_ ≠ gb108) (.slice Ao50 y102.length co50) y102) := ⟨(by rw [hw]; exact (zN (Kd.N_mono (Kd.N_far (p := ⟨gb108, 1, none⟩) (Kd.N_far (p := ⟨gb108, 0, none⟩) (Kd.N_mono HO104.out (fun k_ hk => (⟨hk, hk.2⟩ : _ ∧ k_ ≠ gb108))) (fun _ hk => hk.2) (.int .i64 a0_0)) (fun _ hk => hk.2) (.slice A0_1 l0_1.length c0_1)) (fun _ hk => ⟨hk.1.1.1, ⟨hk.1.1.2, hk.1.2⟩⟩))))⟩; replace BK101 : Aside0 (w58.heap[gb101]? = some (.cells #[.int .i64 a0_0, .slice A0_1 l0_1.length c0_1] 33 (0, 0))) := ⟨(by rw [hw]; exact (by (with_reducible repeat (first | refine blk_drewN ?_ _ | refine blk_drew ?_ | refine blk_alloc ?_ _)); refine blk_far ?_ NB101_108.out _; (with_reducible repeat (first | refine blk_drewN ?_ _ | refine blk_drew ?_ | refine blk_alloc ?_ _)); refine blk_far ?_ NB101_108.out _; (with_reducible repeat (first | refine blk_drewN ?_ _ | refine blk_drew ?_ | refine blk_alloc ?_ _)); exact BK101.out))⟩; replace BK108 : Aside0 (w58.heap[gb108]? = some (.cells #[.int .i64 a0_0, .slice A0_1 l0_1.length c0_1] 68 (0, 0))) := ⟨(by rw [hw]; exact (by (with_reducible repeat (first | refine blk_drewN ?_ _ | refine blk_drew ?_ | refine blk_alloc ?_ _)); refine blk_put (cs := #[.int .i64 a0_0, .slice none 0 0]) ?_ 1 _ rfl; (with_reducible repeat (first | refine blk_drewN ?_ _ | refine blk_drew ?_ | refine blk_alloc ?_ _)); refine blk_put (cs := #[.int .i64 0, .slice none 0 0]) ?_ 0 _ rfl; (with_reducible repeat (first | refine blk_drewN ?_ _ | refine blk_drew ?_ | refine blk_alloc ?_ _)); exact BK108.out))⟩; replace HB : Aside0 (Below w.heap.size w w58) := ⟨(by rw [hw]; exact (by repeat (first | (with_reducible first | exact HB.out | apply below_alloc | apply pw_below_drewN | apply below_drew1 | refine below_set ?_ GE101.out | refine below_set ?_ GE108.out) | exact HB.out)))⟩; clear hw; obtain ⟨hcz59_0, hcz59_1, hfz59_0, hfz59_1⟩ := zf2 BK101; obtain ⟨hcz60_0, hcz60_1, hfz60_0, hfz60_1⟩ := zf2 BK108) | ((with_reducible refine gate_callee (f := 54) rfl ?_); refine zG (some 45) Try.func54 #[.agg #[.int .i64 a0_0, .slice A0_1 l0_1.length c0_1], .slice A1 l1.length c1, .int .i64 (wrap64 (Int.tdiv (wrap64 (t106 - 1)) 2))] ?_; (with_reducible refine (gFPow.calls k a0_0 _ _ l0_1 (fun k_ => ((P1_ k_ ∨ w.heap.size ≤ k_) ∧ (some k_ ≠ (.slice Ao50 y102.length co50 : Value).ownBlock ∧ (k_ ≠ gb101 ∧ k_ ≠ gb108)))) _ _ l1 (wrap64 (Int.tdiv (wrap64 (t106 - 1)) 2)) t112 _ (zC (Kd.C_below HR0_1.out HB.out)) HC0_1.out HO1.out A39.out).mono ?_); rintro e w61 ⟨v113, rfl, ho0, hb⟩; refine ⟨_, rfl, ?_⟩; replace HO1 := zVb HO1 hb; have HO114 := zWV (fun k_ => (P1_ k_ ∨ w.heap.size ≤ k_) ∧ some k_ ≠ (.slice Ao50 y102.length co50 : Value).ownBlock ∧ k_ ≠ gb101 ∧ k_ ≠ gb108) ho0 HB (fun k_ hk_ => ⟨Or.elim hk_ (fun hs_ => hs_.1) (fun hn_ => (.inr (Nat.le_trans (zS HB) hn_))), Or.elim hk_ (fun hs_ => hs_.2.1) (fun hn_ => (Kd.fresh' (Kd.N_lt (zN HO104.out)) k_ hn_)), Or.elim hk_ (fun hs_ => hs_.2.2.1) (fun hn_ => (Kd.freshB (zK BK101.out) k_ hn_)), Or.elim hk_ (fun hs_ => hs_.2.2.2) (fun hn_ => (Kd.freshB (zK BK108.out) k_ hn_))⟩); replace HO104 := zNb HO104 hb; replace BK101 := zKb BK101 hb; replace BK108 := zKb BK108 hb; replace HB := zBb HB hb; obtain ⟨Ao62, co62, eo62⟩ := Kd.V_slice HO114.out; subst eo62) | ((with_reducible refine gate_callee (f := 55) rfl ?_); refine zG (some 46) Try.func55 #[.slice Ao62 t112.length co62] ?_; (with_reducible refine (gf_IsOne.calls _ _ t112 true _ (zC ((Kd.V_reads' HO114.out).2.2)) ((Kd.V_reads' HO114.out).2.1) A40.out).mono ?_); rintro e w' ⟨rfl, ⟨nd, rfl⟩⟩; refine ⟨_, rfl, ?_⟩; obtain ⟨hcz63_0, hcz63_1, hfz63_0, hfz63_1⟩ := zf2 BK108) | ((with_reducible refine gate_callee (f := 56) rfl ?_); refine zG (some 51) Try.func56 #[.agg #[.int .i64 a0_0, .slice A0_1 l0_1.length c0_1], .slice A1 l1.length c1, .int .i64 t106] ?_; (with_reducible refine (fi_root.calls k a0_0 _ _ l0_1 (fun k_ => ((P1_ k_ ∨ w.heap.size ≤ k_) ∧ (some k_ ≠ (.slice Ao50 y102.length co50 : Value).ownBlock ∧ (k_ ≠ gb101 ∧ k_ ≠ gb108)))) _ _ l1 t106 t116 _ ?side1 ?side2 ?side3 A42.out).mono ?_); (case side1 => exact zC ((Kd.C_below HR0_1.out (zT)))); (case side2 => exact HC0_1.out); (case side3 => exact HO1.out); rintro e w64 ⟨v117, rfl, ho0, hb⟩; refine ⟨_, rfl, ?_⟩; replace HO1 := zVb HO1 hb; replace HO114 := zVb HO114 hb; have HO118 := zWV (fun k_ => (P1_ k_ ∨ w.heap.size ≤ k_) ∧ some k_ ≠ (.slice Ao50 y102.length co50 : Value).ownBlock ∧ k_ ≠ gb101 ∧ k_ ≠ gb108) ho0 HB (fun k_ hk_ => ⟨Or.elim hk_ (fun hs_ => hs_.1) (fun hn_ => (.inr (Nat.le_trans (zS HB) hn_))), Or.elim hk_ (fun hs_ => hs_.2.1) (fun hn_ => (Kd.fresh' (Kd.N_lt (zN HO104.out)) k_ hn_)), Or.elim hk_ (fun hs_ => hs_.2.2.1) (fun hn_ => (Kd.freshB (zK BK101.out) k_ hn_)), Or.elim hk_ (fun hs_ => hs_.2.2.2) (fun hn_ => (Kd.freshB (zK BK108.out) k_ hn_))⟩); replace HO104 := zNb HO104 hb; replace BK101 := zKb BK101 hb; replace BK108 := zKb BK108 hb; replace HB := zBb HB hb; obtain ⟨hcz65_0, hcz65_1, hfz65_0, hfz65_1⟩ := zf2 BK101; obtain ⟨Ao66, co66, eo66⟩ := Kd.V_slice HO118.out; subst eo66) | ((with_reducible refine gate_callee (f := 57) rfl ?_); refine zG (some 58) Try.func57 #[.int .i64 a0_0, .slice Ao66 t116.length co66, .int .i64 (wrap64 (a0_0 - 1))] ?_; (with_reducible refine (fp_Scale.calls k a0_0 _ _ t116 (wrap64 (a0_0 - 1)) t119 _ (zC ((Kd.V_reads' HO118.out).2.2)) ((Kd.V_reads' HO118.out).2.1) A43.out).mono ?_); rintro e w67 ⟨v120, rfl, ho0, hb⟩; refine ⟨_, rfl, ?_⟩; replace HO1 := zVb HO1 hb; replace HO114 := zVb HO114 hb; replace HO118 := zVb HO118 hb; have HO121 := zWV (fun k_ => (P1_ k_ ∨ w.heap.size ≤ k_) ∧ some k_ ≠ (.slice Ao50 y102.length co50 : Value).ownBlock ∧ k_ ≠ gb101 ∧ k_ ≠ gb108) ho0 HB (fun k_ hk_ => ⟨(.inr (Nat.le_trans (zS HB) hk_)), (Kd.fresh' (Kd.N_lt (zN HO104.out)) k_ hk_), (Kd.freshB (zK BK101.out) k_ hk_), (Kd.freshB (zK BK108.out) k_ hk_)⟩); replace HO104 := zNb HO104 hb; replace BK101 := zKb BK101 hb; replace BK108 := zKb BK108 hb; replace HB := zBb HB hb; obtain ⟨Ao68, co68, eo68⟩ := Kd.V_slice HO121.out; subst eo68) | ((with_reducible refine gate_callee (f := 58) rfl ?_); refine zG (some 61) Try.func58 #[.slice Ao68 t119.length co68, .slice Ao66 t116.length co66] ?_; (with_reducible refine (pm_Compare.calls k _ _ t119 _ _ t116 t122 _ (zC ((Kd.V_reads' HO121.out).2.2)) ((Kd.V_reads' HO121.out).2.1) (zC ((Kd.V_reads' HO118.out).2.2)) ((Kd.V_reads' HO118.out).2.1) A44.out).mono ?_); rintro e w' ⟨rfl, ⟨nd, rfl⟩⟩; refine ⟨_, rfl, ?_⟩))
  go_ret2
  exact ⟨_, zQ, zV (Kd.V_mono HO121.out (fun _ hk => hk.1)), zT⟩
 rw [if_neg c45] at H
 have c45b0 := decide_eq_false c45; clear c45
 simp only [Option.some.injEq, Prod.mk.injEq] at H
 obtain ⟨rfl, rfl⟩ := H
 go_enter Try.func17, Try.ntmps17
 go_wp2_with (first | ((with_reducible refine gate_dst (N := 2) rfl ?_); refine zb 2 #[.int .i64 a0_0, .slice A0_1 l0_1.length c0_1] 33 ?_; intro gb101 hg w69 hbox hb; replace HO1 := zm (Kd.V_below (Kd.V_elderB (zV HO1.out) gb101 (Nat.le_of_eq hg.symm)) hb); have BK101 := zm (hbox); have GW101 := zg HB hg; have GE101 := GW101; replace HB := zBb HB hb; clear hb hbox hg; obtain ⟨hcz70_0, hcz70_1, hfz70_0, hfz70_1⟩ := zf2 BK101) | ((with_reducible refine gate_dst (N := 14) rfl ?_); refine Kd.N_lit (Kd.slice 3 (Kd.int .i64)) _ 25 ?hg (N' := 14) ?hd (xs := ([l1] : List (List Int))) (inner := [.slice A1 l1.length c1]) (ok := (fun k_ => (P1_ k_ ∨ w.heap.size ≤ k_) ∧ k_ ≠ gb101)) (okp := (fun k_ => (P1_ k_ ∨ w.heap.size ≤ k_) ∧ k_ ≠ gb101)) ?hr ?hp (fun _ hk => hk) ((show ∀ k_, w69.heap.size ≤ k_ → (fun k_ => (P1_ k_ ∨ w.heap.size ≤ k_) ∧ k_ ≠ gb101) k_ from fun k_ hk => ⟨(.inr (Nat.le_trans (zS HB) hk)), Kd.freshB (zK BK101.out) k_ hk⟩) _ (Nat.le_refl _)) (Below.refl _ _) (Nat.le_refl _) (by simp) ?_; (case hd => rfl); (case hg => rfl); (case hr => go_simp <;> rfl); (case hp => exact (Reps.one (show Kd.FK (Kd.slice 3 (Kd.int .i64)) _ _ l1 [.slice A1 l1.length c1] from (zFK HO1.out (fun k_ hk => ⟨hk.1, hk.2⟩))) (Reps.none _ _))); intro v103 w71 ho72 hb hg_ hnew_; clear hg_ hnew_; (first | rw [← Ny102.out] at ho72 | (simp only [Int.reduceToNat] at ho72; rw [← Ny102.out] at ho72)); replace HO1 := zm (Kd.V_elder' (zV HO1.out) (Kd.N_base ho72) hb); have HO104 := zm (Kd.N_lower ho72 (zS HB)); replace BK101 := zKb BK101 hb; replace HB := zBb HB hb; clear hb ho72; obtain ⟨Ao73, co73, eo73⟩ := Kd.N_slice HO104.out; subst eo73) | ((with_reducible refine gate_callee (f := 53) rfl ?_); refine zG (some 15) Try.func53 #[.agg #[.int .i64 a0_0, .slice A0_1 l0_1.length c0_1], .slice Ao73 y102.length co73] ?_; (with_reducible refine (fi_check.calls k a0_0 _ _ l0_1 _ _ y102 t105 _ (zC (Kd.C_below HR0_1.out HB.out)) HC0_1.out (zC ((Kd.N_reads' HO104.out).2.2)) ((Kd.N_reads' HO104.out).2.1) A3.out).mono ?_); rintro e w74 ⟨rfl, hb⟩; refine ⟨_, rfl, ?_⟩; replace HO1 := zVb HO1 hb; replace HO104 := zNb HO104 hb; replace BK101 := zKb BK101 hb; replace HB := zBb HB hb; obtain ⟨hcz75_0, hcz75_1, hfz75_0, hfz75_1⟩ := zf2 BK101) | ((with_reducible refine gate_callee (f := 51) rfl ?_); refine zG (some 21) Try.func51 #[.agg #[.int .i64 a0_0, .slice A0_1 l0_1.length c0_1], .int .i64 2147483647] ?_; (with_reducible refine (fi_size.calls k a0_0 _ _ l0_1 2147483647 t106 t107 _ (zC (Kd.C_below HR0_1.out HB.out)) HC0_1.out A5.out).mono ?_); rintro e w76 ⟨rfl, hb⟩; refine ⟨_, rfl, ?_⟩; replace HO1 := zVb HO1 hb; replace HO104 := zNb HO104 hb; replace BK101 := zKb BK101 hb; replace HB := zBb HB hb; obtain ⟨hcz77_0, hcz77_1, hfz77_0, hfz77_1⟩ := zf2 BK101) | ((with_reducible refine gate_dst (N := 9) rfl ?_); refine zb 9 #[.int .i64 0, .slice none 0 0] 68 ?_; intro gb108 hg w78 hbox hb; replace HO1 := zm (Kd.V_below (Kd.V_elderB (zV HO1.out) gb108 (Nat.le_of_eq hg.symm)) hb); replace HO104 := zm (Kd.N_below (Kd.N_elderB (zN HO104.out) gb108 (Nat.le_of_eq hg.symm)) hb); have BK108 := zm (hbox); have GW108 := zg HB hg; have GE108 := GW108; replace HB := zBb HB hb; have NB101_108 := zm ((by rw [hg]; exact Nat.ne_of_lt (blk_lt (zK BK101.out)) : gb101 ≠ gb108)); have NB108_101 := zm ((by rw [hg]; exact Nat.ne_of_gt (blk_lt (zK BK101.out)) : gb108 ≠ gb101)); replace BK101 := zKb BK101 hb; clear hb hbox hg; have hnb79 := NB108_101.out; have hnc79 := NB101_108.out; obtain ⟨hcz80_0, hcz80_1, hfz80_0, hfz80_1⟩ := zf2 BK108) | ((with_reducible refine gate_store (t := 68) (p := 9) rfl ?_); refine store_event (t := 68) (p := 9) (v := ?vo_w81) (w1 := ((w78.setCell ⟨gb108, 0, none⟩ (.int .i64 a0_0)).setCell ⟨gb108, 1, none⟩ (.slice A0_1 l0_1.length c0_1))) ?hg ?ho ?hn ?hr ?_; (case ho => rfl); (case hg => rfl); (case hn => rfl); (case hr => go_simp <;> rfl); intro w81 hw; replace HO1 : Aside0 (Kd.V (Kd.int .i64) 3 w81 w.heap.size (fun k_ => (P1_ k_ ∨ w.heap.size ≤ k_) ∧ some k_ ≠ (.slice Ao73 y102.length co73 : Value).ownBlock ∧ k_ ≠ gb101 ∧ k_ ≠ gb108) (.slice A1 l1.length c1) l1) := ⟨(by rw [hw]; exact (zV (Kd.V_mono (Kd.V_far (p := ⟨gb108, 1, none⟩) (Kd.V_far (p := ⟨gb108, 0, none⟩) (Kd.V_mono HO1.out (fun k_ hk => (⟨hk, hk.2⟩ : _ ∧ k_ ≠ gb108))) (fun _ hk => hk.2) (.int .i64 a0_0)) (fun _ hk => hk.2) (.slice A0_1 l0_1.length c0_1)) (fun _ hk => ⟨hk.1.1.1.1, ⟨hk.1.1.2, ⟨hk.1.1.1.2, hk.1.2⟩⟩⟩))))⟩; replace HO104 : Aside0 (Kd.N (Kd.slice 3 (Kd.int .i64)) 25 w81 w.heap.size (fun k_ => (P1_ k_ ∨ w.heap.size ≤ k_) ∧ k_ ≠ gb101 ∧ k_ ≠ gb108) (.slice Ao73 y102.length co73) y102) := ⟨(by rw [hw]; exact (zN (Kd.N_mono (Kd.N_far (p := ⟨gb108, 1, none⟩) (Kd.N_far (p := ⟨gb108, 0, none⟩) (Kd.N_mono HO104.out (fun k_ hk => (⟨hk, hk.2⟩ : _ ∧ k_ ≠ gb108))) (fun _ hk => hk.2) (.int .i64 a0_0)) (fun _ hk => hk.2) (.slice A0_1 l0_1.length c0_1)) (fun _ hk => ⟨hk.1.1.1, ⟨hk.1.1.2, hk.1.2⟩⟩))))⟩; replace BK101 : Aside0 (w81.heap[gb101]? = some (.cells #[.int .i64 a0_0, .slice A0_1 l0_1.length c0_1] 33 (0, 0))) := ⟨(by rw [hw]; exact (by (with_reducible repeat (first | refine blk_drewN ?_ _ | refine blk_drew ?_ | refine blk_alloc ?_ _)); refine blk_far ?_ NB101_108.out _; (with_reducible repeat (first | refine blk_drewN ?_ _ | refine blk_drew ?_ | refine blk_alloc ?_ _)); refine blk_far ?_ NB101_108.out _; (with_reducible repeat (first | refine blk_drewN ?_ _ | refine blk_drew ?_ | refine blk_alloc ?_ _)); exact BK101.out))⟩; replace BK108 : Aside0 (w81.heap[gb108]? = some (.cells #[.int .i64 a0_0, .slice A0_1 l0_1.length c0_1] 68 (0, 0))) := ⟨(by rw [hw]; exact (by (with_reducible repeat (first | refine blk_drewN ?_ _ | refine blk_drew ?_ | refine blk_alloc ?_ _)); refine blk_put (cs := #[.int .i64 a0_0, .slice none 0 0]) ?_ 1 _ rfl; (with_reducible repeat (first | refine blk_drewN ?_ _ | refine blk_drew ?_ | refine blk_alloc ?_ _)); refine blk_put (cs := #[.int .i64 0, .slice none 0 0]) ?_ 0 _ rfl; (with_reducible repeat (first | refine blk_drewN ?_ _ | refine blk_drew ?_ | refine blk_alloc ?_ _)); exact BK108.out))⟩; replace HB : Aside0 (Below w.heap.size w w81) := ⟨(by rw [hw]; exact (by repeat (first | (with_reducible first | exact HB.out | apply below_alloc | apply pw_below_drewN | apply below_drew1 | refine below_set ?_ GE101.out | refine below_set ?_ GE108.out) | exact HB.out)))⟩; clear hw; obtain ⟨hcz82_0, hcz82_1, hfz82_0, hfz82_1⟩ := zf2 BK101; obtain ⟨hcz83_0, hcz83_1, hfz83_0, hfz83_1⟩ := zf2 BK108) | ((with_reducible refine gate_callee (f := 54) rfl ?_); refine zG (some 45) Try.func54 #[.agg #[.int .i64 a0_0, .slice A0_1 l0_1.length c0_1], .slice A1 l1.length c1, .int .i64 (wrap64 (Int.tdiv (wrap64 (t106 - 1)) 2))] ?_; (with_reducible refine (gFPow.calls k a0_0 _ _ l0_1 (fun k_ => ((P1_ k_ ∨ w.heap.size ≤ k_) ∧ (some k_ ≠ (.slice Ao73 y102.length co73 : Value).ownBlock ∧ (k_ ≠ gb101 ∧ k_ ≠ gb108)))) _ _ l1 (wrap64 (Int.tdiv (wrap64 (t106 - 1)) 2)) t112 _ (zC (Kd.C_below HR0_1.out HB.out)) HC0_1.out HO1.out A39.out).mono ?_); rintro e w84 ⟨v113, rfl, ho0, hb⟩; refine ⟨_, rfl, ?_⟩; replace HO1 := zVb HO1 hb; have HO114 := zWV (fun k_ => (P1_ k_ ∨ w.heap.size ≤ k_) ∧ some k_ ≠ (.slice Ao73 y102.length co73 : Value).ownBlock ∧ k_ ≠ gb101 ∧ k_ ≠ gb108) ho0 HB (fun k_ hk_ => ⟨Or.elim hk_ (fun hs_ => hs_.1) (fun hn_ => (.inr (Nat.le_trans (zS HB) hn_))), Or.elim hk_ (fun hs_ => hs_.2.1) (fun hn_ => (Kd.fresh' (Kd.N_lt (zN HO104.out)) k_ hn_)), Or.elim hk_ (fun hs_ => hs_.2.2.1) (fun hn_ => (Kd.freshB (zK BK101.out) k_ hn_)), Or.elim hk_ (fun hs_ => hs_.2.2.2) (fun hn_ => (Kd.freshB (zK BK108.out) k_ hn_))⟩); replace HO104 := zNb HO104 hb; replace BK101 := zKb BK101 hb; replace BK108 := zKb BK108 hb; replace HB := zBb HB hb; obtain ⟨Ao85, co85, eo85⟩ := Kd.V_slice HO114.out; subst eo85) | ((with_reducible refine gate_callee (f := 55) rfl ?_); refine zG (some 46) Try.func55 #[.slice Ao85 t112.length co85] ?_; (with_reducible refine (gf_IsOne.calls _ _ t112 true _ (zC ((Kd.V_reads' HO114.out).2.2)) ((Kd.V_reads' HO114.out).2.1) A40.out).mono ?_); rintro e w' ⟨rfl, ⟨nd, rfl⟩⟩; refine ⟨_, rfl, ?_⟩; obtain ⟨hcz86_0, hcz86_1, hfz86_0, hfz86_1⟩ := zf2 BK108) | ((with_reducible refine gate_callee (f := 56) rfl ?_); refine zG (some 51) Try.func56 #[.agg #[.int .i64 a0_0, .slice A0_1 l0_1.length c0_1], .slice A1 l1.length c1, .int .i64 t106] ?_; (with_reducible refine (fi_root.calls k a0_0 _ _ l0_1 (fun k_ => ((P1_ k_ ∨ w.heap.size ≤ k_) ∧ (some k_ ≠ (.slice Ao73 y102.length co73 : Value).ownBlock ∧ (k_ ≠ gb101 ∧ k_ ≠ gb108)))) _ _ l1 t106 t116 _ ?side1 ?side2 ?side3 A42.out).mono ?_); (case side1 => exact zC ((Kd.C_below HR0_1.out (zT)))); (case side2 => exact HC0_1.out); (case side3 => exact HO1.out); rintro e w87 ⟨v117, rfl, ho0, hb⟩; refine ⟨_, rfl, ?_⟩; replace HO1 := zVb HO1 hb; replace HO114 := zVb HO114 hb; have HO118 := zWV (fun k_ => (P1_ k_ ∨ w.heap.size ≤ k_) ∧ some k_ ≠ (.slice Ao73 y102.length co73 : Value).ownBlock ∧ k_ ≠ gb101 ∧ k_ ≠ gb108) ho0 HB (fun k_ hk_ => ⟨Or.elim hk_ (fun hs_ => hs_.1) (fun hn_ => (.inr (Nat.le_trans (zS HB) hn_))), Or.elim hk_ (fun hs_ => hs_.2.1) (fun hn_ => (Kd.fresh' (Kd.N_lt (zN HO104.out)) k_ hn_)), Or.elim hk_ (fun hs_ => hs_.2.2.1) (fun hn_ => (Kd.freshB (zK BK101.out) k_ hn_)), Or.elim hk_ (fun hs_ => hs_.2.2.2) (fun hn_ => (Kd.freshB (zK BK108.out) k_ hn_))⟩); replace HO104 := zNb HO104 hb; replace BK101 := zKb BK101 hb; replace BK108 := zKb BK108 hb; replace HB := zBb HB hb; obtain ⟨hcz88_0, hcz88_1, hfz88_0, hfz88_1⟩ := zf2 BK101; obtain ⟨Ao89, co89, eo89⟩ := Kd.V_slice HO118.out; subst eo89) | ((with_reducible refine gate_callee (f := 57) rfl ?_); refine zG (some 58) Try.func57 #[.int .i64 a0_0, .slice Ao89 t116.length co89, .int .i64 (wrap64 (a0_0 - 1))] ?_; (with_reducible refine (fp_Scale.calls k a0_0 _ _ t116 (wrap64 (a0_0 - 1)) t119 _ (zC ((Kd.V_reads' HO118.out).2.2)) ((Kd.V_reads' HO118.out).2.1) A43.out).mono ?_); rintro e w90 ⟨v120, rfl, ho0, hb⟩; refine ⟨_, rfl, ?_⟩; replace HO1 := zVb HO1 hb; replace HO114 := zVb HO114 hb; replace HO118 := zVb HO118 hb; have HO121 := zWV (fun k_ => (P1_ k_ ∨ w.heap.size ≤ k_) ∧ some k_ ≠ (.slice Ao73 y102.length co73 : Value).ownBlock ∧ k_ ≠ gb101 ∧ k_ ≠ gb108) ho0 HB (fun k_ hk_ => ⟨(.inr (Nat.le_trans (zS HB) hk_)), (Kd.fresh' (Kd.N_lt (zN HO104.out)) k_ hk_), (Kd.freshB (zK BK101.out) k_ hk_), (Kd.freshB (zK BK108.out) k_ hk_)⟩); replace HO104 := zNb HO104 hb; replace BK101 := zKb BK101 hb; replace BK108 := zKb BK108 hb; replace HB := zBb HB hb; obtain ⟨Ao91, co91, eo91⟩ := Kd.V_slice HO121.out; subst eo91) | ((with_reducible refine gate_callee (f := 58) rfl ?_); refine zG (some 61) Try.func58 #[.slice Ao91 t119.length co91, .slice Ao89 t116.length co89] ?_; (with_reducible refine (pm_Compare.calls k _ _ t119 _ _ t116 t122 _ (zC ((Kd.V_reads' HO121.out).2.2)) ((Kd.V_reads' HO121.out).2.1) (zC ((Kd.V_reads' HO118.out).2.2)) ((Kd.V_reads' HO118.out).2.1) A44.out).mono ?_); rintro e w' ⟨rfl, ⟨nd, rfl⟩⟩; refine ⟨_, rfl, ?_⟩))
 go_ret2
 exact ⟨_, zQ, zV (Kd.V_mono HO118.out (fun _ hk => hk.1)), zT⟩
def l15awake.j0 : Nat → List Int → List Int → List Int → List Int → List Int → Bool → Option (Bool)
 | 0, _, _, _, _, _, _ => none
 | k + 1, x1, x3, x7, x9, x11, x72 => if x72 = true then (none) else ((r9Same.f k x1 (([1, 1] : List Int))).bind fun t161 => (if t161 = true then ((r9Same.f k x3 (([1, 1] : List Int))).bind fun t165 => (if t165 = true then ((r9Same.f k x7 (([1, 0, 1, 1] : List Int))).bind fun t169 => (if t169 = true then ((r9Same.f k x9 (([1, 1] : List Int))).bind fun t173 => (if t173 = true then ((r9Same.f k x11 (([0, 1] : List Int))).bind fun t177 => (some t177)) else (none))) else (none))) else (none))) else (none)))
def l15awake.f (k : Nat)  : Option (Bool) := (l15four.f).bind fun bt101 => ((fi_Mul.f k bt101.1 bt101.2 (([0, 1] : List Int)) (([0, 1] : List Int))).bind fun bt111 => ((l15four.f).bind fun bt115 => ((fi_Inverse.f k bt115.1 bt115.2 (([0, 1] : List Int))).bind fun bt122 => ((l15four.f).bind fun bt126 => ((fi_Order.f k bt126.1 bt126.2 (([0, 1] : List Int))).bind fun bt133 => ((fi_Modulus.f k 2 3).bind fun bt135 => ((l15nine.f).bind fun bt139 => ((fi_Generator.f k bt139.1 bt139.2).bind fun bt143 => ((l15nine.f).bind fun bt147 => ((fi_SquareRoot.f k bt147.1 bt147.2 (([2] : List Int))).bind fun bt154 => (if bt111.2 = 0 then (if bt122.2 = 0 then (if bt133.2 = 0 then (if bt135.2 = 0 then (if bt143.2 = 0 then (if bt154.2 = 0 then (l15awake.j0 k bt111.1 bt122.1 bt135.1 bt143.1 bt154.1 (bt133.1 != 3)) else (none)) else (none)) else (none)) else (none)) else (none)) else (none))))))))))))
theorem l15awake.mono_l : ∀ k, (∀ y0 y1 y2 y3 y4 y5, LeO (l15awake.j0 k y0 y1 y2 y3 y4 y5) (l15awake.j0 (k + 1) y0 y1 y2 y3 y4 y5))
 | 0 => fun _ _ _ _ _ _ r h => by simp [l15awake.j0] at h
 | k + 1 => by
  have ih0 := l15awake.mono_l k
  intro y0 y1 y2 y3 y4 y5
  unfold l15awake.j0
  with_reducible repeat' first | exact ih0 _ _ _ _ _ _ | exact fi_Generator.mono _ _ _ | exact fi_Inverse.mono _ _ _ _ | exact fi_Modulus.mono _ _ _ | exact fi_Mul.mono _ _ _ _ _ | exact fi_Order.mono _ _ _ _ | exact fi_SquareRoot.mono _ _ _ _ | exact r9Same.mono _ _ _ | exact LeO.refl _ | exact LeO.none _ | refine LeO.ite ?_ ?_ | refine LeO.bind ?_ (fun _ => ?_)
theorem l15awake.mono : ∀ k, LeO (l15awake.f k ) (l15awake.f (k + 1) ) := by
 intro  k
 have ih0 := l15awake.mono_l k
 unfold l15awake.f
 with_reducible repeat' first | exact ih0 _ _ _ _ _ _ | exact fi_Generator.mono _ _ _ | exact fi_Inverse.mono _ _ _ _ | exact fi_Modulus.mono _ _ _ | exact fi_Mul.mono _ _ _ _ _ | exact fi_Order.mono _ _ _ _ | exact fi_SquareRoot.mono _ _ _ _ | exact r9Same.mono _ _ _ | exact LeO.refl _ | exact LeO.none _ | refine LeO.ite ?_ ?_ | refine LeO.bind ?_ (fun _ => ?_)
theorem l15awake.calls (k : Nat)  (r : Bool) (w : World) (h : l15awake.f k  = some r) :
  Calls Try.prog 9 #[] w fun e w' => e = .returned (.bool r) ∧ Below w.heap.size w w' := by
 have HB := zm (Below.refl w.heap.size w)
 have H := h; clear h; unfold l15awake.f at H
 obtain ⟨⟨t101, t102⟩, A1, H⟩ := zO H; try dsimp only at H
 obtain ⟨y105, hy105⟩ : ∃ y_ : List Int, y_ = (([0, 1] : List Int)) := ⟨_, rfl⟩
 replace H : ((fi_Mul.f k t101 t102 y105 (([0, 1] : List Int))).bind fun bt111 => ((l15four.f).bind fun bt115 => ((fi_Inverse.f k bt115.1 bt115.2 (([0, 1] : List Int))).bind fun bt122 => ((l15four.f).bind fun bt126 => ((fi_Order.f k bt126.1 bt126.2 (([0, 1] : List Int))).bind fun bt133 => ((fi_Modulus.f k 2 3).bind fun bt135 => ((l15nine.f).bind fun bt139 => ((fi_Generator.f k bt139.1 bt139.2).bind fun bt143 => ((l15nine.f).bind fun bt147 => ((fi_SquareRoot.f k bt147.1 bt147.2 (([2] : List Int))).bind fun bt154 => (if bt111.2 = 0 then (if bt122.2 = 0 then (if bt133.2 = 0 then (if bt135.2 = 0 then (if bt143.2 = 0 then (if bt154.2 = 0 then (l15awake.j0 k bt111.1 bt122.1 bt135.1 bt143.1 bt154.1 (bt133.1 != 3)) else (none)) else (none)) else (none)) else (none)) else (none)) else (none)))))))))))) = some r := by first | (rw [hy105]; with_reducible exact H) | (have H2_ := (Option.bind_some _ _).symm.trans H; rw [hy105]; with_reducible exact H2_) | (have H2_ := (Option.bind_some _ _).symm.trans H; with_reducible exact H2_) | with_reducible exact H | (rw [hy105]; exact H) | exact H
 have Ny105 := zm hy105
 clear hy105
 obtain ⟨y108, hy108⟩ : ∃ y_ : List Int, y_ = (([0, 1] : List Int)) := ⟨_, rfl⟩
 replace H : ((fi_Mul.f k t101 t102 y105 y108).bind fun bt111 => ((l15four.f).bind fun bt115 => ((fi_Inverse.f k bt115.1 bt115.2 (([0, 1] : List Int))).bind fun bt122 => ((l15four.f).bind fun bt126 => ((fi_Order.f k bt126.1 bt126.2 (([0, 1] : List Int))).bind fun bt133 => ((fi_Modulus.f k 2 3).bind fun bt135 => ((l15nine.f).bind fun bt139 => ((fi_Generator.f k bt139.1 bt139.2).bind fun bt143 => ((l15nine.f).bind fun bt147 => ((fi_SquareRoot.f k bt147.1 bt147.2 (([2] : List Int))).bind fun bt154 => (if bt111.2 = 0 then (if bt122.2 = 0 then (if bt133.2 = 0 then (if bt135.2 = 0 then (if bt143.2 = 0 then (if bt154.2 = 0 then (l15awake.j0 k bt111.1 bt122.1 bt135.1 bt143.1 bt154.1 (bt133.1 != 3)) else (none)) else (none)) else (none)) else (none)) else (none)) else (none)))))))))))) = some r := by first | (rw [hy108]; with_reducible exact H) | (have H2_ := (Option.bind_some _ _).symm.trans H; rw [hy108]; with_reducible exact H2_) | (have H2_ := (Option.bind_some _ _).symm.trans H; with_reducible exact H2_) | with_reducible exact H | (rw [hy108]; exact H) | exact H
 have Ny108 := zm hy108
 clear hy108
 obtain ⟨⟨t111, t114⟩, A2, H⟩ := zO H; try dsimp only at H
 obtain ⟨⟨t115, t116⟩, A3, H⟩ := zO H; try dsimp only at H
 obtain ⟨y119, hy119⟩ : ∃ y_ : List Int, y_ = (([0, 1] : List Int)) := ⟨_, rfl⟩
 replace H : ((fi_Inverse.f k t115 t116 y119).bind fun bt122 => ((l15four.f).bind fun bt126 => ((fi_Order.f k bt126.1 bt126.2 (([0, 1] : List Int))).bind fun bt133 => ((fi_Modulus.f k 2 3).bind fun bt135 => ((l15nine.f).bind fun bt139 => ((fi_Generator.f k bt139.1 bt139.2).bind fun bt143 => ((l15nine.f).bind fun bt147 => ((fi_SquareRoot.f k bt147.1 bt147.2 (([2] : List Int))).bind fun bt154 => (if t114 = 0 then (if bt122.2 = 0 then (if bt133.2 = 0 then (if bt135.2 = 0 then (if bt143.2 = 0 then (if bt154.2 = 0 then (l15awake.j0 k t111 bt122.1 bt135.1 bt143.1 bt154.1 (bt133.1 != 3)) else (none)) else (none)) else (none)) else (none)) else (none)) else (none)))))))))) = some r := by first | (rw [hy119]; with_reducible exact H) | (have H2_ := (Option.bind_some _ _).symm.trans H; rw [hy119]; with_reducible exact H2_) | (have H2_ := (Option.bind_some _ _).symm.trans H; with_reducible exact H2_) | with_reducible exact H | (rw [hy119]; exact H) | exact H
 have Ny119 := zm hy119
 clear hy119
 obtain ⟨⟨t122, t125⟩, A4, H⟩ := zO H; try dsimp only at H
 obtain ⟨⟨t126, t127⟩, A5, H⟩ := zO H; try dsimp only at H
 obtain ⟨y130, hy130⟩ : ∃ y_ : List Int, y_ = (([0, 1] : List Int)) := ⟨_, rfl⟩
 replace H : ((fi_Order.f k t126 t127 y130).bind fun bt133 => ((fi_Modulus.f k 2 3).bind fun bt135 => ((l15nine.f).bind fun bt139 => ((fi_Generator.f k bt139.1 bt139.2).bind fun bt143 => ((l15nine.f).bind fun bt147 => ((fi_SquareRoot.f k bt147.1 bt147.2 (([2] : List Int))).bind fun bt154 => (if t114 = 0 then (if t125 = 0 then (if bt133.2 = 0 then (if bt135.2 = 0 then (if bt143.2 = 0 then (if bt154.2 = 0 then (l15awake.j0 k t111 t122 bt135.1 bt143.1 bt154.1 (bt133.1 != 3)) else (none)) else (none)) else (none)) else (none)) else (none)) else (none)))))))) = some r := by first | (rw [hy130]; with_reducible exact H) | (have H2_ := (Option.bind_some _ _).symm.trans H; rw [hy130]; with_reducible exact H2_) | (have H2_ := (Option.bind_some _ _).symm.trans H; with_reducible exact H2_) | with_reducible exact H | (rw [hy130]; exact H) | exact H
 have Ny130 := zm hy130
 clear hy130
 obtain ⟨⟨t133, t134⟩, A6, H⟩ := zO H; try dsimp only at H
 obtain ⟨⟨t135, t136⟩, A7, H⟩ := zO H; try dsimp only at H
 obtain ⟨⟨t139, t140⟩, A8, H⟩ := zO H; try dsimp only at H
 obtain ⟨⟨t143, t146⟩, A9, H⟩ := zO H; try dsimp only at H
 obtain ⟨⟨t147, t148⟩, A10, H⟩ := zO H; try dsimp only at H
 obtain ⟨y151, Ny151⟩ := zA ((([2] : List Int)) : List Int); rw [← Ny151.out] at H
 obtain ⟨⟨t154, t157⟩, A11, H⟩ := zO H; try dsimp only at H
 have HC12 := zm H
 clear H
 go_enter Try.func9, Try.ntmps9
 go_upto_region 7 with (first | ((with_reducible refine gate_callee (f := 42) rfl ?_); refine zG (some 14) Try.func42 #[] ?_; (with_reducible refine (l15four.calls  t101 t102 _ A1.out).mono ?_); rintro e w13 ⟨v103, rfl, ho0, hb⟩; refine ⟨_, rfl, ?_⟩; have HO104 := zm (Kd.R_lower ho0 (zS HB)); replace HB := zBb HB hb) | ((with_reducible refine gate_dst (N := 15) rfl ?_); (try (refine gate_guard (by rfl) ?_; dsimp only)); refine Kd.R_lit (Kd.int .i64) _ 3 ?hg (N := 15) ?hd (xs := ([0, 1] : List Int)) (inner := [.int .i64 0, .int .i64 1]) (ok := fun _ => True) (okp := fun _ => True) ?hr ?hp (fun _ hk => hk) trivial (Below.refl _ _) (Nat.le_refl _) (by simp) ?_; (case hd => rfl); (case hg => rfl); (case hr => go_simp <;> rfl); (case hp => exact (Reps.one (show Kd.M (Kd.int .i64) _ _ _ 0 [.int .i64 0] from rfl) (Reps.one (show Kd.M (Kd.int .i64) _ _ _ 1 [.int .i64 1] from rfl) (Reps.none _ _)))); intro v106 w14 ho15 hb hg_ hnew_; clear hg_ hnew_; (first | rw [← Ny105.out] at ho15 | (simp only [Int.reduceToNat] at ho15; rw [← Ny105.out] at ho15)); have HO107 := zm (Kd.R_lower (Kd.R_new' ho15 (Kd.R_lt (zR HO104.out))) (zS HB)); replace HO104 := zm (Kd.R_elder' (zR HO104.out) (Kd.R_base ho15) hb); replace HB := zBb HB hb; clear hb ho15) | ((with_reducible refine gate_dst (N := 16) rfl ?_); (try (refine gate_guard (by rfl) ?_; dsimp only)); refine Kd.R_lit (Kd.int .i64) _ 3 ?hg (N := 16) ?hd (xs := ([0, 1] : List Int)) (inner := [.int .i64 0, .int .i64 1]) (ok := fun _ => True) (okp := fun _ => True) ?hr ?hp (fun _ hk => hk) trivial (Below.refl _ _) (Nat.le_refl _) (by simp) ?_; (case hd => rfl); (case hg => rfl); (case hr => go_simp <;> rfl); (case hp => exact (Reps.one (show Kd.M (Kd.int .i64) _ _ _ 0 [.int .i64 0] from rfl) (Reps.one (show Kd.M (Kd.int .i64) _ _ _ 1 [.int .i64 1] from rfl) (Reps.none _ _)))); intro v109 w16 ho17 hb hg_ hnew_; clear hg_ hnew_; (first | rw [← Ny108.out] at ho17 | (simp only [Int.reduceToNat] at ho17; rw [← Ny108.out] at ho17)); have HO110 := zm (Kd.R_lower (Kd.R_new' (Kd.R_new' ho17 (Kd.R_lt (zR HO104.out))) (Kd.R_lt (zR HO107.out))) (zS HB)); replace HO104 := zm (Kd.R_elder' (zR HO104.out) (Kd.R_base ho17) hb); replace HO107 := zm (Kd.R_elder' (zR HO107.out) (Kd.R_base ho17) hb); replace HB := zBb HB hb; clear hb ho17; obtain ⟨Ao18, co18, eo18⟩ := Kd.R_slice HO104.out; subst eo18; obtain ⟨Ao19, co19, eo19⟩ := Kd.R_slice HO107.out; subst eo19; obtain ⟨Ao20, co20, eo20⟩ := Kd.R_slice HO110.out; subst eo20) | ((with_reducible refine gate_callee (f := 18) rfl ?_); refine zG (some 17) Try.func18 #[.agg #[.int .i64 t101, .slice Ao18 t102.length co18], .slice Ao19 y105.length co19, .slice Ao20 y108.length co20] ?_; (with_reducible refine (fi_Mul.calls k t101 _ _ t102 (fun k_ => some k_ = (.slice Ao19 y105.length co19 : Value).ownBlock) _ _ y105 (fun k_ => some k_ = (.slice Ao20 y108.length co20 : Value).ownBlock) _ _ y108 t111 t114 _ (zC ((Kd.R_reads' HO104.out).2.2)) ((Kd.R_reads' HO104.out).2.1) (Kd.R_V (Kd.R_tight rfl (HO107.out))) (Kd.R_V (Kd.R_tight rfl (HO110.out))) A2.out).mono ?_); rintro e w21 ⟨v112, rfl, ho0, hb⟩; refine ⟨_, rfl, ?_⟩; have HO113 := zWV (fun k_ => some k_ ≠ (.slice Ao18 t102.length co18 : Value).ownBlock) ho0 HB (fun k_ hk_ => Or.elim hk_ (fun hs_ => Or.elim hs_ (fun hs_ => ((HO107.out).1 k_ hs_.symm).1.2) (fun hs_ => ((HO110.out).1 k_ hs_.symm).1.2)) (fun hn_ => (Kd.fresh' (Kd.R_lt (zR HO104.out)) k_ hn_))); replace HO104 := zRb HO104 hb; replace HO107 := zRb HO107 hb; replace HO110 := zRb HO110 hb; replace HB := zBb HB hb) | ((with_reducible refine gate_callee (f := 42) rfl ?_); refine zG (some 21) Try.func42 #[] ?_; (with_reducible refine (l15four.calls  t115 t116 _ A3.out).mono ?_); rintro e w22 ⟨v117, rfl, ho0, hb⟩; refine ⟨_, rfl, ?_⟩; replace HO113 := zm (Kd.V_elder' (zV HO113.out) (Kd.R_base ho0) hb); have HO118 := zm (Kd.R_lower (Kd.R_new' (Kd.R_new' (Kd.R_new' ho0 (Kd.R_lt (zR HO104.out))) (Kd.R_lt (zR HO107.out))) (Kd.R_lt (zR HO110.out))) (zS HB)); replace HO104 := zm (Kd.R_elder' (zR HO104.out) (Kd.R_base ho0) hb); replace HO107 := zm (Kd.R_elder' (zR HO107.out) (Kd.R_base ho0) hb); replace HO110 := zm (Kd.R_elder' (zR HO110.out) (Kd.R_base ho0) hb); replace HB := zBb HB hb) | ((with_reducible refine gate_dst (N := 22) rfl ?_); (try (refine gate_guard (by rfl) ?_; dsimp only)); refine Kd.R_lit (Kd.int .i64) _ 3 ?hg (N := 22) ?hd (xs := ([0, 1] : List Int)) (inner := [.int .i64 0, .int .i64 1]) (ok := fun _ => True) (okp := fun _ => True) ?hr ?hp (fun _ hk => hk) trivial (Below.refl _ _) (Nat.le_refl _) (by simp) ?_; (case hd => rfl); (case hg => rfl); (case hr => go_simp <;> rfl); (case hp => exact (Reps.one (show Kd.M (Kd.int .i64) _ _ _ 0 [.int .i64 0] from rfl) (Reps.one (show Kd.M (Kd.int .i64) _ _ _ 1 [.int .i64 1] from rfl) (Reps.none _ _)))); intro v120 w23 ho24 hb hg_ hnew_; clear hg_ hnew_; (first | rw [← Ny119.out] at ho24 | (simp only [Int.reduceToNat] at ho24; rw [← Ny119.out] at ho24)); replace HO113 := zm (Kd.V_elder' (zV HO113.out) (Kd.R_base ho24) hb); have HO121 := zm (Kd.R_lower (Kd.R_new' (Kd.R_new' (Kd.R_new' (Kd.R_new' ho24 (Kd.R_lt (zR HO104.out))) (Kd.R_lt (zR HO107.out))) (Kd.R_lt (zR HO110.out))) (Kd.R_lt (zR HO118.out))) (zS HB)); replace HO104 := zm (Kd.R_elder' (zR HO104.out) (Kd.R_base ho24) hb); replace HO107 := zm (Kd.R_elder' (zR HO107.out) (Kd.R_base ho24) hb); replace HO110 := zm (Kd.R_elder' (zR HO110.out) (Kd.R_base ho24) hb); replace HO118 := zm (Kd.R_elder' (zR HO118.out) (Kd.R_base ho24) hb); replace HB := zBb HB hb; clear hb ho24; obtain ⟨Ao25, co25, eo25⟩ := Kd.R_slice HO118.out; subst eo25; obtain ⟨Ao26, co26, eo26⟩ := Kd.R_slice HO121.out; subst eo26) | ((with_reducible refine gate_callee (f := 33) rfl ?_); refine zG (some 23) Try.func33 #[.agg #[.int .i64 t115, .slice Ao25 t116.length co25], .slice Ao26 y119.length co26] ?_; (with_reducible refine (fi_Inverse.calls k t115 (fun k_ => some k_ = (.slice Ao25 t116.length co25 : Value).ownBlock) _ _ t116 (fun k_ => some k_ = (.slice Ao26 y119.length co26 : Value).ownBlock) _ _ y119 t122 t125 _ (Kd.R_V (Kd.R_tight rfl (HO118.out))) (Kd.R_V (Kd.R_tight rfl (HO121.out))) A4.out).mono ?_); rintro e w27 ⟨v123, rfl, ho0, hb⟩; refine ⟨_, rfl, ?_⟩; replace HO113 := zVb HO113 hb; have HO124 := zWV (fun k_ => some k_ ≠ (.slice Ao18 t102.length co18 : Value).ownBlock ∧ some k_ ≠ (.slice Ao19 y105.length co19 : Value).ownBlock ∧ some k_ ≠ (.slice Ao20 y108.length co20 : Value).ownBlock) ho0 HB (fun k_ hk_ => ⟨Or.elim hk_ (fun hs_ => Or.elim hs_ (fun hs_ => ((HO118.out).1 k_ hs_.symm).1.1.1.2) (fun hs_ => ((HO121.out).1 k_ hs_.symm).1.1.1.2)) (fun hn_ => (Kd.fresh' (Kd.R_lt (zR HO104.out)) k_ hn_)), Or.elim hk_ (fun hs_ => Or.elim hs_ (fun hs_ => ((HO118.out).1 k_ hs_.symm).1.1.2) (fun hs_ => ((HO121.out).1 k_ hs_.symm).1.1.2)) (fun hn_ => (Kd.fresh' (Kd.R_lt (zR HO107.out)) k_ hn_)), Or.elim hk_ (fun hs_ => Or.elim hs_ (fun hs_ => ((HO118.out).1 k_ hs_.symm).1.2) (fun hs_ => ((HO121.out).1 k_ hs_.symm).1.2)) (fun hn_ => (Kd.fresh' (Kd.R_lt (zR HO110.out)) k_ hn_))⟩); replace HO104 := zRb HO104 hb; replace HO107 := zRb HO107 hb; replace HO110 := zRb HO110 hb; replace HO118 := zRb HO118 hb; replace HO121 := zRb HO121 hb; replace HB := zBb HB hb) | ((with_reducible refine gate_callee (f := 42) rfl ?_); refine zG (some 27) Try.func42 #[] ?_; (with_reducible refine (l15four.calls  t126 t127 _ A5.out).mono ?_); rintro e w28 ⟨v128, rfl, ho0, hb⟩; refine ⟨_, rfl, ?_⟩; replace HO113 := zm (Kd.V_elder' (zV HO113.out) (Kd.R_base ho0) hb); replace HO124 := zm (Kd.V_elder' (zV HO124.out) (Kd.R_base ho0) hb); have HO129 := zm (Kd.R_lower (Kd.R_new' (Kd.R_new' (Kd.R_new' (Kd.R_new' (Kd.R_new' ho0 (Kd.R_lt (zR HO104.out))) (Kd.R_lt (zR HO107.out))) (Kd.R_lt (zR HO110.out))) (Kd.R_lt (zR HO118.out))) (Kd.R_lt (zR HO121.out))) (zS HB)); replace HO104 := zm (Kd.R_elder' (zR HO104.out) (Kd.R_base ho0) hb); replace HO107 := zm (Kd.R_elder' (zR HO107.out) (Kd.R_base ho0) hb); replace HO110 := zm (Kd.R_elder' (zR HO110.out) (Kd.R_base ho0) hb); replace HO118 := zm (Kd.R_elder' (zR HO118.out) (Kd.R_base ho0) hb); replace HO121 := zm (Kd.R_elder' (zR HO121.out) (Kd.R_base ho0) hb); replace HB := zBb HB hb) | ((with_reducible refine gate_dst (N := 28) rfl ?_); (try (refine gate_guard (by rfl) ?_; dsimp only)); refine Kd.R_lit (Kd.int .i64) _ 3 ?hg (N := 28) ?hd (xs := ([0, 1] : List Int)) (inner := [.int .i64 0, .int .i64 1]) (ok := fun _ => True) (okp := fun _ => True) ?hr ?hp (fun _ hk => hk) trivial (Below.refl _ _) (Nat.le_refl _) (by simp) ?_; (case hd => rfl); (case hg => rfl); (case hr => go_simp <;> rfl); (case hp => exact (Reps.one (show Kd.M (Kd.int .i64) _ _ _ 0 [.int .i64 0] from rfl) (Reps.one (show Kd.M (Kd.int .i64) _ _ _ 1 [.int .i64 1] from rfl) (Reps.none _ _)))); intro v131 w29 ho30 hb hg_ hnew_; clear hg_ hnew_; (first | rw [← Ny130.out] at ho30 | (simp only [Int.reduceToNat] at ho30; rw [← Ny130.out] at ho30)); replace HO113 := zm (Kd.V_elder' (zV HO113.out) (Kd.R_base ho30) hb); replace HO124 := zm (Kd.V_elder' (zV HO124.out) (Kd.R_base ho30) hb); have HO132 := zm (Kd.R_lower (Kd.R_new' (Kd.R_new' (Kd.R_new' (Kd.R_new' (Kd.R_new' (Kd.R_new' ho30 (Kd.R_lt (zR HO104.out))) (Kd.R_lt (zR HO107.out))) (Kd.R_lt (zR HO110.out))) (Kd.R_lt (zR HO118.out))) (Kd.R_lt (zR HO121.out))) (Kd.R_lt (zR HO129.out))) (zS HB)); replace HO104 := zm (Kd.R_elder' (zR HO104.out) (Kd.R_base ho30) hb); replace HO107 := zm (Kd.R_elder' (zR HO107.out) (Kd.R_base ho30) hb); replace HO110 := zm (Kd.R_elder' (zR HO110.out) (Kd.R_base ho30) hb); replace HO118 := zm (Kd.R_elder' (zR HO118.out) (Kd.R_base ho30) hb); replace HO121 := zm (Kd.R_elder' (zR HO121.out) (Kd.R_base ho30) hb); replace HO129 := zm (Kd.R_elder' (zR HO129.out) (Kd.R_base ho30) hb); replace HB := zBb HB hb; clear hb ho30; obtain ⟨Ao31, co31, eo31⟩ := Kd.R_slice HO129.out; subst eo31; obtain ⟨Ao32, co32, eo32⟩ := Kd.R_slice HO132.out; subst eo32) | ((with_reducible refine gate_callee (f := 37) rfl ?_); refine zG (some 29) Try.func37 #[.agg #[.int .i64 t126, .slice Ao31 t127.length co31], .slice Ao32 y130.length co32] ?_; (with_reducible refine (fi_Order.calls k t126 _ _ t127 (fun k_ => some k_ = (.slice Ao32 y130.length co32 : Value).ownBlock) _ _ y130 t133 t134 _ (zC ((Kd.R_reads' HO129.out).2.2)) ((Kd.R_reads' HO129.out).2.1) (Kd.R_V (Kd.R_tight rfl (HO132.out))) A6.out).mono ?_); rintro e w33 ⟨rfl, hb⟩; refine ⟨_, rfl, ?_⟩; replace HO104 := zRb HO104 hb; replace HO107 := zRb HO107 hb; replace HO110 := zRb HO110 hb; replace HO113 := zVb HO113 hb; replace HO118 := zRb HO118 hb; replace HO121 := zRb HO121 hb; replace HO124 := zVb HO124 hb; replace HO129 := zRb HO129 hb; replace HO132 := zRb HO132 hb; replace HB := zBb HB hb) | ((with_reducible refine gate_callee (f := 11) rfl ?_); refine zG (some 33) Try.func11 #[.int .i64 2, .int .i64 3] ?_; (with_reducible refine (fi_Modulus.calls k 2 3 t135 t136 _ A7.out).mono ?_); rintro e w34 ⟨v137, rfl, ho0, hb⟩; refine ⟨_, rfl, ?_⟩; replace HO113 := zm (Kd.V_elder' (zV HO113.out) (Kd.R_base ho0) hb); replace HO124 := zm (Kd.V_elder' (zV HO124.out) (Kd.R_base ho0) hb); have HO138 := zm (Kd.R_lower (Kd.R_new' (Kd.R_new' (Kd.R_new' (Kd.R_new' (Kd.R_new' (Kd.R_new' (Kd.R_new' ho0 (Kd.R_lt (zR HO104.out))) (Kd.R_lt (zR HO107.out))) (Kd.R_lt (zR HO110.out))) (Kd.R_lt (zR HO118.out))) (Kd.R_lt (zR HO121.out))) (Kd.R_lt (zR HO129.out))) (Kd.R_lt (zR HO132.out))) (zS HB)); replace HO104 := zm (Kd.R_elder' (zR HO104.out) (Kd.R_base ho0) hb); replace HO107 := zm (Kd.R_elder' (zR HO107.out) (Kd.R_base ho0) hb); replace HO110 := zm (Kd.R_elder' (zR HO110.out) (Kd.R_base ho0) hb); replace HO118 := zm (Kd.R_elder' (zR HO118.out) (Kd.R_base ho0) hb); replace HO121 := zm (Kd.R_elder' (zR HO121.out) (Kd.R_base ho0) hb); replace HO129 := zm (Kd.R_elder' (zR HO129.out) (Kd.R_base ho0) hb); replace HO132 := zm (Kd.R_elder' (zR HO132.out) (Kd.R_base ho0) hb); replace HB := zBb HB hb) | ((with_reducible refine gate_callee (f := 43) rfl ?_); refine zG (some 37) Try.func43 #[] ?_; (with_reducible refine (l15nine.calls  t139 t140 _ A8.out).mono ?_); rintro e w35 ⟨v141, rfl, ho0, hb⟩; refine ⟨_, rfl, ?_⟩; replace HO113 := zm (Kd.V_elder' (zV HO113.out) (Kd.R_base ho0) hb); replace HO124 := zm (Kd.V_elder' (zV HO124.out) (Kd.R_base ho0) hb); have HO142 := zm (Kd.R_lower (Kd.R_new' (Kd.R_new' (Kd.R_new' (Kd.R_new' (Kd.R_new' (Kd.R_new' (Kd.R_new' (Kd.R_new' ho0 (Kd.R_lt (zR HO104.out))) (Kd.R_lt (zR HO107.out))) (Kd.R_lt (zR HO110.out))) (Kd.R_lt (zR HO118.out))) (Kd.R_lt (zR HO121.out))) (Kd.R_lt (zR HO129.out))) (Kd.R_lt (zR HO132.out))) (Kd.R_lt (zR HO138.out))) (zS HB)); replace HO104 := zm (Kd.R_elder' (zR HO104.out) (Kd.R_base ho0) hb); replace HO107 := zm (Kd.R_elder' (zR HO107.out) (Kd.R_base ho0) hb); replace HO110 := zm (Kd.R_elder' (zR HO110.out) (Kd.R_base ho0) hb); replace HO118 := zm (Kd.R_elder' (zR HO118.out) (Kd.R_base ho0) hb); replace HO121 := zm (Kd.R_elder' (zR HO121.out) (Kd.R_base ho0) hb); replace HO129 := zm (Kd.R_elder' (zR HO129.out) (Kd.R_base ho0) hb); replace HO132 := zm (Kd.R_elder' (zR HO132.out) (Kd.R_base ho0) hb); replace HO138 := zm (Kd.R_elder' (zR HO138.out) (Kd.R_base ho0) hb); replace HB := zBb HB hb; obtain ⟨Ao36, co36, eo36⟩ := Kd.R_slice HO142.out; subst eo36) | ((with_reducible refine gate_callee (f := 36) rfl ?_); refine zG (some 38) Try.func36 #[.agg #[.int .i64 t139, .slice Ao36 t140.length co36]] ?_; (with_reducible refine (fi_Generator.calls k t139 _ _ t140 t143 t146 _ (zC ((Kd.R_reads' HO142.out).2.2)) ((Kd.R_reads' HO142.out).2.1) A9.out).mono ?_); rintro e w37 ⟨v144, rfl, ho0, hb⟩; refine ⟨_, rfl, ?_⟩; replace HO113 := zm (Kd.V_elder' (zV HO113.out) (Kd.R_base ho0) hb); replace HO124 := zm (Kd.V_elder' (zV HO124.out) (Kd.R_base ho0) hb); have HO145 := zm (Kd.R_lower (Kd.R_new' (Kd.R_new' (Kd.R_new' (Kd.R_new' (Kd.R_new' (Kd.R_new' (Kd.R_new' (Kd.R_new' (Kd.R_new' ho0 (Kd.R_lt (zR HO104.out))) (Kd.R_lt (zR HO107.out))) (Kd.R_lt (zR HO110.out))) (Kd.R_lt (zR HO118.out))) (Kd.R_lt (zR HO121.out))) (Kd.R_lt (zR HO129.out))) (Kd.R_lt (zR HO132.out))) (Kd.R_lt (zR HO138.out))) (Kd.R_lt (zR HO142.out))) (zS HB)); replace HO104 := zm (Kd.R_elder' (zR HO104.out) (Kd.R_base ho0) hb); replace HO107 := zm (Kd.R_elder' (zR HO107.out) (Kd.R_base ho0) hb); replace HO110 := zm (Kd.R_elder' (zR HO110.out) (Kd.R_base ho0) hb); replace HO118 := zm (Kd.R_elder' (zR HO118.out) (Kd.R_base ho0) hb); replace HO121 := zm (Kd.R_elder' (zR HO121.out) (Kd.R_base ho0) hb); replace HO129 := zm (Kd.R_elder' (zR HO129.out) (Kd.R_base ho0) hb); replace HO132 := zm (Kd.R_elder' (zR HO132.out) (Kd.R_base ho0) hb); replace HO138 := zm (Kd.R_elder' (zR HO138.out) (Kd.R_base ho0) hb); replace HO142 := zm (Kd.R_elder' (zR HO142.out) (Kd.R_base ho0) hb); replace HB := zBb HB hb) | ((with_reducible refine gate_callee (f := 43) rfl ?_); refine zG (some 42) Try.func43 #[] ?_; (with_reducible refine (l15nine.calls  t147 t148 _ A10.out).mono ?_); rintro e w38 ⟨v149, rfl, ho0, hb⟩; refine ⟨_, rfl, ?_⟩; replace HO113 := zm (Kd.V_elder' (zV HO113.out) (Kd.R_base ho0) hb); replace HO124 := zm (Kd.V_elder' (zV HO124.out) (Kd.R_base ho0) hb); have HO150 := zm (Kd.R_lower (Kd.R_new' (Kd.R_new' (Kd.R_new' (Kd.R_new' (Kd.R_new' (Kd.R_new' (Kd.R_new' (Kd.R_new' (Kd.R_new' (Kd.R_new' ho0 (Kd.R_lt (zR HO104.out))) (Kd.R_lt (zR HO107.out))) (Kd.R_lt (zR HO110.out))) (Kd.R_lt (zR HO118.out))) (Kd.R_lt (zR HO121.out))) (Kd.R_lt (zR HO129.out))) (Kd.R_lt (zR HO132.out))) (Kd.R_lt (zR HO138.out))) (Kd.R_lt (zR HO142.out))) (Kd.R_lt (zR HO145.out))) (zS HB)); replace HO104 := zm (Kd.R_elder' (zR HO104.out) (Kd.R_base ho0) hb); replace HO107 := zm (Kd.R_elder' (zR HO107.out) (Kd.R_base ho0) hb); replace HO110 := zm (Kd.R_elder' (zR HO110.out) (Kd.R_base ho0) hb); replace HO118 := zm (Kd.R_elder' (zR HO118.out) (Kd.R_base ho0) hb); replace HO121 := zm (Kd.R_elder' (zR HO121.out) (Kd.R_base ho0) hb); replace HO129 := zm (Kd.R_elder' (zR HO129.out) (Kd.R_base ho0) hb); replace HO132 := zm (Kd.R_elder' (zR HO132.out) (Kd.R_base ho0) hb); replace HO138 := zm (Kd.R_elder' (zR HO138.out) (Kd.R_base ho0) hb); replace HO142 := zm (Kd.R_elder' (zR HO142.out) (Kd.R_base ho0) hb); replace HO145 := zm (Kd.R_elder' (zR HO145.out) (Kd.R_base ho0) hb); replace HB := zBb HB hb) | ((with_reducible refine gate_dst (N := 43) rfl ?_); (try (refine gate_guard (by rfl) ?_; dsimp only)); refine Kd.R_lit (Kd.int .i64) _ 3 ?hg (N := 43) ?hd (xs := ([2] : List Int)) (inner := [.int .i64 2]) (ok := fun _ => True) (okp := fun _ => True) ?hr ?hp (fun _ hk => hk) trivial (Below.refl _ _) (Nat.le_refl _) (by simp) ?_; (case hd => rfl); (case hg => rfl); (case hr => go_simp <;> rfl); (case hp => exact (Reps.one (show Kd.M (Kd.int .i64) _ _ _ 2 [.int .i64 2] from rfl) (Reps.none _ _))); intro v152 w39 ho40 hb hg_ hnew_; clear hg_ hnew_; (first | rw [← Ny151.out] at ho40 | (simp only [Int.reduceToNat] at ho40; rw [← Ny151.out] at ho40)); replace HO113 := zm (Kd.V_elder' (zV HO113.out) (Kd.R_base ho40) hb); replace HO124 := zm (Kd.V_elder' (zV HO124.out) (Kd.R_base ho40) hb); have HO153 := zm (Kd.R_lower (Kd.R_new' (Kd.R_new' (Kd.R_new' (Kd.R_new' (Kd.R_new' (Kd.R_new' (Kd.R_new' (Kd.R_new' (Kd.R_new' (Kd.R_new' (Kd.R_new' ho40 (Kd.R_lt (zR HO104.out))) (Kd.R_lt (zR HO107.out))) (Kd.R_lt (zR HO110.out))) (Kd.R_lt (zR HO118.out))) (Kd.R_lt (zR HO121.out))) (Kd.R_lt (zR HO129.out))) (Kd.R_lt (zR HO132.out))) (Kd.R_lt (zR HO138.out))) (Kd.R_lt (zR HO142.out))) (Kd.R_lt (zR HO145.out))) (Kd.R_lt (zR HO150.out))) (zS HB)); replace HO104 := zm (Kd.R_elder' (zR HO104.out) (Kd.R_base ho40) hb); replace HO107 := zm (Kd.R_elder' (zR HO107.out) (Kd.R_base ho40) hb); replace HO110 := zm (Kd.R_elder' (zR HO110.out) (Kd.R_base ho40) hb); replace HO118 := zm (Kd.R_elder' (zR HO118.out) (Kd.R_base ho40) hb); replace HO121 := zm (Kd.R_elder' (zR HO121.out) (Kd.R_base ho40) hb); replace HO129 := zm (Kd.R_elder' (zR HO129.out) (Kd.R_base ho40) hb); replace HO132 := zm (Kd.R_elder' (zR HO132.out) (Kd.R_base ho40) hb); replace HO138 := zm (Kd.R_elder' (zR HO138.out) (Kd.R_base ho40) hb); replace HO142 := zm (Kd.R_elder' (zR HO142.out) (Kd.R_base ho40) hb); replace HO145 := zm (Kd.R_elder' (zR HO145.out) (Kd.R_base ho40) hb); replace HO150 := zm (Kd.R_elder' (zR HO150.out) (Kd.R_base ho40) hb); replace HB := zBb HB hb; clear hb ho40; obtain ⟨Ao41, co41, eo41⟩ := Kd.R_slice HO150.out; subst eo41; obtain ⟨Ao42, co42, eo42⟩ := Kd.R_slice HO153.out; subst eo42) | ((with_reducible refine gate_callee (f := 17) rfl ?_); refine zG (some 44) Try.func17 #[.agg #[.int .i64 t147, .slice Ao41 t148.length co41], .slice Ao42 y151.length co42] ?_; (with_reducible refine (fi_SquareRoot.calls k t147 _ _ t148 (fun k_ => some k_ = (.slice Ao42 y151.length co42 : Value).ownBlock) _ _ y151 t154 t157 _ (zC ((Kd.R_reads' HO150.out).2.2)) ((Kd.R_reads' HO150.out).2.1) (Kd.R_V (Kd.R_tight rfl (HO153.out))) A11.out).mono ?_); rintro e w43 ⟨v155, rfl, ho0, hb⟩; refine ⟨_, rfl, ?_⟩; replace HO113 := zVb HO113 hb; replace HO124 := zVb HO124 hb; have HO156 := zWV (fun k_ => some k_ ≠ (.slice Ao18 t102.length co18 : Value).ownBlock ∧ some k_ ≠ (.slice Ao19 y105.length co19 : Value).ownBlock ∧ some k_ ≠ (.slice Ao20 y108.length co20 : Value).ownBlock ∧ some k_ ≠ (.slice Ao25 t116.length co25 : Value).ownBlock ∧ some k_ ≠ (.slice Ao26 y119.length co26 : Value).ownBlock ∧ some k_ ≠ (.slice Ao31 t127.length co31 : Value).ownBlock ∧ some k_ ≠ (.slice Ao32 y130.length co32 : Value).ownBlock ∧ some k_ ≠ (v137 : Value).ownBlock ∧ some k_ ≠ (.slice Ao36 t140.length co36 : Value).ownBlock ∧ some k_ ≠ (v144 : Value).ownBlock ∧ some k_ ≠ (.slice Ao41 t148.length co41 : Value).ownBlock) ho0 HB (fun k_ hk_ => ⟨Or.elim hk_ (fun hs_ => ((HO153.out).1 k_ hs_.symm).1.1.1.1.1.1.1.1.1.1.2) (fun hn_ => (Kd.fresh' (Kd.R_lt (zR HO104.out)) k_ hn_)), Or.elim hk_ (fun hs_ => ((HO153.out).1 k_ hs_.symm).1.1.1.1.1.1.1.1.1.2) (fun hn_ => (Kd.fresh' (Kd.R_lt (zR HO107.out)) k_ hn_)), Or.elim hk_ (fun hs_ => ((HO153.out).1 k_ hs_.symm).1.1.1.1.1.1.1.1.2) (fun hn_ => (Kd.fresh' (Kd.R_lt (zR HO110.out)) k_ hn_)), Or.elim hk_ (fun hs_ => ((HO153.out).1 k_ hs_.symm).1.1.1.1.1.1.1.2) (fun hn_ => (Kd.fresh' (Kd.R_lt (zR HO118.out)) k_ hn_)), Or.elim hk_ (fun hs_ => ((HO153.out).1 k_ hs_.symm).1.1.1.1.1.1.2) (fun hn_ => (Kd.fresh' (Kd.R_lt (zR HO121.out)) k_ hn_)), Or.elim hk_ (fun hs_ => ((HO153.out).1 k_ hs_.symm).1.1.1.1.1.2) (fun hn_ => (Kd.fresh' (Kd.R_lt (zR HO129.out)) k_ hn_)), Or.elim hk_ (fun hs_ => ((HO153.out).1 k_ hs_.symm).1.1.1.1.2) (fun hn_ => (Kd.fresh' (Kd.R_lt (zR HO132.out)) k_ hn_)), Or.elim hk_ (fun hs_ => ((HO153.out).1 k_ hs_.symm).1.1.1.2) (fun hn_ => (Kd.fresh' (Kd.R_lt (zR HO138.out)) k_ hn_)), Or.elim hk_ (fun hs_ => ((HO153.out).1 k_ hs_.symm).1.1.2) (fun hn_ => (Kd.fresh' (Kd.R_lt (zR HO142.out)) k_ hn_)), Or.elim hk_ (fun hs_ => ((HO153.out).1 k_ hs_.symm).1.2) (fun hn_ => (Kd.fresh' (Kd.R_lt (zR HO145.out)) k_ hn_)), Or.elim hk_ (fun hs_ => ((HO153.out).1 k_ hs_.symm).2) (fun hn_ => (Kd.fresh' (Kd.R_lt (zR HO150.out)) k_ hn_))⟩); replace HO104 := zRb HO104 hb; replace HO107 := zRb HO107 hb; replace HO110 := zRb HO110 hb; replace HO118 := zRb HO118 hb; replace HO121 := zRb HO121 hb; replace HO129 := zRb HO129 hb; replace HO132 := zRb HO132 hb; replace HO138 := zRb HO138 hb; replace HO142 := zRb HO142 hb; replace HO145 := zRb HO145 hb; replace HO150 := zRb HO150 hb; replace HO153 := zRb HO153 hb; replace HB := zBb HB hb))
 (try simp only [Act.put, List.setIfInBounds_toArray, List.set_cons_zero, List.set_cons_succ])
 go_cut [72] (fun v72 wc => ∃ (kq : Nat) (x72_11 : Bool), v72 = .bool x72_11 ∧ Aside0 (l15awake.j0 kq t111 t122 t135 t143 t154 x72_11 = some r) ∧ Aside0 (kq ≤ k) ∧ Aside0 (Kd.V (Kd.int .i64) 3 wc w.heap.size (fun k_ => some k_ ≠ (v137 : Value).ownBlock ∧ some k_ ≠ (v144 : Value).ownBlock) v112 t111) ∧ Aside0 (Kd.V (Kd.int .i64) 3 wc w.heap.size (fun k_ => some k_ ≠ (v137 : Value).ownBlock ∧ some k_ ≠ (v144 : Value).ownBlock) v123 t122) ∧ Aside0 (Kd.R (Kd.int .i64) 3 wc w.heap.size (fun k_ => some k_ ≠ (v144 : Value).ownBlock) v137 t135) ∧ Aside0 (Kd.R (Kd.int .i64) 3 wc w.heap.size (fun k_ => some k_ ≠ (v137 : Value).ownBlock) v144 t143) ∧ Aside0 (Kd.V (Kd.int .i64) 3 wc w.heap.size (fun k_ => some k_ ≠ (v137 : Value).ownBlock ∧ some k_ ≠ (v144 : Value).ownBlock) v155 t154) ∧ Aside0 (Below w.heap.size w wc))
 case first =>
  have H := HC12.out
  clear HC12
  by_cases c44 : t114 = 0
  rotate_left
  ·rw [if_neg c44] at H
   exact absurd H (by simp)
  rw [if_pos c44] at H
  obtain ⟨c44b0, c44b1⟩ := zE c44; clear c44
  (first | rw [c44b0] | (simp only [i64_w, i32_w]; rw [c44b0]) | skip)
  by_cases c45 : t125 = 0
  rotate_left
  ·rw [if_neg c45] at H
   exact absurd H (by simp)
  rw [if_pos c45] at H
  obtain ⟨c45b0, c45b1⟩ := zE c45; clear c45
  by_cases c46 : t134 = 0
  rotate_left
  ·rw [if_neg c46] at H
   exact absurd H (by simp)
  rw [if_pos c46] at H
  obtain ⟨c46b0, c46b1⟩ := zE c46; clear c46
  by_cases c47 : t136 = 0
  rotate_left
  ·rw [if_neg c47] at H
   exact absurd H (by simp)
  rw [if_pos c47] at H
  obtain ⟨c47b0, c47b1⟩ := zE c47; clear c47
  by_cases c48 : t146 = 0
  rotate_left
  ·rw [if_neg c48] at H
   exact absurd H (by simp)
  rw [if_pos c48] at H
  obtain ⟨c48b0, c48b1⟩ := zE c48; clear c48
  by_cases c49 : t157 = 0
  rotate_left
  ·rw [if_neg c49] at H
   exact absurd H (by simp)
  rw [if_pos c49] at H
  obtain ⟨c49b0, c49b1⟩ := zE c49; clear c49
  have H' := zm H
  clear H
  go_wp2
  go_meet
  case rel => exact ⟨_, ((t133 != 3)), zX, H', ⟨by first | omega | exact Nat.le_refl _⟩, ⟨zV (Kd.V_mono HO113.out (fun _ hk => ⟨hk.1.1.1.1.2, hk.1.1.2⟩))⟩, ⟨zV (Kd.V_mono HO124.out (fun _ hk => ⟨hk.1.1.1.1.2, hk.1.1.2⟩))⟩, ⟨zR (Kd.R_mono HO138.out (fun _ hk => hk.1.1.2))⟩, ⟨zR (Kd.R_mono HO145.out (fun _ hk => hk.1.1.1.2))⟩, ⟨zV (Kd.V_mono HO156.out (fun _ hk => ⟨hk.2.2.2.2.2.2.2.1, hk.2.2.2.2.2.2.2.2.2.1⟩))⟩, ⟨zT⟩⟩
 case rest =>
  clear HC12
  obtain ⟨kq, x72_11, rfl, HA, HJ11, HO_1, HO_3, HO_7, HO_9, HO_11, HB⟩ := hcut
  cases kq with
  | zero => exact absurd HA.out (by simp [l15awake.j0])
  | succ kj11 =>
   have H := HA.out
   clear HA
   simp only [l15awake.j0] at H
   by_cases c50 : x72_11 = true
   ·subst c50
    rw [if_pos rfl] at H
    exact absurd H (by simp)
   replace c50 := Bool.eq_false_iff.mpr c50
   subst c50
   rw [if_neg Bool.false_ne_true] at H
   obtain ⟨y158, hy158⟩ : ∃ y_ : List Int, y_ = (([1, 1] : List Int)) := ⟨_, rfl⟩
   replace H : ((r9Same.f kj11 t111 y158).bind fun t161 => (if t161 = true then ((r9Same.f kj11 t122 (([1, 1] : List Int))).bind fun t165 => (if t165 = true then ((r9Same.f kj11 t135 (([1, 0, 1, 1] : List Int))).bind fun t169 => (if t169 = true then ((r9Same.f kj11 t143 (([1, 1] : List Int))).bind fun t173 => (if t173 = true then ((r9Same.f kj11 t154 (([0, 1] : List Int))).bind fun t177 => (some t177)) else (none))) else (none))) else (none))) else (none))) = some r := by first | (rw [hy158]; with_reducible exact H) | (have H2_ := (Option.bind_some _ _).symm.trans H; rw [hy158]; with_reducible exact H2_) | (have H2_ := (Option.bind_some _ _).symm.trans H; with_reducible exact H2_) | with_reducible exact H | (rw [hy158]; exact H) | exact H
   have Ny158 := zm hy158
   clear hy158
   obtain ⟨t161, A51, H⟩ := zO H
   by_cases c52 : t161 = true
   rotate_left
   ·replace c52 := Bool.eq_false_iff.mpr c52
    subst c52
    rw [if_neg Bool.false_ne_true] at H
    exact absurd H (by simp)
   subst c52
   rw [if_pos rfl] at H
   obtain ⟨y162, hy162⟩ : ∃ y_ : List Int, y_ = (([1, 1] : List Int)) := ⟨_, rfl⟩
   replace H : ((r9Same.f kj11 t122 y162).bind fun t165 => (if t165 = true then ((r9Same.f kj11 t135 (([1, 0, 1, 1] : List Int))).bind fun t169 => (if t169 = true then ((r9Same.f kj11 t143 (([1, 1] : List Int))).bind fun t173 => (if t173 = true then ((r9Same.f kj11 t154 (([0, 1] : List Int))).bind fun t177 => (some t177)) else (none))) else (none))) else (none))) = some r := by first | (rw [hy162]; with_reducible exact H) | (have H2_ := (Option.bind_some _ _).symm.trans H; rw [hy162]; with_reducible exact H2_) | (have H2_ := (Option.bind_some _ _).symm.trans H; with_reducible exact H2_) | with_reducible exact H | (rw [hy162]; exact H) | exact H
   have Ny162 := zm hy162
   clear hy162
   obtain ⟨t165, A53, H⟩ := zO H
   by_cases c54 : t165 = true
   rotate_left
   ·replace c54 := Bool.eq_false_iff.mpr c54
    subst c54
    rw [if_neg Bool.false_ne_true] at H
    exact absurd H (by simp)
   subst c54
   rw [if_pos rfl] at H
   obtain ⟨y166, Ny166⟩ := zA ((([1, 0, 1, 1] : List Int)) : List Int); rw [← Ny166.out] at H
   obtain ⟨t169, A55, H⟩ := zO H
   by_cases c56 : t169 = true
   rotate_left
   ·replace c56 := Bool.eq_false_iff.mpr c56
    subst c56
    rw [if_neg Bool.false_ne_true] at H
    exact absurd H (by simp)
   subst c56
   rw [if_pos rfl] at H
   obtain ⟨y170, hy170⟩ : ∃ y_ : List Int, y_ = (([1, 1] : List Int)) := ⟨_, rfl⟩
   replace H : ((r9Same.f kj11 t143 y170).bind fun t173 => (if t173 = true then ((r9Same.f kj11 t154 (([0, 1] : List Int))).bind fun t177 => (some t177)) else (none))) = some r := by first | (rw [hy170]; with_reducible exact H) | (have H2_ := (Option.bind_some _ _).symm.trans H; rw [hy170]; with_reducible exact H2_) | (have H2_ := (Option.bind_some _ _).symm.trans H; with_reducible exact H2_) | with_reducible exact H | (rw [hy170]; exact H) | exact H
   have Ny170 := zm hy170
   clear hy170
   obtain ⟨t173, A57, H⟩ := zO H
   by_cases c58 : t173 = true
   rotate_left
   ·replace c58 := Bool.eq_false_iff.mpr c58
    subst c58
    rw [if_neg Bool.false_ne_true] at H
    exact absurd H (by simp)
   subst c58
   rw [if_pos rfl] at H
   obtain ⟨y174, hy174⟩ : ∃ y_ : List Int, y_ = (([0, 1] : List Int)) := ⟨_, rfl⟩
   replace H : ((r9Same.f kj11 t154 y174).bind fun t177 => (some t177)) = some r := by first | (rw [hy174]; with_reducible exact H) | (have H2_ := (Option.bind_some _ _).symm.trans H; rw [hy174]; with_reducible exact H2_) | (have H2_ := (Option.bind_some _ _).symm.trans H; with_reducible exact H2_) | with_reducible exact H | (rw [hy174]; exact H) | exact H
   have Ny174 := zm hy174
   clear hy174
   obtain ⟨t177, A59, H⟩ := zO H
   obtain rfl := Option.some.inj H
   go_wp2_with (first | ((with_reducible refine gate_dst (N := 74) rfl ?_); (try (refine gate_guard (by rfl) ?_; dsimp only)); refine Kd.R_lit (Kd.int .i64) _ 3 ?hg (N := 74) ?hd (xs := ([1, 1] : List Int)) (inner := [.int .i64 1, .int .i64 1]) (ok := fun _ => True) (okp := fun _ => True) ?hr ?hp (fun _ hk => hk) trivial (Below.refl _ _) (Nat.le_refl _) (by simp) ?_; (case hd => rfl); (case hg => rfl); (case hr => go_simp <;> rfl); (case hp => exact (Reps.one (show Kd.M (Kd.int .i64) _ _ _ 1 [.int .i64 1] from rfl) (Reps.one (show Kd.M (Kd.int .i64) _ _ _ 1 [.int .i64 1] from rfl) (Reps.none _ _)))); intro v159 w60 ho61 hb hg_ hnew_; clear hg_ hnew_; (first | rw [← Ny158.out] at ho61 | (simp only [Int.reduceToNat] at ho61; rw [← Ny158.out] at ho61)); replace HO_1 := zm (Kd.V_elder' (zV HO_1.out) (Kd.R_base ho61) hb); replace HO_3 := zm (Kd.V_elder' (zV HO_3.out) (Kd.R_base ho61) hb); replace HO_11 := zm (Kd.V_elder' (zV HO_11.out) (Kd.R_base ho61) hb); have HO160 := zm (Kd.R_lower (Kd.R_new' (Kd.R_new' ho61 (Kd.R_lt (zR HO_7.out))) (Kd.R_lt (zR HO_9.out))) (zS HB)); replace HO_7 := zm (Kd.R_elder' (zR HO_7.out) (Kd.R_base ho61) hb); replace HO_9 := zm (Kd.R_elder' (zR HO_9.out) (Kd.R_base ho61) hb); replace HB := zBb HB hb; clear hb ho61; obtain ⟨Ao62, co62, eo62⟩ := Kd.V_slice HO_1.out; subst eo62; obtain ⟨Ao63, co63, eo63⟩ := Kd.R_slice HO160.out; subst eo63) | ((with_reducible refine gate_callee (f := 19) rfl ?_); refine zG (some 75) Try.func19 #[.slice Ao62 t111.length co62, .slice Ao63 y158.length co63] ?_; (with_reducible refine (r9Same.calls kj11 _ _ t111 _ _ y158 true _ (zC ((Kd.V_reads' HO_1.out).2.2)) ((Kd.V_reads' HO_1.out).2.1) (zC ((Kd.R_reads' HO160.out).2.2)) ((Kd.R_reads' HO160.out).2.1) A51.out).mono ?_); rintro e w' ⟨rfl, ⟨nd, rfl⟩⟩; refine ⟨_, rfl, ?_⟩) | ((with_reducible refine gate_dst (N := 78) rfl ?_); (try (refine gate_guard (by rfl) ?_; dsimp only)); refine Kd.R_lit (Kd.int .i64) _ 3 ?hg (N := 78) ?hd (xs := ([1, 1] : List Int)) (inner := [.int .i64 1, .int .i64 1]) (ok := fun _ => True) (okp := fun _ => True) ?hr ?hp (fun _ hk => hk) trivial (Below.refl _ _) (Nat.le_refl _) (by simp) ?_; (case hd => rfl); (case hg => rfl); (case hr => go_simp <;> rfl); (case hp => exact (Reps.one (show Kd.M (Kd.int .i64) _ _ _ 1 [.int .i64 1] from rfl) (Reps.one (show Kd.M (Kd.int .i64) _ _ _ 1 [.int .i64 1] from rfl) (Reps.none _ _)))); intro v163 w64 ho65 hb hg_ hnew_; clear hg_ hnew_; (first | rw [← Ny162.out] at ho65 | (simp only [Int.reduceToNat] at ho65; rw [← Ny162.out] at ho65)); replace HO_1 := zm (Kd.V_elder' (zV HO_1.out) (Kd.R_base ho65) hb); replace HO_3 := zm (Kd.V_elder' (zV HO_3.out) (Kd.R_base ho65) hb); replace HO_11 := zm (Kd.V_elder' (zV HO_11.out) (Kd.R_base ho65) hb); have HO164 := zm (Kd.R_lower (Kd.R_new' (Kd.R_new' (Kd.R_new' ho65 (Kd.R_lt (zR HO_7.out))) (Kd.R_lt (zR HO_9.out))) (Kd.R_lt (zR HO160.out))) (zS HB)); replace HO_7 := zm (Kd.R_elder' (zR HO_7.out) (Kd.R_base ho65) hb); replace HO_9 := zm (Kd.R_elder' (zR HO_9.out) (Kd.R_base ho65) hb); replace HO160 := zm (Kd.R_elder' (zR HO160.out) (Kd.R_base ho65) hb); replace HB := zBb HB hb; clear hb ho65; obtain ⟨Ao66, co66, eo66⟩ := Kd.V_slice HO_3.out; subst eo66; obtain ⟨Ao67, co67, eo67⟩ := Kd.R_slice HO164.out; subst eo67) | (go_at_call 19; (with_reducible refine (r9Same.calls kj11 _ _ t122 _ _ y162 true _ (zC ((Kd.V_reads' HO_3.out).2.2)) ((Kd.V_reads' HO_3.out).2.1) (zC ((Kd.R_reads' HO164.out).2.2)) ((Kd.R_reads' HO164.out).2.1) A53.out).mono ?_); rintro e w' ⟨rfl, ⟨nd, rfl⟩⟩) | ((with_reducible refine gate_dst (N := 83) rfl ?_); (try (refine gate_guard (by rfl) ?_; dsimp only)); refine Kd.R_lit (Kd.int .i64) _ 3 ?hg (N := 83) ?hd (xs := ([1, 0, 1, 1] : List Int)) (inner := [.int .i64 1, .int .i64 0, .int .i64 1, .int .i64 1]) (ok := fun _ => True) (okp := fun _ => True) ?hr ?hp (fun _ hk => hk) trivial (Below.refl _ _) (Nat.le_refl _) (by simp) ?_; (case hd => rfl); (case hg => rfl); (case hr => go_simp <;> rfl); (case hp => exact (Reps.one (show Kd.M (Kd.int .i64) _ _ _ 1 [.int .i64 1] from rfl) (Reps.one (show Kd.M (Kd.int .i64) _ _ _ 0 [.int .i64 0] from rfl) (Reps.one (show Kd.M (Kd.int .i64) _ _ _ 1 [.int .i64 1] from rfl) (Reps.one (show Kd.M (Kd.int .i64) _ _ _ 1 [.int .i64 1] from rfl) (Reps.none _ _)))))); intro v167 w68 ho69 hb hg_ hnew_; clear hg_ hnew_; (first | rw [← Ny166.out] at ho69 | (simp only [Int.reduceToNat] at ho69; rw [← Ny166.out] at ho69)); replace HO_1 := zm (Kd.V_elder' (zV HO_1.out) (Kd.R_base ho69) hb); replace HO_3 := zm (Kd.V_elder' (zV HO_3.out) (Kd.R_base ho69) hb); replace HO_11 := zm (Kd.V_elder' (zV HO_11.out) (Kd.R_base ho69) hb); have HO168 := zm (Kd.R_lower (Kd.R_new' (Kd.R_new' (Kd.R_new' (Kd.R_new' ho69 (Kd.R_lt (zR HO_7.out))) (Kd.R_lt (zR HO_9.out))) (Kd.R_lt (zR HO160.out))) (Kd.R_lt (zR HO164.out))) (zS HB)); replace HO_7 := zm (Kd.R_elder' (zR HO_7.out) (Kd.R_base ho69) hb); replace HO_9 := zm (Kd.R_elder' (zR HO_9.out) (Kd.R_base ho69) hb); replace HO160 := zm (Kd.R_elder' (zR HO160.out) (Kd.R_base ho69) hb); replace HO164 := zm (Kd.R_elder' (zR HO164.out) (Kd.R_base ho69) hb); replace HB := zBb HB hb; clear hb ho69; obtain ⟨Ao70, co70, eo70⟩ := Kd.R_slice HO_7.out; subst eo70; obtain ⟨Ao71, co71, eo71⟩ := Kd.R_slice HO168.out; subst eo71) | (go_at_call 19; (with_reducible refine (r9Same.calls kj11 _ _ t135 _ _ y166 true _ (zC ((Kd.R_reads' HO_7.out).2.2)) ((Kd.R_reads' HO_7.out).2.1) (zC ((Kd.R_reads' HO168.out).2.2)) ((Kd.R_reads' HO168.out).2.1) A55.out).mono ?_); rintro e w' ⟨rfl, ⟨nd, rfl⟩⟩) | ((with_reducible refine gate_dst (N := 88) rfl ?_); (try (refine gate_guard (by rfl) ?_; dsimp only)); refine Kd.R_lit (Kd.int .i64) _ 3 ?hg (N := 88) ?hd (xs := ([1, 1] : List Int)) (inner := [.int .i64 1, .int .i64 1]) (ok := fun _ => True) (okp := fun _ => True) ?hr ?hp (fun _ hk => hk) trivial (Below.refl _ _) (Nat.le_refl _) (by simp) ?_; (case hd => rfl); (case hg => rfl); (case hr => go_simp <;> rfl); (case hp => exact (Reps.one (show Kd.M (Kd.int .i64) _ _ _ 1 [.int .i64 1] from rfl) (Reps.one (show Kd.M (Kd.int .i64) _ _ _ 1 [.int .i64 1] from rfl) (Reps.none _ _)))); intro v171 w72 ho73 hb hg_ hnew_; clear hg_ hnew_; (first | rw [← Ny170.out] at ho73 | (simp only [Int.reduceToNat] at ho73; rw [← Ny170.out] at ho73)); replace HO_1 := zm (Kd.V_elder' (zV HO_1.out) (Kd.R_base ho73) hb); replace HO_3 := zm (Kd.V_elder' (zV HO_3.out) (Kd.R_base ho73) hb); replace HO_11 := zm (Kd.V_elder' (zV HO_11.out) (Kd.R_base ho73) hb); have HO172 := zm (Kd.R_lower (Kd.R_new' (Kd.R_new' (Kd.R_new' (Kd.R_new' (Kd.R_new' ho73 (Kd.R_lt (zR HO_7.out))) (Kd.R_lt (zR HO_9.out))) (Kd.R_lt (zR HO160.out))) (Kd.R_lt (zR HO164.out))) (Kd.R_lt (zR HO168.out))) (zS HB)); replace HO_7 := zm (Kd.R_elder' (zR HO_7.out) (Kd.R_base ho73) hb); replace HO_9 := zm (Kd.R_elder' (zR HO_9.out) (Kd.R_base ho73) hb); replace HO160 := zm (Kd.R_elder' (zR HO160.out) (Kd.R_base ho73) hb); replace HO164 := zm (Kd.R_elder' (zR HO164.out) (Kd.R_base ho73) hb); replace HO168 := zm (Kd.R_elder' (zR HO168.out) (Kd.R_base ho73) hb); replace HB := zBb HB hb; clear hb ho73; obtain ⟨Ao74, co74, eo74⟩ := Kd.R_slice HO_9.out; subst eo74; obtain ⟨Ao75, co75, eo75⟩ := Kd.R_slice HO172.out; subst eo75) | (go_at_call 19; (with_reducible refine (r9Same.calls kj11 _ _ t143 _ _ y170 true _ (zC ((Kd.R_reads' HO_9.out).2.2)) ((Kd.R_reads' HO_9.out).2.1) (zC ((Kd.R_reads' HO172.out).2.2)) ((Kd.R_reads' HO172.out).2.1) A57.out).mono ?_); rintro e w' ⟨rfl, ⟨nd, rfl⟩⟩) | ((with_reducible refine gate_dst (N := 93) rfl ?_); (try (refine gate_guard (by rfl) ?_; dsimp only)); refine Kd.R_lit (Kd.int .i64) _ 3 ?hg (N := 93) ?hd (xs := ([0, 1] : List Int)) (inner := [.int .i64 0, .int .i64 1]) (ok := fun _ => True) (okp := fun _ => True) ?hr ?hp (fun _ hk => hk) trivial (Below.refl _ _) (Nat.le_refl _) (by simp) ?_; (case hd => rfl); (case hg => rfl); (case hr => go_simp <;> rfl); (case hp => exact (Reps.one (show Kd.M (Kd.int .i64) _ _ _ 0 [.int .i64 0] from rfl) (Reps.one (show Kd.M (Kd.int .i64) _ _ _ 1 [.int .i64 1] from rfl) (Reps.none _ _)))); intro v175 w76 ho77 hb hg_ hnew_; clear hg_ hnew_; (first | rw [← Ny174.out] at ho77 | (simp only [Int.reduceToNat] at ho77; rw [← Ny174.out] at ho77)); replace HO_1 := zm (Kd.V_elder' (zV HO_1.out) (Kd.R_base ho77) hb); replace HO_3 := zm (Kd.V_elder' (zV HO_3.out) (Kd.R_base ho77) hb); replace HO_11 := zm (Kd.V_elder' (zV HO_11.out) (Kd.R_base ho77) hb); have HO176 := zm (Kd.R_lower (Kd.R_new' (Kd.R_new' (Kd.R_new' (Kd.R_new' (Kd.R_new' (Kd.R_new' ho77 (Kd.R_lt (zR HO_7.out))) (Kd.R_lt (zR HO_9.out))) (Kd.R_lt (zR HO160.out))) (Kd.R_lt (zR HO164.out))) (Kd.R_lt (zR HO168.out))) (Kd.R_lt (zR HO172.out))) (zS HB)); replace HO_7 := zm (Kd.R_elder' (zR HO_7.out) (Kd.R_base ho77) hb); replace HO_9 := zm (Kd.R_elder' (zR HO_9.out) (Kd.R_base ho77) hb); replace HO160 := zm (Kd.R_elder' (zR HO160.out) (Kd.R_base ho77) hb); replace HO164 := zm (Kd.R_elder' (zR HO164.out) (Kd.R_base ho77) hb); replace HO168 := zm (Kd.R_elder' (zR HO168.out) (Kd.R_base ho77) hb); replace HO172 := zm (Kd.R_elder' (zR HO172.out) (Kd.R_base ho77) hb); replace HB := zBb HB hb; clear hb ho77; obtain ⟨Ao78, co78, eo78⟩ := Kd.V_slice HO_11.out; subst eo78; obtain ⟨Ao79, co79, eo79⟩ := Kd.R_slice HO176.out; subst eo79) | (go_at_call 19; (with_reducible refine (r9Same.calls kj11 _ _ t154 _ _ y174 t177 _ (zC ((Kd.V_reads' HO_11.out).2.2)) ((Kd.V_reads' HO_11.out).2.1) (zC ((Kd.R_reads' HO176.out).2.2)) ((Kd.R_reads' HO176.out).2.1) A59.out).mono ?_); rintro e w' ⟨rfl, ⟨nd, rfl⟩⟩))
   go_ret
   exact ⟨zQ, zT⟩
mutual
def lw.j0 : Nat → List Int → Bool → Int → List Int → Option (Bool)
 | 0, _, _, _, _ => none
 | k + 1, x1, x33, x102000, x102001 => if x33 = true then ((l15awake.f k).bind fun t105 => (some t105)) else ((fi_MinPoly.f k x102000 x102001 x1).bind fun bt106 => ((pm_IsIrreducible.f k x102000 bt106.1).bind fun bt110 => (if bt106.2 = 0 then (if bt110.2 = 0 then (if bt110.1 = true then (if (bt106.1.length : Int) < 2 then (none) else (if 0 ≤ (wrap64 ((bt106.1.length : Int) - 1)) then (if (wrap64 ((bt106.1.length : Int) - 1)) < (bt106.1.length : Int) then (if (rd bt106.1 (wrap64 ((bt106.1.length : Int) - 1))) = 1 then (if (wrap64 ((bt106.1.length : Int) - 1)) = 0 then (none) else (if (Int.tmod (wrap64 ((x102001.length : Int) - 1)) (wrap64 ((bt106.1.length : Int) - 1))) = 0 then (lw.j1 k x1 bt106.1 (((bt106.1.length : Int) == 2) != (decide ((x1.length : Int) < 2))) x102000 x102001) else (none))) else (none)) else (none)) else (none))) else (none)) else (none)) else (none))))
def lw.j1 : Nat → List Int → List Int → Bool → Int → List Int → Option (Bool)
 | 0, _, _, _, _, _ => none
 | k + 1, x1, x5, x91, x102000, x102001 => if x91 = true then (none) else (lw.l0 k x1 x5 ([] : List Int) (wrap64 ((x5.length : Int) - 1)) x102000 x102001)
def lw.l0 : Nat → List Int → List Int → List Int → Int → Int → List Int → Option (Bool)
 | 0, _, _, _, _, _, _ => none
 | k + 1, x1, x5, x9, x10, x102000, x102001 => if x10 ≥ 0 then ((fi_Mul.f k x102000 x102001 x9 x1).bind fun bt113 => (if 0 ≤ x10 then (if x10 < (x5.length : Int) then ((r9Trim.f k (([rd x5 x10] : List Int))).bind fun t121 => ((fi_Add.f k x102000 x102001 bt113.1 t121).bind fun bt124 => (if bt113.2 = 0 then (if bt124.2 = 0 then (lw.l0 k x1 x5 bt124.1 (wrap64 (x10 - 1)) x102000 x102001) else (none)) else (none)))) else (none)) else (none))) else (some ((x9.length : Int) == 0))
end
def lw.f (k : Nat) (a0_0 : Int) (l0_1 : List Int) (l1 : List Int) : Option (Bool) := (l15awake.f k).bind fun t102 => (if t102 = true then (if (l0_1.length : Int) > 9 then (lw.j0 k l1 true a0_0 l0_1) else ((r15Check.f k a0_0 l0_1).bind fun t103 => (if t103 = 0 then ((r15Member.f k a0_0 l0_1 l1).bind fun t104 => (lw.j0 k l1 (t104 != 0) a0_0 l0_1)) else (lw.j0 k l1 true a0_0 l0_1)))) else (lw.j0 k l1 true a0_0 l0_1))
theorem lw.mono_l : ∀ k, (∀ y0 y1 y2 y3, LeO (lw.j0 k y0 y1 y2 y3) (lw.j0 (k + 1) y0 y1 y2 y3)) ∧ (∀ y0 y1 y2 y3 y4, LeO (lw.j1 k y0 y1 y2 y3 y4) (lw.j1 (k + 1) y0 y1 y2 y3 y4)) ∧ (∀ y0 y1 y2 y3 y4 y5, LeO (lw.l0 k y0 y1 y2 y3 y4 y5) (lw.l0 (k + 1) y0 y1 y2 y3 y4 y5))
 | 0 => ⟨fun _ _ _ _ r h => by simp [lw.j0] at h, fun _ _ _ _ _ r h => by simp [lw.j1] at h, fun _ _ _ _ _ _ r h => by simp [lw.l0] at h⟩
 | k + 1 => by
  obtain ⟨ih0, ih1, ih2⟩ := lw.mono_l k
  refine ⟨?_, ?_, ?_⟩
  ·intro y0 y1 y2 y3
   unfold lw.j0
   with_reducible repeat' first | exact ih0 _ _ _ _ | exact ih1 _ _ _ _ _ | exact ih2 _ _ _ _ _ _ | exact fi_Add.mono _ _ _ _ _ | exact fi_MinPoly.mono _ _ _ _ | exact fi_Mul.mono _ _ _ _ _ | exact l15awake.mono _ | exact r9Trim.mono _ _ | exact r15Check.mono _ _ _ | exact r15Member.mono _ _ _ _ | exact pm_IsIrreducible.mono _ _ _ | exact LeO.refl _ | exact LeO.none _ | refine LeO.ite ?_ ?_ | refine LeO.bind ?_ (fun _ => ?_)
  ·intro y0 y1 y2 y3 y4
   unfold lw.j1
   with_reducible repeat' first | exact ih0 _ _ _ _ | exact ih1 _ _ _ _ _ | exact ih2 _ _ _ _ _ _ | exact fi_Add.mono _ _ _ _ _ | exact fi_MinPoly.mono _ _ _ _ | exact fi_Mul.mono _ _ _ _ _ | exact l15awake.mono _ | exact r9Trim.mono _ _ | exact r15Check.mono _ _ _ | exact r15Member.mono _ _ _ _ | exact pm_IsIrreducible.mono _ _ _ | exact LeO.refl _ | exact LeO.none _ | refine LeO.ite ?_ ?_ | refine LeO.bind ?_ (fun _ => ?_)
  intro y0 y1 y2 y3 y4 y5
  unfold lw.l0
  with_reducible repeat' first | exact ih0 _ _ _ _ | exact ih1 _ _ _ _ _ | exact ih2 _ _ _ _ _ _ | exact fi_Add.mono _ _ _ _ _ | exact fi_MinPoly.mono _ _ _ _ | exact fi_Mul.mono _ _ _ _ _ | exact l15awake.mono _ | exact r9Trim.mono _ _ | exact r15Check.mono _ _ _ | exact r15Member.mono _ _ _ _ | exact pm_IsIrreducible.mono _ _ _ | exact LeO.refl _ | exact LeO.none _ | refine LeO.ite ?_ ?_ | refine LeO.bind ?_ (fun _ => ?_)
theorem lw.mono : ∀ a0 a1 a2 k, LeO (lw.f k a0 a1 a2) (lw.f (k + 1) a0 a1 a2) := by
 intro a0 a1 a2 k
 obtain ⟨ih0, ih1, ih2⟩ := lw.mono_l k
 unfold lw.f
 with_reducible repeat' first | exact ih0 _ _ _ _ | exact ih1 _ _ _ _ _ | exact ih2 _ _ _ _ _ _ | exact fi_Add.mono _ _ _ _ _ | exact fi_MinPoly.mono _ _ _ _ | exact fi_Mul.mono _ _ _ _ _ | exact l15awake.mono _ | exact r9Trim.mono _ _ | exact r15Check.mono _ _ _ | exact r15Member.mono _ _ _ _ | exact pm_IsIrreducible.mono _ _ _ | exact LeO.refl _ | exact LeO.none _ | refine LeO.ite ?_ ?_ | refine LeO.bind ?_ (fun _ => ?_)
def lw.T12 : Bool × List (List Nat × List Nat) := (true, [([], []), ([], []), ([], []), ([], []), ([2, 3], [2, 3]), ([4], [4]), ([5], [5]), ([6], [6]), ([0, 1, 7, 7], [0, 1, 7]), ([8], [8]), ([9], [9]), ([9], [9]), ([10, 8, 0, 1, 2, 3, 4, 5, 6, 7, 8, 9, 10], [10]), ([11, 12, 0, 1, 2, 3, 4, 5, 6, 7, 8, 9, 10, 11, 12], [11])])
def lw.B12 : List Nat := [0, 0, 0, 0, 12, 28, 60, 124, 255, 511, 1023, 1023, 2047, 8191]
theorem lw.tab12 : rtab .any (opsOf Try.f8 12) = lw.T12 := by kernel_rfl
theorem lw.bits12 : waitsOk lw.T12.2 lw.B12 = true := by kernel_rfl
theorem lw.calls (k : Nat) (a0_0 : Int) (A0_1 : Option Addr) (c0_1 : Nat) (l0_1 : List Int) (A1 : Option Addr) (c1 : Nat) (l1 : List Int) (r : Bool) (w : World) (hr0_1 : Kd.C (Kd.int .i64) w A0_1 l0_1.length l0_1) (hc0_1 : l0_1.length ≤ c0_1) (hr1 : Kd.C (Kd.int .i64) w A1 l1.length l1) (hc1 : l1.length ≤ c1) (h : lw.f k a0_0 l0_1 l1 = some r) :
  Calls Try.prog 8 #[.agg #[.int .i64 a0_0, .slice A0_1 l0_1.length c0_1], .slice A1 l1.length c1] w fun e w' => e = .returned (.bool r) ∧ Below w.heap.size w w' := by
 have hu33 := Try.underlying33
 have HR0_1 := zm hr0_1
 have HC0_1 := zm hc0_1
 clear hr0_1 hc0_1
 have HR1 := zm hr1
 have HC1 := zm hc1
 clear hr1 hc1
 have HB := zm (Below.refl w.heap.size w)
 have H := h; clear h; unfold lw.f at H
 have HC3 := zm H
 clear H
 go_enter Try.func8, Try.ntmps8
 go_upto_region 1 with (first | ((with_reducible refine gate_dst (N := 2) rfl ?_); (try (refine gate_guard (by rfl) ?_; dsimp only)); refine zb 2 #[.int .i64 a0_0, .slice A0_1 l0_1.length c0_1] 33 ?_; intro gb101 hg w4 hbox hb; have BK101 := zm (hbox); have GW101 := zg HB hg; have GE101 := GW101; replace HB := zBb HB hb; clear hb hbox hg))
 (try simp only [Act.put, List.setIfInBounds_toArray, List.set_cons_zero, List.set_cons_succ])
 go_cut [33] (fun v33 wc => ∃ (kq : Nat) (x33_2 : Bool), v33 = .bool x33_2 ∧ Aside0 (lw.j0 kq l1 x33_2 a0_0 l0_1 = some r) ∧ Aside0 (kq ≤ k) ∧ Aside0 (wc.heap[gb101]? = some (.cells #[.int .i64 a0_0, (.slice A0_1 l0_1.length c0_1)] 33 (0, 0))) ∧ Aside0 (Below w.heap.size w wc))
 case first => as_aux_lemma =>
  have H := HC3.out
  clear HC3
  obtain ⟨t102, A5, H⟩ := zO H
  by_cases c6 : t102 = true
  rotate_left
  ·replace c6 := Bool.eq_false_iff.mpr c6
   subst c6
   rw [if_neg Bool.false_ne_true] at H
   have H' := zm H
   clear H
   go_wp2_with (first | ((with_reducible refine gate_callee (f := 9) rfl ?_); refine zG (some 15) Try.func9 #[] ?_; (with_reducible refine (l15awake.calls k  false _ A5.out).mono ?_); rintro e w21 ⟨rfl, hb⟩; refine ⟨_, rfl, ?_⟩; replace BK101 := zKb BK101 hb; replace HB := zBb HB hb))
   go_meet
   case rel => exact ⟨_, (true), zX, H', ⟨by first | omega | exact Nat.le_refl _⟩, ⟨zK BK101.out⟩, ⟨zT⟩⟩
  subst c6
  rw [if_pos rfl] at H
  by_cases c7 : (l0_1.length : Int) > 9
  ·rw [if_pos c7] at H
   have c7b0 : decide (9 < (l0_1.length : Int)) = true := decide_eq_true c7
   have c7b1 : decide (9 < l0_1.length) = true := decide_eq_true (by omega)
   clear c7
   (first | rw [c7b0] | (simp only [i64_w, i32_w]; rw [c7b0]) | skip)
   have H' := zm H
   clear H
   go_wp2_with (first | ((with_reducible refine gate_callee (f := 9) rfl ?_); refine zG (some 15) Try.func9 #[] ?_; (with_reducible refine (l15awake.calls k  true _ A5.out).mono ?_); rintro e w8 ⟨rfl, hb⟩; refine ⟨_, rfl, ?_⟩; replace BK101 := zKb BK101 hb; replace HB := zBb HB hb; obtain ⟨hcz9_0, hcz9_1, hfz9_0, hfz9_1⟩ := zf2 BK101))
   go_meet
   case rel => exact ⟨_, (true), zX, H', ⟨by first | omega | exact Nat.le_refl _⟩, ⟨zK BK101.out⟩, ⟨zT⟩⟩
  rw [if_neg c7] at H
  have c7b0 : decide (9 < (l0_1.length : Int)) = false := decide_eq_false c7
  have c7b1 : decide (9 < l0_1.length) = false := decide_eq_false (by omega)
  clear c7
  (first | rw [c7b0] | (simp only [i64_w, i32_w]; rw [c7b0]) | skip)
  obtain ⟨t103, A10, H⟩ := zO H
  by_cases c11 : t103 = 0
  rotate_left
  ·rw [if_neg c11] at H
   obtain ⟨c11b0, c11b1⟩ := zU c11
   have H' := zm H
   clear H
   go_wp2_with (first | ((with_reducible refine gate_callee (f := 9) rfl ?_); refine zG (some 15) Try.func9 #[] ?_; (with_reducible refine (l15awake.calls k  true _ A5.out).mono ?_); rintro e w18 ⟨rfl, hb⟩; refine ⟨_, rfl, ?_⟩; replace BK101 := zKb BK101 hb; replace HB := zBb HB hb; obtain ⟨hcz19_0, hcz19_1, hfz19_0, hfz19_1⟩ := zf2 BK101) | (go_at_call 24; (with_reducible refine (r15Check.calls k a0_0 _ _ l0_1 t103 _ (zC (Kd.C_below HR0_1.out HB.out)) HC0_1.out A10.out).mono ?_); rintro e w20 ⟨rfl, hb⟩; replace BK101 := zKb BK101 hb; replace HB := zBb HB hb))
   go_meet
   case rel => exact ⟨_, (true), zX, H', ⟨by first | omega | exact Nat.le_refl _⟩, ⟨zK BK101.out⟩, ⟨zT⟩⟩
  rw [if_pos c11] at H
  obtain ⟨c11b0, c11b1⟩ := zE c11; clear c11
  obtain ⟨t104, A12, H⟩ := zO H
  have H' := zm H
  clear H
  go_wp2_with (first | ((with_reducible refine gate_callee (f := 9) rfl ?_); refine zG (some 15) Try.func9 #[] ?_; (with_reducible refine (l15awake.calls k  true _ A5.out).mono ?_); rintro e w13 ⟨rfl, hb⟩; refine ⟨_, rfl, ?_⟩; replace BK101 := zKb BK101 hb; replace HB := zBb HB hb; obtain ⟨hcz14_0, hcz14_1, hfz14_0, hfz14_1⟩ := zf2 BK101) | (go_at_call 24; (with_reducible refine (r15Check.calls k a0_0 _ _ l0_1 t103 _ (zC (Kd.C_below HR0_1.out HB.out)) HC0_1.out A10.out).mono ?_); rintro e w15 ⟨rfl, hb⟩; replace BK101 := zKb BK101 hb; replace HB := zBb HB hb; obtain ⟨hcz16_0, hcz16_1, hfz16_0, hfz16_1⟩ := zf2 BK101) | (go_at_call 31; (with_reducible refine (r15Member.calls k a0_0 _ _ l0_1 _ _ l1 t104 _ (zC (Kd.C_below HR0_1.out HB.out)) HC0_1.out (zC (Kd.C_below HR1.out HB.out)) HC1.out A12.out).mono ?_); rintro e w17 ⟨rfl, hb⟩; replace BK101 := zKb BK101 hb; replace HB := zBb HB hb))
  go_meet
  case rel => exact ⟨_, ((t104 != 0)), zX, H', ⟨by first | omega | exact Nat.le_refl _⟩, ⟨zK BK101.out⟩, ⟨zT⟩⟩
 case rest => as_aux_lemma =>
  clear HC3
  obtain ⟨kq, x33_2, rfl, HA, HJ2, BK101, HB⟩ := hcut
  cases kq with
  | zero => exact absurd HA.out (by simp [lw.j0])
  | succ kj2 =>
   have H := HA.out
   clear HA
   simp only [lw.j0] at H
   by_cases c22 : x33_2 = true
   ·subst c22
    rw [if_pos rfl] at H
    obtain ⟨t105, A23, H⟩ := zO H
    obtain rfl := Option.some.inj H
    go_wp2_with (first | ((with_reducible refine gate_callee (f := 9) rfl ?_); refine zG (some 34) Try.func9 #[] ?_; (with_reducible refine (l15awake.calls kj2  t105 _ A23.out).mono ?_); rintro e w24 ⟨rfl, hb⟩; refine ⟨_, rfl, ?_⟩; replace BK101 := zKb BK101 hb; replace HB := zBb HB hb))
    go_ret
    exact ⟨zQ, zT⟩
   replace c22 := Bool.eq_false_iff.mpr c22
   subst c22
   rw [if_neg Bool.false_ne_true] at H
   obtain ⟨⟨t106, t109⟩, A25, H⟩ := zO H; try dsimp only at H
   obtain ⟨⟨t110, t111⟩, A26, H⟩ := zO H; try dsimp only at H
   have HC27 := zm H
   clear H
   obtain ⟨hcz28_0, hcz28_1, hfz28_0, hfz28_1⟩ := zf2 BK101
   go_upto_region 5 with (first | ((with_reducible refine gate_callee (f := 39) rfl ?_); refine zG (some 38) Try.func39 #[.agg #[.int .i64 a0_0, .slice A0_1 l0_1.length c0_1], .slice A1 l1.length c1] ?_; (with_reducible refine (fi_MinPoly.calls kj2 a0_0 _ _ l0_1 (fun k_ => k_ < w.heap.size) _ _ l1 t106 t109 _ ?side1 ?side2 ?side3 A25.out).mono ?_); (case side1 => exact zC (Kd.C_below HR0_1.out HB.out)); (case side2 => exact HC0_1.out); (case side3 => exact Kd.V_mk HC1.out (Kd.F_below (Kd.C_F (Kd.heap_int .i64) HR1.out) (zT))); rintro e w29 ⟨v107, rfl, ho0, hb⟩; refine ⟨_, rfl, ?_⟩; have HO108 := zm (Kd.R_lower (Kd.R_mono (ok' := fun k_ => True) ho0 (fun _ hk_ => trivial)) (zS HB)); replace BK101 := zKb BK101 hb; replace HB := zBb HB hb; obtain ⟨hcz30_0, hcz30_1, hfz30_0, hfz30_1⟩ := zf2 BK101; obtain ⟨Ao31, co31, eo31⟩ := Kd.R_slice HO108.out; subst eo31) | ((with_reducible refine gate_callee (f := 40) rfl ?_); refine zG (some 45) Try.func40 #[.int .i64 a0_0, .slice Ao31 t106.length co31] ?_; (with_reducible refine (pm_IsIrreducible.calls kj2 a0_0 (fun k_ => some k_ = (.slice Ao31 t106.length co31 : Value).ownBlock) _ _ t106 t110 t111 _ ?side1 A26.out).mono ?_); (case side1 => exact Kd.R_V (Kd.R_tight rfl (Kd.R_types (HO108.out) BK101.out (by decide)))); rintro e w32 ⟨rfl, hb⟩; refine ⟨_, rfl, ?_⟩; replace HO108 := zRb HO108 hb; replace BK101 := zKb BK101 hb; replace HB := zBb HB hb))
   (try simp only [Act.put, List.setIfInBounds_toArray, List.set_cons_zero, List.set_cons_succ])
   go_cut [91] (fun v91 wc => ∃ (kq : Nat) (x91_26 : Bool), v91 = .bool x91_26 ∧ Aside0 (lw.j1 kq l1 t106 x91_26 a0_0 l0_1 = some r) ∧ Aside0 (kq ≤ kj2) ∧ Aside0 (Kd.R (Kd.int .i64) 3 wc w.heap.size (fun _ => True) (.slice Ao31 t106.length co31) t106) ∧ Aside0 (wc.heap[gb101]? = some (.cells #[.int .i64 a0_0, (.slice A0_1 l0_1.length c0_1)] 33 (0, 0))) ∧ Aside0 (Below w.heap.size w wc))
   case first => as_aux_lemma =>
    have H := HC27.out
    clear HC27
    by_cases c33 : t109 = 0
    rotate_left
    ·rw [if_neg c33] at H
     exact absurd H (by simp)
    rw [if_pos c33] at H
    obtain ⟨c33b0, c33b1⟩ := zE c33; clear c33
    (first | rw [c33b0] | (simp only [i64_w, i32_w]; rw [c33b0]) | skip)
    by_cases c34 : t111 = 0
    rotate_left
    ·rw [if_neg c34] at H
     exact absurd H (by simp)
    rw [if_pos c34] at H
    obtain ⟨c34b0, c34b1⟩ := zE c34; clear c34
    by_cases c35 : t110 = true
    rotate_left
    ·replace c35 := Bool.eq_false_iff.mpr c35
     subst c35
     have H1 : (none) = some r := by rw [if_neg (show ¬ (false = true) by decide)] at H; exact H
     exact absurd H1 (by simp)
    subst c35
    rw [if_pos rfl] at H
    by_cases c36 : (t106.length : Int) < 2
    ·rw [if_pos c36] at H
     exact absurd H (by simp)
    rw [if_neg c36] at H
    have c36b0 : decide ((t106.length : Int) < 2) = false := decide_eq_false c36
    have c36b1 : decide (t106.length < 2) = false := decide_eq_false (by omega)
    clear c36
    obtain ⟨ji37, hji37⟩ : ∃ j_ : Int, (wrap64 ((t106.length : Int) - 1)) = j_ := ⟨_, rfl⟩
    first | rw [hji37] at H | simp only [hji37] at H
    have hji37w : (IntKind.i64.wrap ((t106.length : Int) - 1)) = ji37 := (i64_w _).trans hji37
    by_cases c38 : 0 ≤ (ji37)
    rotate_left
    ·rw [if_neg c38] at H
     exact absurd H (by simp)
    rw [if_pos c38] at H
    have c38b0 := decide_eq_true c38; clear c38
    by_cases c39 : (ji37) < (t106.length : Int)
    rotate_left
    ·rw [if_neg c39] at H
     exact absurd H (by simp)
    rw [if_pos c39] at H
    have c39b0 := decide_eq_true c39; clear c39
    by_cases c40 : (rd t106 (ji37)) = 1
    rotate_left
    ·rw [if_neg c40] at H
     exact absurd H (by simp)
    rw [if_pos c40] at H
    obtain ⟨c40b0, c40b1⟩ := zE c40; clear c40
    by_cases c41 : (ji37) = 0
    ·rw [if_pos c41] at H
     exact absurd H (by simp)
    rw [if_neg c41] at H
    obtain ⟨c41b0, c41b1⟩ := zU c41
    by_cases c42 : (Int.tmod (wrap64 ((l0_1.length : Int) - 1)) (ji37)) = 0
    rotate_left
    ·rw [if_neg c42] at H
     exact absurd H (by simp)
    rw [if_pos c42] at H
    obtain ⟨c42b0, c42b1⟩ := zE c42; clear c42
    have H' := zm H
    clear H
    obtain ⟨p112, q112, ad112, e112, hx112_0⟩ := zI ((Kd.R_reads' HO108.out).2.2) ((ji37)) zD zD
    cases e112
    obtain ⟨hcz43_0, hcz43_1, hfz43_0, hfz43_1⟩ := zf2 BK101
    go_wp2
    go_meet
    case rel => exact ⟨_, ((((t106.length : Int) == 2) != (decide ((l1.length : Int) < 2)))), zX, H', ⟨by have := HJ2.out; first | omega | exact Nat.le_refl _⟩, ⟨zR HO108.out⟩, ⟨zK BK101.out⟩, ⟨zT⟩⟩
   case rest => as_aux_lemma =>
    clear HC27
    obtain ⟨kq, x91_26, rfl, HA, HJ26, HO_5, BK101, HB⟩ := hcut
    cases kq with
    | zero => exact absurd HA.out (by simp [lw.j1])
    | succ kj26 =>
     have H := HA.out
     clear HA
     simp only [lw.j1] at H
     by_cases c45 : x91_26 = true
     ·subst c45
      rw [if_pos rfl] at H
      exact absurd H (by simp)
     replace c45 := Bool.eq_false_iff.mpr c45
     subst c45
     rw [if_neg Bool.false_ne_true] at H
     have H' := zm H
     clear H
     go_wp2
     go_loopg [9, 10] kj26 (fun kq v9 v10 w' => ∃ (x9_3 : List Int) (x10_3 : Int), v10 = .int .i64 x10_3 ∧ Aside0 (lw.l0 kq l1 t106 x9_3 x10_3 a0_0 l0_1 = some r) ∧ Aside0 (kq ≤ kj26) ∧ Aside0 (Kd.R (Kd.int .i64) 3 w' w.heap.size (fun _ => True) (.slice Ao31 t106.length co31) t106) ∧ Aside0 (Kd.V (Kd.int .i64) 3 w' w.heap.size (fun k_ => some k_ ≠ ((.slice Ao31 t106.length co31) : Value).ownBlock ∧ k_ ≠ gb101) v9 x9_3) ∧ Aside0 (w'.heap[gb101]? = some (.cells #[.int .i64 a0_0, (.slice A0_1 l0_1.length c0_1)] 33 (0, 0))) ∧ Aside0 (Below w.heap.size w w'))
     case atStart => exact ⟨(([] : List Int)), (wrap64 ((t106.length : Int) - 1)), zX, H', ⟨Nat.le_refl _⟩, ⟨zR HO_5.out⟩, ⟨zL⟩, ⟨zK BK101.out⟩, ⟨zT⟩⟩
     case round =>
      clear H'
      obtain ⟨x9_3, x10_3, rfl, HA, HK3, HO_5, HO_9, BK101, HB⟩ := hrel
      cases gk with
      | zero => exact absurd HA.out (by simp [lw.l0])
      | succ k3 =>
       have H := HA.out
       clear HA
       simp only [lw.l0] at H
       by_cases c46 : x10_3 ≥ 0
       rotate_left
       ·rw [if_neg c46] at H
        have c46b0 := decide_eq_false c46; clear c46
        obtain rfl := Option.some.inj H
        obtain ⟨Ao65, co65, eo65⟩ := Kd.V_slice HO_9.out
        subst eo65
        go_wp2
        go_ret
        exact ⟨zQ, zT⟩
       rw [if_pos c46] at H
       have c46b0 := decide_eq_true c46; clear c46
       obtain ⟨⟨t113, t116⟩, A47, H⟩ := zO H; try dsimp only at H
       by_cases c48 : 0 ≤ x10_3
       rotate_left
       ·rw [if_neg c48] at H
        exact absurd H (by simp)
       rw [if_pos c48] at H
       have c48b0 := decide_eq_true c48; clear c48
       by_cases c49 : x10_3 < (t106.length : Int)
       rotate_left
       ·rw [if_neg c49] at H
        exact absurd H (by simp)
       rw [if_pos c49] at H
       have c49b0 := decide_eq_true c49; clear c49
       obtain ⟨y118, Ny118⟩ := zA ((([rd t106 x10_3] : List Int)) : List Int); rw [← Ny118.out] at H
       obtain ⟨t121, A50, H⟩ := zO H
       obtain ⟨⟨t124, t127⟩, A51, H⟩ := zO H; try dsimp only at H
       by_cases c52 : t116 = 0
       rotate_left
       ·rw [if_neg c52] at H
        exact absurd H (by simp)
       rw [if_pos c52] at H
       obtain ⟨c52b0, c52b1⟩ := zE c52; clear c52
       by_cases c53 : t127 = 0
       rotate_left
       ·rw [if_neg c53] at H
        exact absurd H (by simp)
       rw [if_pos c53] at H
       obtain ⟨c53b0, c53b1⟩ := zE c53; clear c53
       have H' := zm H
       clear H
       obtain ⟨hcz54_0, hcz54_1, hfz54_0, hfz54_1⟩ := zf2 BK101
       obtain ⟨Ao55, co55, eo55⟩ := Kd.V_slice HO_9.out
       subst eo55
       try go_wp2_with (first | ((with_reducible refine gate_callee (f := 18) rfl ?_); refine zG (some 103) Try.func18 #[.agg #[.int .i64 a0_0, .slice A0_1 l0_1.length c0_1], .slice Ao55 x9_3.length co55, .slice A1 l1.length c1] ?_; (with_reducible refine (fi_Mul.calls k3 a0_0 _ _ l0_1 (fun k_ => (some k_ ≠ (.slice Ao31 t106.length co31 : Value).ownBlock ∧ k_ ≠ gb101)) _ _ x9_3 (fun k_ => k_ < w.heap.size) _ _ l1 t113 t116 _ ?side1 ?side2 ?side3 ?side4 A47.out).mono ?_); (case side1 => exact zC (Kd.C_below HR0_1.out HB.out)); (case side2 => exact HC0_1.out); (case side3 => exact HO_9.out); (case side4 => exact Kd.V_mk HC1.out (Kd.F_below (Kd.C_F (Kd.heap_int .i64) HR1.out) (zT))); rintro e w56 ⟨v114, rfl, ho0, hb⟩; refine ⟨_, rfl, ?_⟩; replace HO_9 := zVb HO_9 hb; have HO115 := zm (Kd.V_lower (Kd.V_mono (ok' := fun k_ => some k_ ≠ (.slice Ao31 t106.length co31 : Value).ownBlock ∧ k_ ≠ gb101) ho0 (fun k_ hk_ => ⟨Or.elim hk_ (fun hs_ => Or.elim hs_ (fun hs_ => hs_.1) (fun hs_ => fun e_ => Nat.not_le.2 hs_ (Kd.R_base HO_5.out k_ e_.symm))) (fun hn_ => (Kd.fresh' (Kd.R_lt (zR HO_5.out)) k_ hn_)), Or.elim hk_ (fun hs_ => Or.elim hs_ (fun hs_ => hs_.2) (fun hs_ => fun e_ => Nat.not_le.2 hs_ (by rw [e_]; exact GW101.out))) (fun hn_ => (Kd.freshB (zK BK101.out) k_ hn_))⟩)) (zS HB)); replace HO_5 := zRb HO_5 hb; replace BK101 := zKb BK101 hb; replace HB := zBb HB hb))
       replace HO_5 := zm (Kd.R_drew HO_5.out)
       replace HO_9 := zm (Kd.V_drew HO_9.out)
       replace HO115 := zm (Kd.V_drew HO115.out)
       replace BK101 := zm (blk_drew BK101.out)
       replace HB := zm (below_drew1 HB.out)
       obtain ⟨p117, q117, ad117, e117, hx117_0⟩ := zI ((Kd.R_reads' HO_5.out).2.2) (x10_3) zD zD
       cases e117
       refine start_ (n := 14) (S := fun w' => w'.cell? ⟨gb101, 0, none⟩ = some (.int .i64 a0_0) ∧ w'.cell? ⟨gb101, 1, none⟩ = some (.slice A0_1 l0_1.length c0_1) ∧ w'.cell? (ad117.add (x10_3).toNat) = some (.int .i64 (rd t106 x10_3))) (ds := []) #[false, false, false, false, false, false, false, false, false, false, false, false, false, false] (by kernel_rfl) rfl rfl ⟨(blk_cell BK101.out 0).trans rfl, (blk_cell BK101.out 1).trans rfl, hx117_0⟩ (fun hHeld => ?_); refine with_tabW lw.tab12 lw.bits12 (fun HT_ HW_ => ?_)
       generalize w56.drew = w57 at HO_5 HO_9 HO115 BK101 HB hx117_0 hHeld ⊢
       refine zP 1 108 ?_; refine zP 2 109 ?_; refine zP 3 110 ?_; refine zP 4 111 ?_
       refine take_ (i := 0) (N := some 107) (v := ?_) (a' := ?_) #[true, true, true, true, true, false, false, false, false, false, false, false, false, false] rfl rfl (take_ofW HT_.out HW_.out (by kernel_rfl)) (fun _ _ _ h => h) (Or.inl ⟨by rfl, ?_⟩) hHeld ?_ ?_
       rotate_left
       ·rintro w' ⟨s0, s1, s2⟩
        go_simp
        with_reducible rfl
       rotate_left
       ·simp only [Act.put, List.setIfInBounds_toArray, List.set_cons_zero, List.set_cons_succ, i64_w, i32_w]
        rfl
       refine take_ (i := 5) (N := some 112) (v := ?_) (a' := ?_) #[true, true, true, true, true, true, false, false, false, false, false, false, false, false] rfl rfl (take_ofW HT_.out HW_.out (by kernel_rfl)) (fun _ _ _ h => h) (Or.inl ⟨by rfl, ?_⟩) hHeld ?_ ?_
       rotate_left
       ·rintro w' ⟨s0, s1, s2⟩
        go_simp
        with_reducible rfl
       rotate_left
       ·simp only [Act.put, List.setIfInBounds_toArray, List.set_cons_zero, List.set_cons_succ, i64_w, i32_w]
        rfl
       refine one_ (i := 6) (N := some 113) #[true, true, true, true, true, true, true, false, false, false, false, false, false, false] rfl rfl (one_of HT_.out (by kernel_rfl)) (by decide) (fun K hK => ?_)
       refine Kd.R_lit_step (Kd.int .i64) _ 3 ?hg (N := 113) ?hd (xs := ([rd t106 x10_3] : List Int)) (inner := [.int .i64 (rd t106 x10_3)]) (ok := fun _ => True) (okp := fun _ => True) ?hr ?hp (fun _ hk => hk) trivial (Below.refl _ _) (Nat.le_refl _) (by simp) ?_; (case hd => rfl); (case hg => rfl); (case hr => go_simp <;> rfl); (case hp => exact (Reps.one (show Kd.M (Kd.int .i64) _ _ _ (rd t106 x10_3) [.int .i64 (rd t106 x10_3)] from rfl) (Reps.none _ _)))
       intro v119 w58 ho59 hb hg_ hnew_
       have HS2_ := (hb.cell (World.block_lt_of_cell? _ _ (hHeld.2.2))).trans (hHeld.2.2)
       clear hg_ hnew_
       (first | rw [← Ny118.out] at ho59 | (simp only [Int.reduceToNat] at ho59; rw [← Ny118.out] at ho59))
       replace HO_9 := zm (Kd.V_elder' (zV HO_9.out) (Kd.R_base ho59) hb)
       replace HO115 := zm (Kd.V_elder' (zV HO115.out) (Kd.R_base ho59) hb)
       have HO120 := zm (Kd.R_lower (Kd.R_new' ho59 (Kd.R_lt (zR HO_5.out))) (zS HB))
       replace HO_5 := zm (Kd.R_elder' (zR HO_5.out) (Kd.R_base ho59) hb)
       replace BK101 := zKb BK101 hb
       replace HB := zBb HB hb
       clear hb ho59
       obtain ⟨Ao60, co60, eo60⟩ := Kd.R_slice HO120.out
       (first | subst eo60 | (injection eo60 with f1_ f2_ f3_; have f4_ := f1_.symm; have f5_ := f3_.symm; clear f1_ f2_ f3_; subst f4_; subst f5_))
       refine hK.out _ _ ⟨(blk_cell BK101.out 0).trans rfl, (blk_cell BK101.out 1).trans rfl, HS2_⟩ (fun hHeld => ?_)
       clear hK K
       refine norm_ (a' := ?_) ?_ ?_
       rotate_left
       ·show Act.put _ (some 113) _ = _
        simp only [Act.put, List.setIfInBounds_toArray, List.set_cons_zero, List.set_cons_succ, i64_w, i32_w]
        rfl
       refine one_ (i := 7) (N := some 114) #[true, true, true, true, true, true, true, true, false, false, false, false, false, false] rfl rfl (one_of HT_.out (by kernel_rfl)) (by decide) (fun K hK => ?_)
       refine goes_ Try.func41 (by kernel_rfl) rfl #[.slice Ao60 y118.length co60] (by rfl) rfl rfl (by (try simp only [List.map_toArray, List.map_cons, List.map_nil]); first | done | rfl | (simp only [List.length_drop, List.length_take]; rfl)) ?_
       with_reducible refine (r9Trim.calls k3 (fun k_ => some k_ = (.slice Ao60 y118.length co60 : Value).ownBlock) _ _ y118 t121 _ ?side1 A50.out).mono ?_
       (case side1 => exact Kd.R_V (Kd.R_tight rfl (Kd.R_types (HO120.out) BK101.out (by decide))))
       rintro e w61 ⟨v122, rfl, ho0, hb⟩
       have HS2_ := (hb.cell (World.block_lt_of_cell? _ _ (hHeld.2.2))).trans (hHeld.2.2)
       refine ⟨_, rfl, ?_⟩
       replace HO_9 := zVb HO_9 hb
       replace HO115 := zVb HO115 hb
       have HO123 := zm (Kd.V_lower (Kd.V_mono (ok' := fun k_ => some k_ ≠ (.slice (some ad117) t106.length co31 : Value).ownBlock ∧ k_ ≠ gb101) ho0 (fun k_ hk_ => ⟨Or.elim hk_ (fun hs_ => ((Kd.R_types (HO120.out) BK101.out (by decide)).1 k_ hs_.symm).1.2) (fun hn_ => (Kd.fresh' (Kd.R_lt (zR HO_5.out)) k_ hn_)), Or.elim hk_ (fun hs_ => ((Kd.R_types (HO120.out) BK101.out (by decide)).1 k_ hs_.symm).2) (fun hn_ => (Kd.freshB (zK BK101.out) k_ hn_))⟩)) (zS HB))
       replace HO_5 := zRb HO_5 hb
       replace HO120 := zRb HO120 hb
       replace BK101 := zKb BK101 hb
       replace HB := zBb HB hb
       (try clear hb)
       (try clear hb2)
       (try clear hk)
       (try clear hi)
       (try clear ho0)
       obtain ⟨Ao62, co62, eo62⟩ := Kd.V_slice HO115.out
       (first | subst eo62 | (injection eo62 with f1_ f2_ f3_; have f4_ := f1_.symm; have f5_ := f3_.symm; clear f1_ f2_ f3_; subst f4_; subst f5_))
       obtain ⟨Ao63, co63, eo63⟩ := Kd.V_slice HO123.out
       (first | subst eo63 | (injection eo63 with f1_ f2_ f3_; have f4_ := f1_.symm; have f5_ := f3_.symm; clear f1_ f2_ f3_; subst f4_; subst f5_))
       refine hK.out _ _ ⟨(blk_cell BK101.out 0).trans rfl, (blk_cell BK101.out 1).trans rfl, HS2_⟩ (fun hHeld => ?_)
       clear hK K
       refine norm_ (a' := ?_) ?_ ?_
       rotate_left
       ·show Act.put _ (some 114) _ = _
        simp only [Act.put, List.setIfInBounds_toArray, List.set_cons_zero, List.set_cons_succ, i64_w, i32_w]
        rfl
       refine one_ (i := 8) (N := some 115) #[true, true, true, true, true, true, true, true, true, false, false, false, false, false] rfl rfl (one_of HT_.out (by kernel_rfl)) (by decide) (fun K hK => ?_)
       refine goes_ Try.func21 (by kernel_rfl) rfl #[.agg #[.int .i64 a0_0, .slice A0_1 l0_1.length c0_1], .slice Ao62 t113.length co62, .slice Ao63 t121.length co63] (by rfl) rfl rfl (by (try simp only [List.map_toArray, List.map_cons, List.map_nil]); first | done | rfl | (simp only [List.length_drop, List.length_take]; rfl)) ?_
       with_reducible refine (fi_Add.calls k3 a0_0 _ _ l0_1 (fun k_ => ((some k_ ≠ (.slice (some ad117) t106.length co31 : Value).ownBlock ∧ k_ ≠ gb101) ∧ some k_ ≠ (.slice Ao60 y118.length co60 : Value).ownBlock)) _ _ t113 (fun k_ => (some k_ ≠ (.slice (some ad117) t106.length co31 : Value).ownBlock ∧ k_ ≠ gb101)) _ _ t121 t124 t127 _ ?side1 ?side2 ?side3 ?side4 A51.out).mono ?_
       (case side1 => exact zC (Kd.C_below HR0_1.out HB.out))
       (case side2 => exact HC0_1.out)
       (case side3 => exact HO115.out)
       (case side4 => exact HO123.out)
       rintro e w64 ⟨v125, rfl, ho0, hb⟩
       have HS2_ := (hb.cell (World.block_lt_of_cell? _ _ (hHeld.2.2))).trans (hHeld.2.2)
       refine ⟨_, rfl, ?_⟩
       replace HO_9 := zVb HO_9 hb
       replace HO115 := zVb HO115 hb
       replace HO120 := zRb HO120 hb
       replace HO123 := zVb HO123 hb
       have HO126 := zm (Kd.V_lower (Kd.V_mono (ok' := fun k_ => some k_ ≠ (.slice (some ad117) t106.length co31 : Value).ownBlock ∧ k_ ≠ gb101) ho0 (fun k_ hk_ => ⟨Or.elim hk_ (fun hs_ => Or.elim hs_ (fun hs_ => hs_.1.1) (fun hs_ => hs_.1)) (fun hn_ => (Kd.fresh' (Kd.R_lt (zR HO_5.out)) k_ hn_)), Or.elim hk_ (fun hs_ => Or.elim hs_ (fun hs_ => hs_.1.2) (fun hs_ => hs_.2)) (fun hn_ => (Kd.freshB (zK BK101.out) k_ hn_))⟩)) (zS HB))
       replace HO_5 := zRb HO_5 hb
       replace BK101 := zKb BK101 hb
       replace HB := zBb HB hb
       (try clear hb)
       (try clear hb2)
       (try clear hk)
       (try clear hi)
       (try clear ho0)
       refine hK.out _ _ ⟨(blk_cell BK101.out 0).trans rfl, (blk_cell BK101.out 1).trans rfl, HS2_⟩ (fun hHeld => ?_)
       clear hK K
       refine norm_ (a' := ?_) ?_ ?_
       rotate_left
       ·show Act.put _ (some 115) _ = _
        simp only [Act.put, List.setIfInBounds_toArray, List.set_cons_zero, List.set_cons_succ, i64_w, i32_w]
        rfl
       refine zP 9 106 ?_; refine zP 10 116 ?_; refine zP 11 117 ?_; refine zP 12 13 ?_; refine zP 13 14 ?_
       refine done_ (done_of HT_.out (by kernel_rfl)) ?_
       try go_wp2
       go_roundg k3
       case measure => have := HJ2.out; have := HJ26.out; have := HK3.out; omega
       case rel => exact ⟨(t124), (wrap64 (x10_3 - 1)), zX, H', ⟨by have := HJ2.out; have := HJ26.out; have := HK3.out; omega⟩, ⟨zR (Kd.R_mono HO_5.out (fun _ hk => trivial))⟩, ⟨zV HO126.out⟩, ⟨zK BK101.out⟩, ⟨zT⟩⟩
def lw.Pure : Prop := ∀ (a0_0 : Int) (l0_1 : List Int) (l1 : List Int), (Lit.int .i64 a0_0).wf = true → l0_1.length ≤ maxLen → l0_1.length * 8 ≤ 140737488351232 → (∀ x ∈ l0_1, (Lit.int .i64 x).wf = true) → l1.length ≤ maxLen → l1.length * 8 ≤ 140737488351232 → (∀ x ∈ l1, (Lit.int .i64 x).wf = true) → ∃ k, lw.f k a0_0 l0_1 l1 = some true
theorem lw.walk (P : lw.Pure) (a0_0 : Int) (a0_1 : Option Addr) (len0_1 cap0_1 : Nat) (z0_1 : List Int) (a1 : Option Addr) (len1 cap1 : Nat) (z1 : List Int) (w : World) (w0_0 : (Lit.int .i64 a0_0).wf = true) (w0_1 : (a0_1 = none ∧ len0_1 = 0 ∧ cap0_1 = 0 ∧ z0_1 = []) ∨ ∃ x, a0_1 = some x ∧ len0_1 ≤ cap0_1 ∧ cap0_1 ≤ maxLen ∧ z0_1.length = cap0_1 ∧ (∀ i, i < z0_1.length → w.cell? (x.add i) = some (.int .i64 (z0_1.getD i 0))) ∧ ∀ n ∈ z0_1, (Lit.int .i64 n).wf = true) (y0_1 : len0_1 * 8 ≤ 140737488351232) (w1 : (a1 = none ∧ len1 = 0 ∧ cap1 = 0 ∧ z1 = []) ∨ ∃ x, a1 = some x ∧ len1 ≤ cap1 ∧ cap1 ≤ maxLen ∧ z1.length = cap1 ∧ (∀ i, i < z1.length → w.cell? (x.add i) = some (.int .i64 (z1.getD i 0))) ∧ ∀ n ∈ z1, (Lit.int .i64 n).wf = true) (y1 : len1 * 8 ≤ 140737488351232) :
  Calls Try.prog 8 #[.agg #[.int .i64 a0_0, .slice a0_1 len0_1 cap0_1], .slice a1 len1 cap1] w fun e w' => e = .returned (.bool true) ∧ Below w.heap.size w w' := by
 obtain ⟨l0_1, rfl, hr0_1, hm0_1, hw0_1, hc0_1⟩ := ReadsInt.ofRowC w0_1
 obtain ⟨l1, rfl, hr1, hm1, hw1, hc1⟩ := ReadsInt.ofRowC w1
 obtain ⟨k, h⟩ := P a0_0 l0_1 l1 w0_0 hm0_1 y0_1 hw0_1 hm1 y1 hw1
 refine (lw.calls k a0_0 _ _ l0_1 _ _ l1 true w (Kd.C_of_reads (d := (0 : Int)) (h1 := fun _ => rfl) hr0_1) hc0_1 (Kd.C_of_reads (d := (0 : Int)) (h1 := fun _ => rfl) hr1) hc1 h).mono ?_
 rintro e w' ⟨rfl, hd⟩
 exact ⟨rfl, hd⟩
end Go.Proofs.Ytalnaafmonmlmaa.Q
end

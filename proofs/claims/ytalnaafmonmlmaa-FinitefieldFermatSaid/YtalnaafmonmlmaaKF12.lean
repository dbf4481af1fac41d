/- Machine side and arithmetic of the law, put together by a program of the session. No conditions. -/
import Derived.Test.YtalnaafmonmlmaaProg
import Derived.Below
import Derived.Deep.Draws
import Derived.Deep.AppendLies
import Derived.Maps.AppendAt
import Derived.OwnWalk
import Derived.Laws.BytesArg
import Derived.Laws.MakeOwn
import Derived.Laws.OwnMore
import Derived.Deep.OwnRows
import Derived.Tactics
import Derived.Lib.ConvBytes
import Derived.Laws.Slices
import Derived.WalkKit
import Derived.KernelRfl
import Derived.RowKit3
import Derived.Deep.LoopGhost
import Derived.Deep.QuietTactic
import Derived.BigQuiet
import Derived.WideLaws
import Derived.Deep.DeepCutAuto
import Derived.Deep.CutBlock
import Derived.Deep.RegionHeld3
import Derived.Laws.Rows
import Derived.Lib.AppendStr
import Derived.ArgAppend
import Derived.Laws.IdiomCopy
import Derived.OrdersHeld
import Derived.Laws.BitsLemmas
import Derived.RowKit
import Derived.Test.YtalnaafmonmlmaaKF2
import Derived.Test.YtalnaafmonmlmaaKF10
import Derived.Test.YtalnaafmonmlmaaKF11
section
namespace Go.Proofs.Ytalnaafmonmlmaa.Q
open Go.RowKit Go.Proofs.YtalnaafmonmlmaaW.PrintWords Go.Proofs.YtalnaafmonmlmaaW.PrintLast Go.Proofs.YtalnaafmonmlmaaW.PrintMore
attribute [local go_sem] max2_int min2_int max_two min_two max_three min_three max_four min_four   -- for this text's walks alone
set_option linter.unusedVariables false
set_option linter.unusedSimpArgs false
theorem info107 : (Try.prog.info? 107).map (fun i => (i.zero, i.size, i.bytes)) = some (some (.agg #[(.int .i64 0), (.int .i64 0)]), 2, 16) := by kernel_rfl
def rd_L1 (xs : List (List Int)) (i : Int) : (List Int) := xs.getD i.toNat ([] : List Int)
structure S107 where
 f0 : Int
 f1 : Int
def z107 : S107 := ⟨(0 : Int), (0 : Int)⟩
def k107 : Kd S107 := Kd.iso (Kd.pair (Kd.int .i64) (Kd.int .i64)) (fun x : S107 => (x.f0, x.f1))
theorem k107_openM {w : World} {base : Nat} {ok : Nat → Prop} {x : S107} {cs : List Value} (h : k107.M w base ok x cs) : cs = [.int .i64 x.f0, .int .i64 x.f1] := by
 obtain ⟨_, _, rfl, rfl, rfl⟩ := h
 exact rfl
theorem k107_mkM (w : World) (base : Nat) (ok : Nat → Prop) (x : S107)  : k107.M w base ok x [.int .i64 x.f0, .int .i64 x.f1] := ⟨[.int .i64 x.f0], [.int .i64 x.f1], rfl, rfl, rfl⟩
def rd_T107 (xs : List S107) (i : Int) : S107 := xs.getD i.toNat z107
end Go.Proofs.Ytalnaafmonmlmaa.Q
end
section
namespace Go.Proofs.Ytalnaafmonmlmaa.Q
open Go.RowKit Go.Proofs.YtalnaafmonmlmaaW.PrintWords Go.Proofs.YtalnaafmonmlmaaW.PrintLast Go.Proofs.YtalnaafmonmlmaaW.PrintMore
set_option linter.unusedVariables false
set_option linter.unusedSimpArgs false
def badP (n : Int) : Bool := decide (n < 1) || decide (2147483647 < n)
def rs_bad.f (a0 : List Int) : Option Bool := some (a0.any badP)
end Go.Proofs.Ytalnaafmonmlmaa.Q
end
section
namespace Go.Proofs.Ytalnaafmonmlmaa.Q
open Go.RowKit Go.Proofs.YtalnaafmonmlmaaW.PrintWords Go.Proofs.YtalnaafmonmlmaaW.PrintLast Go.Proofs.YtalnaafmonmlmaaW.PrintMore
attribute [local go_sem] max2_int min2_int max_two min_two max_three min_three max_four min_four   -- for this text's walks alone
set_option linter.unusedVariables false
set_option linter.unusedSimpArgs false
def TInv (w0 w : World) (Bn Bo : Nat) (n : Int) (xs : List S107) : Prop :=
  w0.heap.size ≤ Bn ∧ w0.heap.size ≤ Bo ∧ w.heap[Bn]? = some (.cells #[.int .i64 n] 3 (0, 0)) ∧ (∃ v, w.heap[Bo]? = some (.cells #[v] 103 (0, 0)) ∧ Kd.R k107 107 w w0.heap.size (fun _ => True) v xs) ∧ Below w0.heap.size w0 w
theorem TInv.drewN {w0 w : World} {Bn Bo : Nat} {n : Int} {xs : List S107} (h : TInv w0 w Bn Bo n xs) (m : Nat) : TInv w0 (w.drewN m) Bn Bo n xs := by
  obtain ⟨h1, h2, h3, ⟨v, h4, h5⟩, h6⟩ := h
  exact ⟨h1, h2, h3, ⟨v, h4, Kd.R_drewN h5 m⟩, pw_below_drewN h6 m⟩
theorem TInv.ne {w0 w : World} {Bn Bo : Nat} {n : Int} {xs : List S107} (h : TInv w0 w Bn Bo n xs) : Bo ≠ Bn := by
  obtain ⟨h1, h2, h3, ⟨v, h4, h5⟩, h6⟩ := h
  rintro rfl
  rw [h3] at h4
  injection h4 with h4
  injection h4 with _ h4
  exact absurd h4 (by decide)
theorem TInv.setN {w0 w : World} {Bn Bo : Nat} {n : Int} {xs : List S107} (h : TInv w0 w Bn Bo n xs) (m : Int) : TInv w0 (w.setCell ⟨Bn, 0, none⟩ (.int .i64 m)) Bn Bo m xs := by
  have hne := h.ne
  obtain ⟨h1, h2, h3, ⟨v, h4, h5⟩, h6⟩ := h
  exact ⟨h1, h2, one_setCell h3, ⟨v, by rw [Below.heap_setCell _ _ _ _ hne]; exact h4, Kd.R_set h5 h3 (by intro q hq; simp [k107, Kd.iso, Kd.pair, Kd.int, Kd.scalar] at hq; omega) 0 _⟩, h6.setCell h1 _⟩
theorem TInv.append {w0 w w1 : World} {Bn Bo : Nat} {n : Int} {xs ys : List S107} {v v1 : Value} (h1 : w0.heap.size ≤ Bn) (h2 : w0.heap.size ≤ Bo) (h3 : w.heap[Bn]? = some (.cells #[.int .i64 n] 3 (0, 0))) (h4 : w.heap[Bo]? = some (.cells #[v] 103 (0, 0))) (h5 : Kd.R k107 107 w w0.heap.size (fun _ => True) v xs)
    (ho : Kd.R k107 107 w1 w0.heap.size (fun _ => True) v1 ys) (hb : Below w0.heap.size w0 w1) (hg : w.grownBy w1 v.ownBlock) :
    w1.heap[Bo]? = some (.cells #[v] 103 (0, 0)) ∧ TInv w0 (w1.setCell ⟨Bo, 0, none⟩ v1) Bn Bo n ys := by
  have hne : Bo ≠ Bn := by
    rintro rfl
    rw [h3] at h4
    injection h4 with h4
    injection h4 with _ h4
    exact absurd h4 (by decide)
  have e1 : w1.heap[Bn]? = some (.cells #[.int .i64 n] 3 (0, 0)) := (hg.block Bn (lt_of_block h3) (Kd.R_ne h5 h3 (by decide))).trans h3
  have e2 : w1.heap[Bo]? = some (.cells #[v] 103 (0, 0)) := (hg.block Bo (lt_of_block h4) (Kd.R_ne h5 h4 (by decide))).trans h4
  exact ⟨e2, h1, h2, by rw [Below.heap_setCell _ _ _ _ (fun e => hne e.symm)]; exact e1, ⟨v1, one_setCell e2, Kd.R_set ho e2 (by intro q hq; simp [k107, Kd.iso, Kd.pair, Kd.int, Kd.scalar] at hq; omega) 0 _⟩, hb.setCell h2 _⟩
def tryL : Nat → Int → Int → Int → Option (Int × Int)
  | 0, _, _, _ => none
  | k + 1, d, n, c => if d = 0 then none else if Int.tmod n d = 0 then tryL k d (wrap64 (Int.tdiv n d)) (wrap64 (c + 1)) else some (n, c)
def tryF (k : Nat) (d n : Int) (xs : List S107) : Option (Int × List S107) := (tryL k d n 0).bind fun r => if r.2 > 0 then (if xs.length < 8796093022208 then some (r.1, xs ++ [⟨d, r.2⟩]) else none) else some (r.1, xs)
set_option maxHeartbeats 8000000 in
set_option maxRecDepth 100000 in
theorem try_calls (k : Nat) (d n n' : Int) (xs xs' : List S107) (Bn Bo : Nat) (w0 w : World) (hI : TInv w0 w Bn Bo n xs) (h : tryF k d n xs = some (n', xs')) :
    Calls Try.prog 124 #[.int .i64 d, .pointer (some ⟨Bn, 0, none⟩), .pointer (some ⟨Bo, 0, none⟩)] w fun e w' => e = .returned (.tuple #[]) ∧ TInv w0 w' Bn Bo n' xs' := by
  have hu107 := Try.underlying107
  obtain ⟨⟨m, cnt⟩, hL, hE⟩ := Option.bind_eq_some_iff.mp h
  clear h
  have HL := Aside0.mk hL
  have HE := Aside0.mk hE
  have HI := Aside0.mk hI
  clear hL hE hI
  go_enter Try.func124, Try.ntmps124
  go_wp2
  repeat (go_quiet (fail); try go_wp2)
  go_loopg [4] k (fun kq v4 w' => ∃ (c n1 : Int), v4 = .int .i64 c ∧ Aside0 (tryL kq d n1 c = some (m, cnt)) ∧ Aside0 (TInv w0 w' Bn Bo n1 xs))
  case atStart => exact ⟨0, n, (by first | rfl | (simp; done) | (simp [*]; done)), HL, ⟨by (with_reducible repeat (first | exact HI.out | apply TInv.drewN))⟩⟩
  case round =>
    clear HL HI
    obtain ⟨c, n1, rfl, HA, HI⟩ := hrel
    cases gk with
    | zero => exact absurd HA.out (by simp [tryL])
    | succ k1 =>
      have H := HA.out
      clear HA
      simp only [tryL] at H
      have hcell := cell_of_one HI.out.2.2.1
      have hfree := free_of_one HI.out.2.2.1
      by_cases c1 : d = 0
      · rw [if_pos c1] at H; cases H
      · rw [if_neg c1] at H
        have c1b0 : (d == 0) = false := beq_eq_false_iff_ne.mpr c1
        have c1b1 : (d != 0) = true := bne_iff_ne.mpr c1
        by_cases c2 : Int.tmod n1 d = 0
        · rw [if_pos c2] at H
          have c2b0 : (Int.tmod n1 d == 0) = true := beq_iff_eq.mpr c2
          have c2b1 : (Int.tmod n1 d != 0) = false := bne_eq_false_iff_eq.mpr c2
          clear c2
          have H' := Aside0.mk H
          clear H
          go_wp2
          repeat (go_quiet (fail); try go_wp2)
          go_roundg k1
          case measure => omega
          case rel => exact ⟨(wrap64 (c + 1)), (wrap64 (Int.tdiv n1 d)), (by first | rfl | (simp; done) | (simp [*]; done)), H', ⟨by (with_reducible repeat (first | exact HI.out | apply TInv.drewN | apply TInv.setN))⟩⟩
        · rw [if_neg c2] at H
          have c2b0 : (Int.tmod n1 d == 0) = false := beq_eq_false_iff_ne.mpr c2
          have c2b1 : (Int.tmod n1 d != 0) = true := bne_iff_ne.mpr c2
          clear c2
          obtain ⟨rfl, rfl⟩ : n1 = m ∧ c = cnt := by injection H with H; injection H with H1 H2; exact ⟨H1, H2⟩
          clear H
          have HE2 := HE.out
          clear HE
          obtain ⟨h1, h2, h3, ⟨v, h4, h5⟩, h6⟩ := HI.out
          have hcell2 := cell_of_one h4
          have hfree2 := free_of_one h4
          have hso := h6.size
          by_cases c3 : c > 0
          · rw [if_pos c3] at HE2
            have c3b0 : decide (0 < c) = true := decide_eq_true c3
            clear c3
            by_cases c4 : xs.length < 8796093022208
            · rw [if_pos c4] at HE2
              obtain ⟨rfl, rfl⟩ : n1 = n' ∧ xs ++ [⟨d, c⟩] = xs' := by injection HE2 with H; injection H with H1 H2; exact ⟨H1, H2⟩
              clear HE2
              have LM := Aside0.mk c4
              have H3 := Aside0.mk h3
              have H4 := Aside0.mk h4
              have H5 := Aside0.mk h5
              have H6 := Aside0.mk h6
              have H1 := Aside0.mk h1
              have H2 := Aside0.mk h2
              clear c4 h3 h4 h5 h6 h1 h2 HI hso
              go_wp2_with (first | ((with_reducible refine gate_builtin (b := .append) (xs := #[.tmp 16, .tmp 20]) rfl ?_); at_builtin; refine Kd.R_append k107 (w0 := w0) w0.heap.size rfl (.tmp 16) (.tmp 20) 103 107 (.agg #[(.int .i64 0), (.int .i64 0)]) 16 rfl Try.underlying103 info107 rfl (by decide) (by omega) v xs (⟨d, c⟩ : S107) [.int .i64 d, .int .i64 c] (fun _ => True) (fun _ => False) rfl rfl ?aP (fun _ hk => hk.elim) ?aF ?aO ?aB ?aS ?aL ?_; (case aP => exact k107_mkM _ _ _ (⟨d, c⟩ : S107)); (case aB => exact H6.out); (case aF => exact (fun _ _ => trivial)); (case aO => exact H5.out); (case aS => exact H6.out.size); (case aL => have := LM.out; omega); intro v255 w9 ho hb hg hat; obtain ⟨A1, cc1, rfl⟩ := Kd.R_slice ho; obtain ⟨he2, hT⟩ := TInv.append H1.out H2.out H3.out H4.out H5.out ho hb hg; have HT := Aside0.mk hT; clear hT ho hb hg hat; have hcell9 := cell_of_one he2; have hfree9 := free_of_one he2; clear he2))
              go_end0
              have HT2 := HT.out
              rw [List.length_append, List.length_singleton] at HT2
              exact ⟨rfl, HT2⟩
            · rw [if_neg c4] at HE2; cases HE2
          · rw [if_neg c3] at HE2
            have c3b0 : decide (0 < c) = false := decide_eq_false c3
            obtain ⟨rfl, rfl⟩ : n1 = n' ∧ xs = xs' := by injection HE2 with H; injection H with H1 H2; exact ⟨H1, H2⟩
            clear HE2
            clear c3 h1 h2 h3 h4 h5 h6
            go_wp2
            repeat (go_quiet (fail); try go_wp2)
            go_end0
            exact ⟨rfl, by (with_reducible repeat (first | exact HI.out | apply TInv.drewN))⟩
def rs_factor.l0 (kk : Nat) : Nat → Int → List S107 → Int → Option (List S107)
  | 0, _, _, _ => none
  | k + 1, n, xs, d => if wrap64 (d * d) ≤ n then (tryF kk d n xs).bind fun r => rs_factor.l0 kk k r.1 r.2 (wrap64 (d + 2)) else if n > 1 then (tryF kk n n xs).bind fun r => some r.2 else some xs
def rs_factor.f (k : Nat) (a0 : Int) : Option (List S107) := (tryF k 2 a0 []).bind fun r => rs_factor.l0 k k r.1 r.2 3
theorem tryL_mono : ∀ k d n c, LeO (tryL k d n c) (tryL (k + 1) d n c)
  | 0 => fun _ _ _ r h => by simp [tryL] at h
  | k + 1 => by
    intro d n c
    have ih0 := tryL_mono k
    unfold tryL
    repeat' first
      | (with_reducible exact ih0 _ _ _)
      | (with_reducible exact LeO.refl _)
      | (with_reducible refine LeO.ite ?_ ?_)
theorem tryF_mono (k : Nat) (d n : Int) (xs : List S107) : LeO (tryF k d n xs) (tryF (k + 1) d n xs) := LeO.bind (tryL_mono k d n 0) (fun _ => LeO.refl _)
theorem rs_factor.mono_l (kk : Nat) : ∀ k n xs d, LeO (rs_factor.l0 kk k n xs d) (rs_factor.l0 (kk + 1) (k + 1) n xs d)
  | 0 => fun _ _ _ r h => by simp [rs_factor.l0] at h
  | k + 1 => by
    intro n xs d
    have ih0 := rs_factor.mono_l kk k
    have ih1 := tryF_mono kk
    unfold rs_factor.l0
    repeat' first
      | (with_reducible exact ih0 _ _ _)
      | (with_reducible exact ih1 _ _ _)
      | (with_reducible exact LeO.refl _)
      | (with_reducible refine LeO.ite ?_ ?_)
      | (with_reducible refine LeO.bind ?_ (fun _ => ?_))
theorem rs_factor.mono (a0 : Int) (k : Nat) : LeO (rs_factor.f k a0) (rs_factor.f (k + 1) a0) := LeO.bind (tryF_mono k 2 a0 []) (fun _ => rs_factor.mono_l k k _ _ _)
set_option maxHeartbeats 8000000 in
set_option maxRecDepth 100000 in
theorem rs_factor.calls (k : Nat) (a0 : Int) (r : List S107) (w : World) (h : rs_factor.f k a0 = some r) :
    Calls Try.prog 116 #[.int .i64 a0] w fun e w' => ∃ v0_ : Value, e = .returned (v0_) ∧ Kd.R k107 107 w' w.heap.size (fun _ => True) v0_ r ∧ Below w.heap.size w w' := by
  have hu107 := Try.underlying107
  obtain ⟨⟨n1, xs1⟩, hF, hL⟩ := Option.bind_eq_some_iff.mp h
  clear h
  have HF := Aside0.mk hF
  have HL := Aside0.mk hL
  clear hF hL
  have hmf : ∀ (fn : Fn) (first cap : Array Value) (w : World), (Instr.makeFunc fn first cap).run Try.prog w = .ok (.func fn first cap) w := fun _ _ _ _ => rfl
  have hI0 : Aside0 (TInv w ((w.alloc (Obj.cells #[Value.int IntKind.i64 a0] 3)).alloc (Obj.cells #[Value.slice none 0 0] 103)) w.heap.size (w.heap.size + 1) a0 []) := by
    refine ⟨Nat.le_refl _, Nat.le_succ _, ?_, ⟨.slice none 0 0, ?_, Kd.R_nil _ _ _ _ _⟩, below_alloc (below_alloc (Below.refl _ _) _) _⟩
    · rw [Below.heap_alloc _ _ _ (by simp)]; exact heap_alloc_new w _
    · have := heap_alloc_new (w.alloc (Obj.cells #[Value.int IntKind.i64 a0] 3)) (Obj.cells #[Value.slice none 0 0] 103)
      simpa using this
  go_enter Try.func116, Try.ntmps116
  go_wp2_with (first | (go_at_call 124; refine (try_calls k 2 a0 n1 [] xs1 w.heap.size (w.heap.size + 1) w _ hI0.out HF.out).mono ?_; rintro e w1 ⟨rfl, hT⟩; have HT := Aside0.mk hT; clear hT))
  clear hI0 HF
  go_loopg [5] k (fun kq v5 w' => ∃ (n : Int) (xs : List S107) (d : Int), v5 = .int .i64 d ∧ Aside0 (rs_factor.l0 k kq n xs d = some r) ∧ Aside0 (TInv w w' w.heap.size (w.heap.size + 1) n xs))
  case atStart => exact ⟨n1, xs1, 3, (by first | rfl | (simp; done) | (simp [*]; done)), HL, HT⟩
  case round =>
    clear HL HT
    obtain ⟨n, xs, d, rfl, HA, HI⟩ := hrel
    cases gk with
    | zero => exact absurd HA.out (by simp [rs_factor.l0])
    | succ k1 =>
      have H := HA.out
      clear HA
      simp only [rs_factor.l0] at H
      have hcell := cell_of_one HI.out.2.2.1
      by_cases c1 : wrap64 (d * d) ≤ n
      · rw [if_pos c1] at H
        obtain ⟨⟨n2, xs2⟩, hF2, hL2⟩ := Option.bind_eq_some_iff.mp H
        have HF2 := Aside0.mk hF2
        have H' := Aside0.mk hL2
        clear H hF2 hL2
        have c1b0 : decide (wrap64 (d * d) ≤ n) = true := decide_eq_true c1
        clear c1
        go_wp2_with (first | (go_at_call 124; refine (try_calls k d n n2 xs xs2 w.heap.size (w.heap.size + 1) w _ (by (with_reducible repeat (first | exact HI.out | apply TInv.drewN))) HF2.out).mono ?_; rintro e w1 ⟨rfl, hT⟩; have HT := Aside0.mk hT; clear hT))
        go_roundg k1
        case measure => omega
        case rel => exact ⟨n2, xs2, (wrap64 (d + 2)), (by first | rfl | (simp; done) | (simp [*]; done)), H', HT⟩
      · rw [if_neg c1] at H
        have c1b0 : decide (wrap64 (d * d) ≤ n) = false := decide_eq_false c1
        clear c1
        by_cases c2 : n > 1
        · rw [if_pos c2] at H
          obtain ⟨⟨n2, xs2⟩, hF2, hL2⟩ := Option.bind_eq_some_iff.mp H
          obtain rfl := Option.some.inj hL2
          have HF2 := Aside0.mk hF2
          clear H hF2 hL2
          have c2b0 : decide (1 < n) = true := decide_eq_true c2
          clear c2
          go_wp2_with (first | (go_at_call 124; refine (try_calls k n n n2 xs xs2 w.heap.size (w.heap.size + 1) w _ (by (with_reducible repeat (first | exact HI.out | apply TInv.drewN))) HF2.out).mono ?_; rintro e w1 ⟨rfl, hT⟩; obtain ⟨h1, h2, h3, ⟨v, h4, h5⟩, h6⟩ := hT; obtain ⟨A1, cc1, rfl⟩ := Kd.R_slice h5; have HR := Aside0.mk h5; have HB := Aside0.mk h6; have hcell2 := cell_of_one h4; clear h1 h2 h3 h4 h5 h6))
          go_ret
          exact ⟨_, rfl, HR.out, HB.out⟩
        · rw [if_neg c2] at H
          obtain rfl := Option.some.inj H
          clear H
          have c2b0 : decide (1 < n) = false := decide_eq_false c2
          clear c2
          obtain ⟨h1, h2, h3, ⟨v, h4, h5⟩, h6⟩ := HI.out
          obtain ⟨A1, cc1, rfl⟩ := Kd.R_slice h5
          have HR := Aside0.mk h5
          have HB := Aside0.mk h6
          have hcell2 := cell_of_one h4
          clear h1 h2 h3 h4 h5 h6
          go_wp2
          go_ret
          exact ⟨_, rfl, HR.out, HB.out⟩
end Go.Proofs.Ytalnaafmonmlmaa.Q
end
section
namespace Go.Proofs.Ytalnaafmonmlmaa.Q
open Go.RowKit Go.Proofs.YtalnaafmonmlmaaW.PrintWords Go.Proofs.YtalnaafmonmlmaaW.PrintLast Go.Proofs.YtalnaafmonmlmaaW.PrintMore
set_option linter.unusedVariables false
set_option linter.unusedSimpArgs false
def rs_prime.f (k : Nat) (a0 : Int) : Option (Bool) := (rs_factor.f k a0).bind fun t101 => (if (t101.length : Int) = 1 then (if 0 < (t101.length : Int) then (some (((rd_T107 t101 0).f1) == 1)) else (none)) else (some false))
theorem rs_prime.mono : ∀ a0 k, LeO (rs_prime.f k a0) (rs_prime.f (k + 1) a0) := by
  intro a0 k
  unfold rs_prime.f
  repeat' first
      | (with_reducible exact rs_factor.mono _ _)
      | (with_reducible exact LeO.refl _)
      | (with_reducible exact LeO.none _)
      | (with_reducible refine LeO.ite ?_ ?_)
      | (with_reducible refine LeO.bind ?_ (fun _ => ?_))
      | exact rs_factor.mono _ _
      | exact LeO.none _
      | refine LeO.ite ?_ ?_
      | refine LeO.bind ?_ (fun _ => ?_)
def rs_IsPrime.f (k : Nat) (a0 : Int) : Option (Bool × Int) := (rs_bad.f (([a0] : List Int))).bind fun t104 => (if t104 = true then (some (false, 3)) else ((rs_prime.f k a0).bind fun t105 => (some (t105, 0))))
theorem rs_IsPrime.mono : ∀ a0 k, LeO (rs_IsPrime.f k a0) (rs_IsPrime.f (k + 1) a0) := by
  intro a0 k
  unfold rs_IsPrime.f
  repeat' first
      | (with_reducible exact rs_prime.mono _ _)
      | (with_reducible exact LeO.refl _)
      | (with_reducible exact LeO.none _)
      | (with_reducible refine LeO.ite ?_ ?_)
      | (with_reducible refine LeO.bind ?_ (fun _ => ?_))
      | exact rs_prime.mono _ _
      | exact LeO.none _
      | refine LeO.ite ?_ ?_
      | refine LeO.bind ?_ (fun _ => ?_)
def pm_prime.j0 : Nat → Int → Bool → Option (Int)
  | 0, _, _ => none
  | k + 1, x0, x10 => if x10 = true then (some 7) else ((rs_IsPrime.f k x0).bind fun bt101 => (if bt101.2 = 0 then (if bt101.1 = true then (some 0) else (some 7)) else (some 7)))
def pm_prime.f (k : Nat) (a0 : Int) : Option (Int) := if a0 < 2 then (pm_prime.j0 k a0 true) else (pm_prime.j0 k a0 (decide (a0 > 65521)))
theorem pm_prime.mono_l : ∀ k, (∀ y0 y1, LeO (pm_prime.j0 k y0 y1) (pm_prime.j0 (k + 1) y0 y1))
  | 0 => fun _ _ r h => by simp [pm_prime.j0] at h
  | k + 1 => by
    have ih0 := pm_prime.mono_l k
    · intro y0 y1
      unfold pm_prime.j0
      repeat' first
      | (with_reducible exact ih0 _ _)
      | (with_reducible exact rs_IsPrime.mono _ _)
      | (with_reducible exact LeO.refl _)
      | (with_reducible exact LeO.none _)
      | (with_reducible refine LeO.ite ?_ ?_)
      | (with_reducible refine LeO.bind ?_ (fun _ => ?_))
      | exact ih0 _ _
      | exact rs_IsPrime.mono _ _
      | exact LeO.none _
      | refine LeO.ite ?_ ?_
      | refine LeO.bind ?_ (fun _ => ?_)
theorem pm_prime.mono : ∀ a0 k, LeO (pm_prime.f k a0) (pm_prime.f (k + 1) a0) := by
  intro a0 k
  have ih0 := pm_prime.mono_l k
  unfold pm_prime.f
  repeat' first
      | (with_reducible exact ih0 _ _)
      | (with_reducible exact rs_IsPrime.mono _ _)
      | (with_reducible exact LeO.refl _)
      | (with_reducible exact LeO.none _)
      | (with_reducible refine LeO.ite ?_ ?_)
      | (with_reducible refine LeO.bind ?_ (fun _ => ?_))
      | exact ih0 _ _
      | exact rs_IsPrime.mono _ _
      | exact LeO.none _
      | refine LeO.ite ?_ ?_
      | refine LeO.bind ?_ (fun _ => ?_)
def badC (p x : Int) : Bool := decide (x < 0) || decide (p ≤ x)
def pm_Check.g (a0 : Int) (l1 : List Int) : Int := if l1.length > 65 then 4 else if l1.any (badC a0) = true then 1 else if (l1.length : Int) > 0 then (if rd l1 (wrap64 ((l1.length : Int) - 1)) = 0 then 1 else 0) else 0
def pm_Check.f (k : Nat) (a0 : Int) (l1 : List Int) : Option Int := (pm_prime.f k a0).bind fun e => if e = 0 then some (pm_Check.g a0 l1) else some e
theorem pm_Check.mono (a0 : Int) (l1 : List Int) (k : Nat) : LeO (pm_Check.f k a0 l1) (pm_Check.f (k + 1) a0 l1) := LeO.bind (pm_prime.mono a0 k) (fun _ => LeO.refl _)
def fp_Trim.l0 : Nat → List Int → Int → Option (List Int)
  | 0, _, _ => none
  | k + 1, x0, x3 => if x3 > 0 then (if 0 ≤ (wrap64 (x3 - 1)) then (if (wrap64 (x3 - 1)) < (x0.length : Int) then (if (rd x0 (wrap64 (x3 - 1))) = 0 then (fp_Trim.l0 k x0 (wrap64 (x3 - 1))) else (if 0 ≤ x3 then (if x3 ≤ (x0.length : Int) then (some (x0.take (x3 : Int).toNat)) else (none)) else (none))) else (none)) else (none)) else (if 0 ≤ x3 then (if x3 ≤ (x0.length : Int) then (some (x0.take (x3 : Int).toNat)) else (none)) else (none))
def fp_Trim.f (k : Nat) (l0 : List Int) : Option (List Int) := fp_Trim.l0 k l0 (l0.length : Int)
theorem fp_Trim.mono_l : ∀ k, (∀ y0 y1, LeO (fp_Trim.l0 k y0 y1) (fp_Trim.l0 (k + 1) y0 y1))
  | 0 => fun _ _ r h => by simp [fp_Trim.l0] at h
  | k + 1 => by
    have ih0 := fp_Trim.mono_l k
    · intro y0 y1
      unfold fp_Trim.l0
      repeat' first
      | (with_reducible exact ih0 _ _)
      | (with_reducible exact LeO.refl _)
      | (with_reducible exact LeO.none _)
      | (with_reducible refine LeO.ite ?_ ?_)
      | (with_reducible refine LeO.bind ?_ (fun _ => ?_))
      | exact ih0 _ _
      | exact LeO.none _
      | refine LeO.ite ?_ ?_
      | refine LeO.bind ?_ (fun _ => ?_)
theorem fp_Trim.mono : ∀ a0 k, LeO (fp_Trim.f k a0) (fp_Trim.f (k + 1) a0) := by
  intro a0 k
  have ih0 := fp_Trim.mono_l k
  unfold fp_Trim.f
  repeat' first
      | (with_reducible exact ih0 _ _)
      | (with_reducible exact LeO.refl _)
      | (with_reducible exact LeO.none _)
      | (with_reducible refine LeO.ite ?_ ?_)
      | (with_reducible refine LeO.bind ?_ (fun _ => ?_))
      | exact ih0 _ _
      | exact LeO.none _
      | refine LeO.ite ?_ ?_
      | refine LeO.bind ?_ (fun _ => ?_)
def fp_at.f (l0 : List Int) (a1 : Int) : Option (Int) := if a1 < (l0.length : Int) then (if 0 ≤ a1 then (some (rd l0 a1)) else (none)) else (some 0)
def fp_Sub.l0 : Nat → Int → List Int → List Int → List Int → Int → Int → Option (List Int)
  | 0, _, _, _, _, _, _ => none
  | k + 1, x0, x1, x2, x7, x16, x17 => if x17 < x16 then ((fp_at.f x1 x17).bind fun t104 => ((fp_at.f x2 x17).bind fun t105 => (if x0 = 0 then (none) else (if 0 ≤ x17 then (if x17 < (x7.length : Int) then (fp_Sub.l0 k x0 x1 x2 (x7.set (x17 : Int).toNat (Int.tmod (wrap64 ((wrap64 (t104 + x0)) - t105)) x0)) x16 (wrap64 (x17 + 1))) else (none)) else (none))))) else ((fp_Trim.f k x7).bind fun t107 => (some t107))
def fp_Sub.f (k : Nat) (a0 : Int) (l1 : List Int) (l2 : List Int) : Option (List Int) := if 0 ≤ (mx (l1.length : Int) (l2.length : Int)) then (if (mx (l1.length : Int) (l2.length : Int) : Int).toNat ≤ 35184372088832 then ((some (List.replicate (mx (l1.length : Int) (l2.length : Int) : Int).toNat 0 : List Int)).bind fun y101 => (fp_Sub.l0 k a0 l1 l2 y101 (y101.length : Int) 0)) else (none)) else (none)
theorem fp_Sub.mono_l : ∀ k, (∀ y0 y1 y2 y3 y4 y5, LeO (fp_Sub.l0 k y0 y1 y2 y3 y4 y5) (fp_Sub.l0 (k + 1) y0 y1 y2 y3 y4 y5))
  | 0 => fun _ _ _ _ _ _ r h => by simp [fp_Sub.l0] at h
  | k + 1 => by
    have ih0 := fp_Sub.mono_l k
    · intro y0 y1 y2 y3 y4 y5
      unfold fp_Sub.l0
      repeat' first
      | (with_reducible exact ih0 _ _ _ _ _ _)
      | (with_reducible exact fp_Trim.mono _ _)
      | (with_reducible exact LeO.refl _)
      | (with_reducible exact LeO.none _)
      | (with_reducible refine LeO.ite ?_ ?_)
      | (with_reducible refine LeO.bind ?_ (fun _ => ?_))
      | exact ih0 _ _ _ _ _ _
      | exact fp_Trim.mono _ _
      | exact LeO.none _
      | refine LeO.ite ?_ ?_
      | refine LeO.bind ?_ (fun _ => ?_)
theorem fp_Sub.mono : ∀ a0 a1 a2 k, LeO (fp_Sub.f k a0 a1 a2) (fp_Sub.f (k + 1) a0 a1 a2) := by
  intro a0 a1 a2 k
  have ih0 := fp_Sub.mono_l k
  unfold fp_Sub.f
  repeat' first
      | (with_reducible exact ih0 _ _ _ _ _ _)
      | (with_reducible exact fp_Trim.mono _ _)
      | (with_reducible exact LeO.refl _)
      | (with_reducible exact LeO.none _)
      | (with_reducible refine LeO.ite ?_ ?_)
      | (with_reducible refine LeO.bind ?_ (fun _ => ?_))
      | exact ih0 _ _ _ _ _ _
      | exact fp_Trim.mono _ _
      | exact LeO.none _
      | refine LeO.ite ?_ ?_
      | refine LeO.bind ?_ (fun _ => ?_)
def fp_Mod.f (a0 : Int) (a1 : Int) : Option (Int) := if a0 = 0 then (none) else (if (Int.tmod a1 a0) < 0 then (some (wrap64 ((Int.tmod a1 a0) + a0))) else (some (Int.tmod a1 a0)))
def fp_Inv.l0 : Nat → Int → Int → Int → Int → Int → Option (Int)
  | 0, _, _, _, _, _ => none
  | k + 1, x0, x5, x6, x7, x8 => if x6 > 0 then (if x6 = 0 then (none) else (fp_Inv.l0 k x0 x6 (wrap64 (x5 - (wrap64 ((wrap64 (Int.tdiv x5 x6)) * x6)))) x8 (wrap64 (x7 - (wrap64 ((wrap64 (Int.tdiv x5 x6)) * x8)))))) else ((fp_Mod.f x0 x7).bind fun t101 => (some t101))
def fp_Inv.f (k : Nat) (a0 : Int) (a1 : Int) : Option (Int) := fp_Inv.l0 k a0 a0 a1 0 1
theorem fp_Inv.mono_l : ∀ k, (∀ y0 y1 y2 y3 y4, LeO (fp_Inv.l0 k y0 y1 y2 y3 y4) (fp_Inv.l0 (k + 1) y0 y1 y2 y3 y4))
  | 0 => fun _ _ _ _ _ r h => by simp [fp_Inv.l0] at h
  | k + 1 => by
    have ih0 := fp_Inv.mono_l k
    · intro y0 y1 y2 y3 y4
      unfold fp_Inv.l0
      repeat' first
      | (with_reducible exact ih0 _ _ _ _ _)
      | (with_reducible exact LeO.refl _)
      | (with_reducible exact LeO.none _)
      | (with_reducible refine LeO.ite ?_ ?_)
      | (with_reducible refine LeO.bind ?_ (fun _ => ?_))
      | exact ih0 _ _ _ _ _
      | exact LeO.none _
      | refine LeO.ite ?_ ?_
      | refine LeO.bind ?_ (fun _ => ?_)
theorem fp_Inv.mono : ∀ a0 a1 k, LeO (fp_Inv.f k a0 a1) (fp_Inv.f (k + 1) a0 a1) := by
  intro a0 a1 k
  have ih0 := fp_Inv.mono_l k
  unfold fp_Inv.f
  repeat' first
      | (with_reducible exact ih0 _ _ _ _ _)
      | (with_reducible exact LeO.refl _)
      | (with_reducible exact LeO.none _)
      | (with_reducible refine LeO.ite ?_ ?_)
      | (with_reducible refine LeO.bind ?_ (fun _ => ?_))
      | exact ih0 _ _ _ _ _
      | exact LeO.none _
      | refine LeO.ite ?_ ?_
      | refine LeO.bind ?_ (fun _ => ?_)
mutual
def fp_DivMod.l0 : Nat → Int → List Int → List Int → Int → List Int → Int → Int → Option (List Int × List Int)
  | 0, _, _, _, _, _, _, _ => none
  | k + 1, x0, x2, x8, x9, x10, x11, x12 => if x12 ≥ 0 then (if 0 ≤ (wrap64 ((wrap64 (x12 + x9)) - 1)) then (if (wrap64 ((wrap64 (x12 + x9)) - 1)) < (x8.length : Int) then (if x0 = 0 then (none) else (if 0 ≤ x12 then (if x12 < (x10.length : Int) then (fp_DivMod.l1 k x0 x2 x8 x9 (x10.set (x12 : Int).toNat (Int.tmod (wrap64 ((rd x8 (wrap64 ((wrap64 (x12 + x9)) - 1))) * x11)) x0)) x11 x12 (Int.tmod (wrap64 ((rd x8 (wrap64 ((wrap64 (x12 + x9)) - 1))) * x11)) x0) x2 (x2.length : Int) 0) else (none)) else (none))) else (none)) else (none)) else ((fp_Trim.f k x10).bind fun t112 => (if 0 ≤ (wrap64 (x9 - 1)) then (if (wrap64 (x9 - 1)) ≤ (x8.length : Int) then ((fp_Trim.f k (x8.take ((wrap64 (x9 - 1)) : Int).toNat)).bind fun t119 => (some (t112, t119))) else (none)) else (none)))
def fp_DivMod.l1 : Nat → Int → List Int → List Int → Int → List Int → Int → Int → Int → List Int → Int → Int → Option (List Int × List Int)
  | 0, _, _, _, _, _, _, _, _, _, _, _ => none
  | k + 1, x0, x2, x8, x9, x10, x11, x12, x13, x62, x63, x64 => if x64 < x63 then (if 0 ≤ x64 then (if x64 < (x62.length : Int) then (if 0 ≤ (wrap64 (x12 + x64)) then (if (wrap64 (x12 + x64)) < (x8.length : Int) then ((fp_Mod.f x0 (wrap64 ((rd x8 (wrap64 (x12 + x64))) - (wrap64 (x13 * (rd x62 x64)))))).bind fun t126 => (fp_DivMod.l1 k x0 x2 (x8.set ((wrap64 (x12 + x64)) : Int).toNat t126) x9 x10 x11 x12 x13 x62 x63 (wrap64 (x64 + 1)))) else (none)) else (none)) else (none)) else (none)) else (fp_DivMod.l0 k x0 x2 x8 x9 x10 x11 (wrap64 (x12 - 1)))
end
def fp_DivMod.f (k : Nat) (a0 : Int) (l1 : List Int) (l2 : List Int) : Option (List Int × List Int) := (some (([] : List Int) : List Int)).bind fun y101 => (if y101.length + l1.length < 17592186044416 then ((some (y101 ++ l1 : List Int)).bind fun y104 => (if (l1.length : Int) < (l2.length : Int) then (some (([] : List Int), y104)) else (if 0 ≤ (wrap64 ((wrap64 ((l1.length : Int) - (l2.length : Int))) + 1)) then (if (wrap64 ((wrap64 ((l1.length : Int) - (l2.length : Int))) + 1) : Int).toNat ≤ 35184372088832 then (if 0 ≤ (wrap64 ((l2.length : Int) - 1)) then (if (wrap64 ((l2.length : Int) - 1)) < (l2.length : Int) then ((fp_Inv.f k a0 (rd l2 (wrap64 ((l2.length : Int) - 1)))).bind fun t111 => (fp_DivMod.l0 k a0 l2 y104 (l2.length : Int) (List.replicate (wrap64 ((wrap64 ((l1.length : Int) - (l2.length : Int))) + 1) : Int).toNat 0) t111 (wrap64 ((l1.length : Int) - (l2.length : Int))))) else (none)) else (none)) else (none)) else (none)))) else (none))
theorem fp_DivMod.mono_l : ∀ k, (∀ y0 y1 y2 y3 y4 y5 y6, LeO (fp_DivMod.l0 k y0 y1 y2 y3 y4 y5 y6) (fp_DivMod.l0 (k + 1) y0 y1 y2 y3 y4 y5 y6)) ∧ (∀ y0 y1 y2 y3 y4 y5 y6 y7 y8 y9 y10, LeO (fp_DivMod.l1 k y0 y1 y2 y3 y4 y5 y6 y7 y8 y9 y10) (fp_DivMod.l1 (k + 1) y0 y1 y2 y3 y4 y5 y6 y7 y8 y9 y10))
  | 0 => ⟨fun _ _ _ _ _ _ _ r h => by simp [fp_DivMod.l0] at h, fun _ _ _ _ _ _ _ _ _ _ _ r h => by simp [fp_DivMod.l1] at h⟩
  | k + 1 => by
    obtain ⟨ih0, ih1⟩ := fp_DivMod.mono_l k
    refine ⟨?_, ?_⟩
    · intro y0 y1 y2 y3 y4 y5 y6
      unfold fp_DivMod.l0
      repeat' first
      | (with_reducible exact ih0 _ _ _ _ _ _ _)
      | (with_reducible exact ih1 _ _ _ _ _ _ _ _ _ _ _)
      | (with_reducible exact fp_Inv.mono _ _ _)
      | (with_reducible exact fp_Trim.mono _ _)
      | (with_reducible exact LeO.refl _)
      | (with_reducible exact LeO.none _)
      | (with_reducible refine LeO.ite ?_ ?_)
      | (with_reducible refine LeO.bind ?_ (fun _ => ?_))
      | exact ih0 _ _ _ _ _ _ _
      | exact ih1 _ _ _ _ _ _ _ _ _ _ _
      | exact fp_Inv.mono _ _ _
      | exact fp_Trim.mono _ _
      | exact LeO.none _
      | refine LeO.ite ?_ ?_
      | refine LeO.bind ?_ (fun _ => ?_)
    · intro y0 y1 y2 y3 y4 y5 y6 y7 y8 y9 y10
      unfold fp_DivMod.l1
      repeat' first
      | (with_reducible exact ih0 _ _ _ _ _ _ _)
      | (with_reducible exact ih1 _ _ _ _ _ _ _ _ _ _ _)
      | (with_reducible exact fp_Inv.mono _ _ _)
      | (with_reducible exact fp_Trim.mono _ _)
      | (with_reducible exact LeO.refl _)
      | (with_reducible exact LeO.none _)
      | (with_reducible refine LeO.ite ?_ ?_)
      | (with_reducible refine LeO.bind ?_ (fun _ => ?_))
      | exact ih0 _ _ _ _ _ _ _
      | exact ih1 _ _ _ _ _ _ _ _ _ _ _
      | exact fp_Inv.mono _ _ _
      | exact fp_Trim.mono _ _
      | exact LeO.none _
      | refine LeO.ite ?_ ?_
      | refine LeO.bind ?_ (fun _ => ?_)
theorem fp_DivMod.mono : ∀ a0 a1 a2 k, LeO (fp_DivMod.f k a0 a1 a2) (fp_DivMod.f (k + 1) a0 a1 a2) := by
  intro a0 a1 a2 k
  obtain ⟨ih0, ih1⟩ := fp_DivMod.mono_l k
  unfold fp_DivMod.f
  repeat' first
      | (with_reducible exact ih0 _ _ _ _ _ _ _)
      | (with_reducible exact ih1 _ _ _ _ _ _ _ _ _ _ _)
      | (with_reducible exact fp_Inv.mono _ _ _)
      | (with_reducible exact fp_Trim.mono _ _)
      | (with_reducible exact LeO.refl _)
      | (with_reducible exact LeO.none _)
      | (with_reducible refine LeO.ite ?_ ?_)
      | (with_reducible refine LeO.bind ?_ (fun _ => ?_))
      | exact ih0 _ _ _ _ _ _ _
      | exact ih1 _ _ _ _ _ _ _ _ _ _ _
      | exact fp_Inv.mono _ _ _
      | exact fp_Trim.mono _ _
      | exact LeO.none _
      | refine LeO.ite ?_ ?_
      | refine LeO.bind ?_ (fun _ => ?_)
def fp_Rem.f (k : Nat) (a0 : Int) (l1 : List Int) (l2 : List Int) : Option (List Int) := (fp_DivMod.f k a0 l1 l2).bind fun bt101 => (some bt101.2)
theorem fp_Rem.mono : ∀ a0 a1 a2 k, LeO (fp_Rem.f k a0 a1 a2) (fp_Rem.f (k + 1) a0 a1 a2) := by
  intro a0 a1 a2 k
  unfold fp_Rem.f
  repeat' first
      | (with_reducible exact fp_DivMod.mono _ _ _ _)
      | (with_reducible exact LeO.refl _)
      | (with_reducible exact LeO.none _)
      | (with_reducible refine LeO.ite ?_ ?_)
      | (with_reducible refine LeO.bind ?_ (fun _ => ?_))
      | exact fp_DivMod.mono _ _ _ _
      | exact LeO.none _
      | refine LeO.ite ?_ ?_
      | refine LeO.bind ?_ (fun _ => ?_)
mutual
def fp_Mul.j0 : Nat → Int → List Int → List Int → Bool → Option (List Int)
  | 0, _, _, _, _ => none
  | k + 1, x0, x1, x2, x19 => if x19 = true then (some ([] : List Int)) else (if 0 ≤ (wrap64 ((wrap64 ((x1.length : Int) + (x2.length : Int))) - 1)) then (if (wrap64 ((wrap64 ((x1.length : Int) + (x2.length : Int))) - 1) : Int).toNat ≤ 35184372088832 then (fp_Mul.l0 k x0 x2 (List.replicate (wrap64 ((wrap64 ((x1.length : Int) + (x2.length : Int))) - 1) : Int).toNat 0) x1 (x1.length : Int) 0) else (none)) else (none))
def fp_Mul.l0 : Nat → Int → List Int → List Int → List Int → Int → Int → Option (List Int)
  | 0, _, _, _, _, _, _ => none
  | k + 1, x0, x2, x7, x27, x28, x29 => if x29 < x28 then (if 0 ≤ x29 then (if x29 < (x27.length : Int) then (fp_Mul.l1 k x0 x2 x7 x29 (rd x27 x29) x27 x28 x29 x2 (x2.length : Int) 0) else (none)) else (none)) else ((fp_Trim.f k x7).bind fun t104 => (some t104))
def fp_Mul.l1 : Nat → Int → List Int → List Int → Int → Int → List Int → Int → Int → List Int → Int → Int → Option (List Int)
  | 0, _, _, _, _, _, _, _, _, _, _, _ => none
  | k + 1, x0, x2, x7, x8, x9, x27, x28, x29, x34, x35, x36 => if x36 < x35 then (if 0 ≤ x36 then (if x36 < (x34.length : Int) then (if 0 ≤ (wrap64 (x8 + x36)) then (if (wrap64 (x8 + x36)) < (x7.length : Int) then (if x0 = 0 then (none) else (fp_Mul.l1 k x0 x2 (x7.set ((wrap64 (x8 + x36)) : Int).toNat (Int.tmod (wrap64 ((rd x7 (wrap64 (x8 + x36))) + (wrap64 (x9 * (rd x34 x36))))) x0)) x8 x9 x27 x28 x29 x34 x35 (wrap64 (x36 + 1)))) else (none)) else (none)) else (none)) else (none)) else (fp_Mul.l0 k x0 x2 x7 x27 x28 (wrap64 (x29 + 1)))
end
def fp_Mul.f (k : Nat) (a0 : Int) (l1 : List Int) (l2 : List Int) : Option (List Int) := if (l1.length : Int) = 0 then (fp_Mul.j0 k a0 l1 l2 true) else (fp_Mul.j0 k a0 l1 l2 ((l2.length : Int) == 0))
theorem fp_Mul.mono_l : ∀ k, (∀ y0 y1 y2 y3, LeO (fp_Mul.j0 k y0 y1 y2 y3) (fp_Mul.j0 (k + 1) y0 y1 y2 y3)) ∧ (∀ y0 y1 y2 y3 y4 y5, LeO (fp_Mul.l0 k y0 y1 y2 y3 y4 y5) (fp_Mul.l0 (k + 1) y0 y1 y2 y3 y4 y5)) ∧ (∀ y0 y1 y2 y3 y4 y5 y6 y7 y8 y9 y10, LeO (fp_Mul.l1 k y0 y1 y2 y3 y4 y5 y6 y7 y8 y9 y10) (fp_Mul.l1 (k + 1) y0 y1 y2 y3 y4 y5 y6 y7 y8 y9 y10))
  | 0 => ⟨fun _ _ _ _ r h => by simp [fp_Mul.j0] at h, fun _ _ _ _ _ _ r h => by simp [fp_Mul.l0] at h, fun _ _ _ _ _ _ _ _ _ _ _ r h => by simp [fp_Mul.l1] at h⟩
  | k + 1 => by
    obtain ⟨ih0, ih1, ih2⟩ := fp_Mul.mono_l k
    refine ⟨?_, ?_, ?_⟩
    · intro y0 y1 y2 y3
      unfold fp_Mul.j0
      repeat' first
      | (with_reducible exact ih0 _ _ _ _)
      | (with_reducible exact ih1 _ _ _ _ _ _)
      | (with_reducible exact ih2 _ _ _ _ _ _ _ _ _ _ _)
      | (with_reducible exact fp_Trim.mono _ _)
      | (with_reducible exact LeO.refl _)
      | (with_reducible exact LeO.none _)
      | (with_reducible refine LeO.ite ?_ ?_)
      | (with_reducible refine LeO.bind ?_ (fun _ => ?_))
      | exact ih0 _ _ _ _
      | exact ih1 _ _ _ _ _ _
      | exact ih2 _ _ _ _ _ _ _ _ _ _ _
      | exact fp_Trim.mono _ _
      | exact LeO.none _
      | refine LeO.ite ?_ ?_
      | refine LeO.bind ?_ (fun _ => ?_)
    · intro y0 y1 y2 y3 y4 y5
      unfold fp_Mul.l0
      repeat' first
      | (with_reducible exact ih0 _ _ _ _)
      | (with_reducible exact ih1 _ _ _ _ _ _)
      | (with_reducible exact ih2 _ _ _ _ _ _ _ _ _ _ _)
      | (with_reducible exact fp_Trim.mono _ _)
      | (with_reducible exact LeO.refl _)
      | (with_reducible exact LeO.none _)
      | (with_reducible refine LeO.ite ?_ ?_)
      | (with_reducible refine LeO.bind ?_ (fun _ => ?_))
      | exact ih0 _ _ _ _
      | exact ih1 _ _ _ _ _ _
      | exact ih2 _ _ _ _ _ _ _ _ _ _ _
      | exact fp_Trim.mono _ _
      | exact LeO.none _
      | refine LeO.ite ?_ ?_
      | refine LeO.bind ?_ (fun _ => ?_)
    · intro y0 y1 y2 y3 y4 y5 y6 y7 y8 y9 y10
      unfold fp_Mul.l1
      repeat' first
      | (with_reducible exact ih0 _ _ _ _)
      | (with_reducible exact ih1 _ _ _ _ _ _)
      | (with_reducible exact ih2 _ _ _ _ _ _ _ _ _ _ _)
      | (with_reducible exact fp_Trim.mono _ _)
      | (with_reducible exact LeO.refl _)
      | (with_reducible exact LeO.none _)
      | (with_reducible refine LeO.ite ?_ ?_)
      | (with_reducible refine LeO.bind ?_ (fun _ => ?_))
      | exact ih0 _ _ _ _
      | exact ih1 _ _ _ _ _ _
      | exact ih2 _ _ _ _ _ _ _ _ _ _ _
      | exact fp_Trim.mono _ _
      | exact LeO.none _
      | refine LeO.ite ?_ ?_
      | refine LeO.bind ?_ (fun _ => ?_)
theorem fp_Mul.mono : ∀ a0 a1 a2 k, LeO (fp_Mul.f k a0 a1 a2) (fp_Mul.f (k + 1) a0 a1 a2) := by
  intro a0 a1 a2 k
  obtain ⟨ih0, ih1, ih2⟩ := fp_Mul.mono_l k
  unfold fp_Mul.f
  repeat' first
      | (with_reducible exact ih0 _ _ _ _)
      | (with_reducible exact ih1 _ _ _ _ _ _)
      | (with_reducible exact ih2 _ _ _ _ _ _ _ _ _ _ _)
      | (with_reducible exact fp_Trim.mono _ _)
      | (with_reducible exact LeO.refl _)
      | (with_reducible exact LeO.none _)
      | (with_reducible refine LeO.ite ?_ ?_)
      | (with_reducible refine LeO.bind ?_ (fun _ => ?_))
      | exact ih0 _ _ _ _
      | exact ih1 _ _ _ _ _ _
      | exact ih2 _ _ _ _ _ _ _ _ _ _ _
      | exact fp_Trim.mono _ _
      | exact LeO.none _
      | refine LeO.ite ?_ ?_
      | refine LeO.bind ?_ (fun _ => ?_)
def fp_MulMod.f (k : Nat) (a0 : Int) (l1 : List Int) (l2 : List Int) (l3 : List Int) : Option (List Int) := (fp_Mul.f k a0 l1 l2).bind fun t101 => ((fp_Rem.f k a0 t101 l3).bind fun t104 => (some t104))
theorem fp_MulMod.mono : ∀ a0 a1 a2 a3 k, LeO (fp_MulMod.f k a0 a1 a2 a3) (fp_MulMod.f (k + 1) a0 a1 a2 a3) := by
  intro a0 a1 a2 a3 k
  unfold fp_MulMod.f
  repeat' first
      | (with_reducible exact fp_Mul.mono _ _ _ _)
      | (with_reducible exact fp_Rem.mono _ _ _ _)
      | (with_reducible exact LeO.refl _)
      | (with_reducible exact LeO.none _)
      | (with_reducible refine LeO.ite ?_ ?_)
      | (with_reducible refine LeO.bind ?_ (fun _ => ?_))
      | exact fp_Mul.mono _ _ _ _
      | exact fp_Rem.mono _ _ _ _
      | exact LeO.none _
      | refine LeO.ite ?_ ?_
      | refine LeO.bind ?_ (fun _ => ?_)
mutual
def fp_PowMod.l0 : Nat → Int → ByteArray → List Int → List Int → List Int → Int → Int → Option (List Int)
  | 0, _, _, _, _, _, _, _ => none
  | k + 1, x0, x2, x3, x9, x10, x22, x23 => if x23 < x22 then (fp_PowMod.l1 k x0 x2 x3 x9 x10 x23 7 x22 x23) else (some x9)
def fp_PowMod.l1 : Nat → Int → ByteArray → List Int → List Int → List Int → Int → Int → Int → Int → Option (List Int)
  | 0, _, _, _, _, _, _, _, _, _ => none
  | k + 1, x0, x2, x3, x9, x10, x11, x12, x22, x23 => if x12 ≥ 0 then ((fp_MulMod.f k x0 x9 x9 x3).bind fun t110 => (if 0 ≤ x11 then (if x11 < (x2.size : Int) then (if 0 ≤ x12 then (if (Go.bits .and .u8 (shr .u8 (bt x2 x11) x12) 1) = 1 then ((fp_MulMod.f k x0 t110 x10 x3).bind fun t113 => (fp_PowMod.l1 k x0 x2 x3 t113 x10 x11 (wrap64 (x12 - 1)) x22 x23)) else (fp_PowMod.l1 k x0 x2 x3 t110 x10 x11 (wrap64 (x12 - 1)) x22 x23)) else (none)) else (none)) else (none))) else (fp_PowMod.l0 k x0 x2 x3 x9 x10 x22 (wrap64 (x23 + 1)))
end
def fp_PowMod.f (k : Nat) (a0 : Int) (l1 : List Int) (a2 : ByteArray) (l3 : List Int) : Option (List Int) := (fp_Rem.f k a0 (([1] : List Int)) l3).bind fun t104 => ((fp_Rem.f k a0 l1 l3).bind fun t107 => (fp_PowMod.l0 k a0 a2 l3 t104 t107 (a2.size : Int) 0))
theorem fp_PowMod.mono_l : ∀ k, (∀ y0 y1 y2 y3 y4 y5 y6, LeO (fp_PowMod.l0 k y0 y1 y2 y3 y4 y5 y6) (fp_PowMod.l0 (k + 1) y0 y1 y2 y3 y4 y5 y6)) ∧ (∀ y0 y1 y2 y3 y4 y5 y6 y7 y8, LeO (fp_PowMod.l1 k y0 y1 y2 y3 y4 y5 y6 y7 y8) (fp_PowMod.l1 (k + 1) y0 y1 y2 y3 y4 y5 y6 y7 y8))
  | 0 => ⟨fun _ _ _ _ _ _ _ r h => by simp [fp_PowMod.l0] at h, fun _ _ _ _ _ _ _ _ _ r h => by simp [fp_PowMod.l1] at h⟩
  | k + 1 => by
    obtain ⟨ih0, ih1⟩ := fp_PowMod.mono_l k
    refine ⟨?_, ?_⟩
    · intro y0 y1 y2 y3 y4 y5 y6
      unfold fp_PowMod.l0
      repeat' first
      | (with_reducible exact ih0 _ _ _ _ _ _ _)
      | (with_reducible exact ih1 _ _ _ _ _ _ _ _ _)
      | (with_reducible exact fp_MulMod.mono _ _ _ _ _)
      | (with_reducible exact fp_Rem.mono _ _ _ _)
      | (with_reducible exact LeO.refl _)
      | (with_reducible exact LeO.none _)
      | (with_reducible refine LeO.ite ?_ ?_)
      | (with_reducible refine LeO.bind ?_ (fun _ => ?_))
      | exact ih0 _ _ _ _ _ _ _
      | exact ih1 _ _ _ _ _ _ _ _ _
      | exact fp_MulMod.mono _ _ _ _ _
      | exact fp_Rem.mono _ _ _ _
      | exact LeO.none _
      | refine LeO.ite ?_ ?_
      | refine LeO.bind ?_ (fun _ => ?_)
    · intro y0 y1 y2 y3 y4 y5 y6 y7 y8
      unfold fp_PowMod.l1
      repeat' first
      | (with_reducible exact ih0 _ _ _ _ _ _ _)
      | (with_reducible exact ih1 _ _ _ _ _ _ _ _ _)
      | (with_reducible exact fp_MulMod.mono _ _ _ _ _)
      | (with_reducible exact fp_Rem.mono _ _ _ _)
      | (with_reducible exact LeO.refl _)
      | (with_reducible exact LeO.none _)
      | (with_reducible refine LeO.ite ?_ ?_)
      | (with_reducible refine LeO.bind ?_ (fun _ => ?_))
      | exact ih0 _ _ _ _ _ _ _
      | exact ih1 _ _ _ _ _ _ _ _ _
      | exact fp_MulMod.mono _ _ _ _ _
      | exact fp_Rem.mono _ _ _ _
      | exact LeO.none _
      | refine LeO.ite ?_ ?_
      | refine LeO.bind ?_ (fun _ => ?_)
theorem fp_PowMod.mono : ∀ a0 a1 a2 a3 k, LeO (fp_PowMod.f k a0 a1 a2 a3) (fp_PowMod.f (k + 1) a0 a1 a2 a3) := by
  intro a0 a1 a2 a3 k
  obtain ⟨ih0, ih1⟩ := fp_PowMod.mono_l k
  unfold fp_PowMod.f
  repeat' first
      | (with_reducible exact ih0 _ _ _ _ _ _ _)
      | (with_reducible exact ih1 _ _ _ _ _ _ _ _ _)
      | (with_reducible exact fp_MulMod.mono _ _ _ _ _)
      | (with_reducible exact fp_Rem.mono _ _ _ _)
      | (with_reducible exact LeO.refl _)
      | (with_reducible exact LeO.none _)
      | (with_reducible refine LeO.ite ?_ ?_)
      | (with_reducible refine LeO.bind ?_ (fun _ => ?_))
      | exact ih0 _ _ _ _ _ _ _
      | exact ih1 _ _ _ _ _ _ _ _ _
      | exact fp_MulMod.mono _ _ _ _ _
      | exact fp_Rem.mono _ _ _ _
      | exact LeO.none _
      | refine LeO.ite ?_ ?_
      | refine LeO.bind ?_ (fun _ => ?_)
def fp_Power.f (k : Nat) (a0 : Int) (l1 : List Int) (l2 : List Int) : Option (List Int) := (fp_PowMod.f k a0 l1 (strOfNums (([(a0 / 256) % 256, (a0) % 256] : List Int))) l2).bind fun t104 => (some t104)
theorem fp_Power.mono : ∀ a0 a1 a2 k, LeO (fp_Power.f k a0 a1 a2) (fp_Power.f (k + 1) a0 a1 a2) := by
  intro a0 a1 a2 k
  unfold fp_Power.f
  repeat' first
      | (with_reducible exact fp_PowMod.mono _ _ _ _ _)
      | (with_reducible exact LeO.refl _)
      | (with_reducible exact LeO.none _)
      | (with_reducible refine LeO.ite ?_ ?_)
      | (with_reducible refine LeO.bind ?_ (fun _ => ?_))
      | exact fp_PowMod.mono _ _ _ _ _
      | exact LeO.none _
      | refine LeO.ite ?_ ?_
      | refine LeO.bind ?_ (fun _ => ?_)
def fp_Scale.l0 : Nat → Int → Int → List Int → List Int → Int → Int → Option (List Int)
  | 0, _, _, _, _, _, _ => none
  | k + 1, x0, x2, x7, x13, x14, x15 => if x15 < x14 then (if 0 ≤ x15 then (if x15 < (x13.length : Int) then (if x0 = 0 then (none) else (if x15 < (x7.length : Int) then (fp_Scale.l0 k x0 x2 (x7.set (x15 : Int).toNat (Int.tmod (wrap64 ((rd x13 x15) * x2)) x0)) x13 x14 (wrap64 (x15 + 1))) else (none))) else (none)) else (none)) else ((fp_Trim.f k x7).bind fun t106 => (some t106))
def fp_Scale.f (k : Nat) (a0 : Int) (l1 : List Int) (a2 : Int) : Option (List Int) := if 0 ≤ (l1.length : Int) then (if ((l1.length : Int) : Int).toNat ≤ 35184372088832 then (fp_Scale.l0 k a0 a2 (List.replicate ((l1.length : Int) : Int).toNat 0) l1 (l1.length : Int) 0) else (none)) else (none)
theorem fp_Scale.mono_l : ∀ k, (∀ y0 y1 y2 y3 y4 y5, LeO (fp_Scale.l0 k y0 y1 y2 y3 y4 y5) (fp_Scale.l0 (k + 1) y0 y1 y2 y3 y4 y5))
  | 0 => fun _ _ _ _ _ _ r h => by simp [fp_Scale.l0] at h
  | k + 1 => by
    have ih0 := fp_Scale.mono_l k
    · intro y0 y1 y2 y3 y4 y5
      unfold fp_Scale.l0
      repeat' first
      | (with_reducible exact ih0 _ _ _ _ _ _)
      | (with_reducible exact fp_Trim.mono _ _)
      | (with_reducible exact LeO.refl _)
      | (with_reducible exact LeO.none _)
      | (with_reducible refine LeO.ite ?_ ?_)
      | (with_reducible refine LeO.bind ?_ (fun _ => ?_))
      | exact ih0 _ _ _ _ _ _
      | exact fp_Trim.mono _ _
      | exact LeO.none _
      | refine LeO.ite ?_ ?_
      | refine LeO.bind ?_ (fun _ => ?_)
theorem fp_Scale.mono : ∀ a0 a1 a2 k, LeO (fp_Scale.f k a0 a1 a2) (fp_Scale.f (k + 1) a0 a1 a2) := by
  intro a0 a1 a2 k
  have ih0 := fp_Scale.mono_l k
  unfold fp_Scale.f
  repeat' first
      | (with_reducible exact ih0 _ _ _ _ _ _)
      | (with_reducible exact fp_Trim.mono _ _)
      | (with_reducible exact LeO.refl _)
      | (with_reducible exact LeO.none _)
      | (with_reducible refine LeO.ite ?_ ?_)
      | (with_reducible refine LeO.bind ?_ (fun _ => ?_))
      | exact ih0 _ _ _ _ _ _
      | exact fp_Trim.mono _ _
      | exact LeO.none _
      | refine LeO.ite ?_ ?_
      | refine LeO.bind ?_ (fun _ => ?_)
def fp_Monic.f (k : Nat) (a0 : Int) (l1 : List Int) : Option (List Int) := if (l1.length : Int) = 0 then (some ([] : List Int)) else (if 0 ≤ (wrap64 ((l1.length : Int) - 1)) then (if (wrap64 ((l1.length : Int) - 1)) < (l1.length : Int) then ((fp_Inv.f k a0 (rd l1 (wrap64 ((l1.length : Int) - 1)))).bind fun t102 => ((fp_Scale.f k a0 l1 t102).bind fun t103 => (some t103))) else (none)) else (none))
theorem fp_Monic.mono : ∀ a0 a1 k, LeO (fp_Monic.f k a0 a1) (fp_Monic.f (k + 1) a0 a1) := by
  intro a0 a1 k
  unfold fp_Monic.f
  repeat' first
      | (with_reducible exact fp_Inv.mono _ _ _)
      | (with_reducible exact fp_Scale.mono _ _ _ _)
      | (with_reducible exact LeO.refl _)
      | (with_reducible exact LeO.none _)
      | (with_reducible refine LeO.ite ?_ ?_)
      | (with_reducible refine LeO.bind ?_ (fun _ => ?_))
      | exact fp_Inv.mono _ _ _
      | exact fp_Scale.mono _ _ _ _
      | exact LeO.none _
      | refine LeO.ite ?_ ?_
      | refine LeO.bind ?_ (fun _ => ?_)
def fp_Gcd.l0 : Nat → Int → List Int → List Int → Option (List Int)
  | 0, _, _, _ => none
  | k + 1, x0, x1, x2 => if (x2.length : Int) > 0 then ((fp_Rem.f k x0 x1 x2).bind fun t101 => (fp_Gcd.l0 k x0 x2 t101)) else ((fp_Monic.f k x0 x1).bind fun t104 => (some t104))
def fp_Gcd.f (k : Nat) (a0 : Int) (l1 : List Int) (l2 : List Int) : Option (List Int) := fp_Gcd.l0 k a0 l1 l2
theorem fp_Gcd.mono_l : ∀ k, (∀ y0 y1 y2, LeO (fp_Gcd.l0 k y0 y1 y2) (fp_Gcd.l0 (k + 1) y0 y1 y2))
  | 0 => fun _ _ _ r h => by simp [fp_Gcd.l0] at h
  | k + 1 => by
    have ih0 := fp_Gcd.mono_l k
    · intro y0 y1 y2
      unfold fp_Gcd.l0
      repeat' first
      | (with_reducible exact ih0 _ _ _)
      | (with_reducible exact fp_Monic.mono _ _ _)
      | (with_reducible exact fp_Rem.mono _ _ _ _)
      | (with_reducible exact LeO.refl _)
      | (with_reducible exact LeO.none _)
      | (with_reducible refine LeO.ite ?_ ?_)
      | (with_reducible refine LeO.bind ?_ (fun _ => ?_))
      | exact ih0 _ _ _
      | exact fp_Monic.mono _ _ _
      | exact fp_Rem.mono _ _ _ _
      | exact LeO.none _
      | refine LeO.ite ?_ ?_
      | refine LeO.bind ?_ (fun _ => ?_)
theorem fp_Gcd.mono : ∀ a0 a1 a2 k, LeO (fp_Gcd.f k a0 a1 a2) (fp_Gcd.f (k + 1) a0 a1 a2) := by
  intro a0 a1 a2 k
  have ih0 := fp_Gcd.mono_l k
  unfold fp_Gcd.f
  repeat' first
      | (with_reducible exact ih0 _ _ _)
      | (with_reducible exact fp_Monic.mono _ _ _)
      | (with_reducible exact fp_Rem.mono _ _ _ _)
      | (with_reducible exact LeO.refl _)
      | (with_reducible exact LeO.none _)
      | (with_reducible refine LeO.ite ?_ ?_)
      | (with_reducible refine LeO.bind ?_ (fun _ => ?_))
      | exact ih0 _ _ _
      | exact fp_Monic.mono _ _ _
      | exact fp_Rem.mono _ _ _ _
      | exact LeO.none _
      | refine LeO.ite ?_ ?_
      | refine LeO.bind ?_ (fun _ => ?_)
def fp_Irreducible.l0 : Nat → Int → List Int → Int → List Int → List Int → Int → Option (Bool)
  | 0, _, _, _, _, _, _ => none
  | k + 1, x0, x1, x5, x6, x7, x8 => if x8 ≤ x5 then ((fp_Power.f k x0 x7 x1).bind fun t107 => ((fp_Rem.f k x0 x6 x1).bind fun t110 => ((fp_Sub.f k x0 t107 t110).bind fun t113 => (if x8 = x5 then (some ((t113.length : Int) == 0)) else (if x8 = 0 then (none) else (if (Int.tmod x5 x8) = 0 then ((fp_Gcd.f k x0 t113 x1).bind fun t116 => (if (t116.length : Int) = 1 then (fp_Irreducible.l0 k x0 x1 x5 x6 t107 (wrap64 (x8 + 1))) else (some false))) else (fp_Irreducible.l0 k x0 x1 x5 x6 t107 (wrap64 (x8 + 1))))))))) else (some false)
def fp_Irreducible.f (k : Nat) (a0 : Int) (l1 : List Int) : Option (Bool) := if (wrap64 ((l1.length : Int) - 1)) < 1 then (some false) else ((some (([0, 1] : List Int) : List Int)).bind fun y101 => ((fp_Rem.f k a0 y101 l1).bind fun t104 => (fp_Irreducible.l0 k a0 l1 (wrap64 ((l1.length : Int) - 1)) y101 t104 1)))
theorem fp_Irreducible.mono_l : ∀ k, (∀ y0 y1 y2 y3 y4 y5, LeO (fp_Irreducible.l0 k y0 y1 y2 y3 y4 y5) (fp_Irreducible.l0 (k + 1) y0 y1 y2 y3 y4 y5))
  | 0 => fun _ _ _ _ _ _ r h => by simp [fp_Irreducible.l0] at h
  | k + 1 => by
    have ih0 := fp_Irreducible.mono_l k
    · intro y0 y1 y2 y3 y4 y5
      unfold fp_Irreducible.l0
      repeat' first
      | (with_reducible exact ih0 _ _ _ _ _ _)
      | (with_reducible exact fp_Gcd.mono _ _ _ _)
      | (with_reducible exact fp_Power.mono _ _ _ _)
      | (with_reducible exact fp_Rem.mono _ _ _ _)
      | (with_reducible exact fp_Sub.mono _ _ _ _)
      | (with_reducible exact LeO.refl _)
      | (with_reducible exact LeO.none _)
      | (with_reducible refine LeO.ite ?_ ?_)
      | (with_reducible refine LeO.bind ?_ (fun _ => ?_))
      | exact ih0 _ _ _ _ _ _
      | exact fp_Gcd.mono _ _ _ _
      | exact fp_Power.mono _ _ _ _
      | exact fp_Rem.mono _ _ _ _
      | exact fp_Sub.mono _ _ _ _
      | exact LeO.none _
      | refine LeO.ite ?_ ?_
      | refine LeO.bind ?_ (fun _ => ?_)
theorem fp_Irreducible.mono : ∀ a0 a1 k, LeO (fp_Irreducible.f k a0 a1) (fp_Irreducible.f (k + 1) a0 a1) := by
  intro a0 a1 k
  have ih0 := fp_Irreducible.mono_l k
  unfold fp_Irreducible.f
  repeat' first
      | (with_reducible exact ih0 _ _ _ _ _ _)
      | (with_reducible exact fp_Gcd.mono _ _ _ _)
      | (with_reducible exact fp_Power.mono _ _ _ _)
      | (with_reducible exact fp_Rem.mono _ _ _ _)
      | (with_reducible exact fp_Sub.mono _ _ _ _)
      | (with_reducible exact LeO.refl _)
      | (with_reducible exact LeO.none _)
      | (with_reducible refine LeO.ite ?_ ?_)
      | (with_reducible refine LeO.bind ?_ (fun _ => ?_))
      | exact ih0 _ _ _ _ _ _
      | exact fp_Gcd.mono _ _ _ _
      | exact fp_Power.mono _ _ _ _
      | exact fp_Rem.mono _ _ _ _
      | exact fp_Sub.mono _ _ _ _
      | exact LeO.none _
      | refine LeO.ite ?_ ?_
      | refine LeO.bind ?_ (fun _ => ?_)
mutual
def fi_Modulus.j0 : Nat → Int → Int → Bool → Option (List Int × Int)
  | 0, _, _, _ => none
  | k + 1, x0, x1, x19 => if x19 = true then (some (([] : List Int), 3)) else (if 0 ≤ (wrap64 (x1 + 1)) then (if (wrap64 (x1 + 1) : Int).toNat ≤ 35184372088832 then ((some (List.replicate (wrap64 (x1 + 1) : Int).toNat 0 : List Int)).bind fun y102 => (if 0 ≤ x1 then (if x1 < (y102.length : Int) then ((some (y102.set (x1 : Int).toNat 1 : List Int)).bind fun y105 => (if x1 > 1 then (if 0 < (y102.length : Int) then (fi_Modulus.j1 k x0 x1 (y105.set (0 : Int).toNat 1)) else (none)) else (fi_Modulus.j1 k x0 x1 y105))) else (none)) else (none))) else (none)) else (none))
def fi_Modulus.j1 : Nat → Int → Int → List Int → Option (List Int × Int)
  | 0, _, _, _ => none
  | k + 1, x0, x1, x7 => fi_Modulus.l0 k x0 x1 x7
def fi_Modulus.l0 : Nat → Int → Int → List Int → Option (List Int × Int)
  | 0, _, _, _ => none
  | k + 1, x0, x1, x7 => (fp_Irreducible.f k x0 x7).bind fun t107 => (if t107 = true then (some (x7, 0)) else (fi_Modulus.l1 k x0 x1 x7 (wrap64 (x1 - 1))))
def fi_Modulus.l1 : Nat → Int → Int → List Int → Int → Option (List Int × Int)
  | 0, _, _, _, _ => none
  | k + 1, x0, x1, x7, x8 => if 0 ≤ x8 then (if x8 < (x7.length : Int) then (if (rd x7 x8) = (wrap64 (x0 - 1)) then (fi_Modulus.l1 k x0 x1 (x7.set (x8 : Int).toNat 0) (wrap64 (x8 - 1))) else (fi_Modulus.l0 k x0 x1 (x7.set (x8 : Int).toNat (wrap64 ((rd x7 x8) + 1))))) else (none)) else (none)
end
def fi_Modulus.f (k : Nat) (a0 : Int) (a1 : Int) : Option (List Int × Int) := (pm_Check.f k a0 ([] : List Int)).bind fun t101 => (if t101 = 0 then (if a1 < 1 then (fi_Modulus.j0 k a0 a1 true) else (fi_Modulus.j0 k a0 a1 (decide (a1 > 16)))) else (some (([] : List Int), t101)))
theorem fi_Modulus.mono_l : ∀ k, (∀ y0 y1 y2, LeO (fi_Modulus.j0 k y0 y1 y2) (fi_Modulus.j0 (k + 1) y0 y1 y2)) ∧ (∀ y0 y1 y2, LeO (fi_Modulus.j1 k y0 y1 y2) (fi_Modulus.j1 (k + 1) y0 y1 y2)) ∧ (∀ y0 y1 y2, LeO (fi_Modulus.l0 k y0 y1 y2) (fi_Modulus.l0 (k + 1) y0 y1 y2)) ∧ (∀ y0 y1 y2 y3, LeO (fi_Modulus.l1 k y0 y1 y2 y3) (fi_Modulus.l1 (k + 1) y0 y1 y2 y3))
  | 0 => ⟨fun _ _ _ r h => by simp [fi_Modulus.j0] at h, fun _ _ _ r h => by simp [fi_Modulus.j1] at h, fun _ _ _ r h => by simp [fi_Modulus.l0] at h, fun _ _ _ _ r h => by simp [fi_Modulus.l1] at h⟩
  | k + 1 => by
    obtain ⟨ih0, ih1, ih2, ih3⟩ := fi_Modulus.mono_l k
    refine ⟨?_, ?_, ?_, ?_⟩
    · intro y0 y1 y2
      unfold fi_Modulus.j0
      repeat' first
      | (with_reducible exact ih0 _ _ _)
      | (with_reducible exact ih1 _ _ _)
      | (with_reducible exact ih2 _ _ _)
      | (with_reducible exact ih3 _ _ _ _)
      | (with_reducible exact fp_Irreducible.mono _ _ _)
      | (with_reducible exact pm_Check.mono _ _ _)
      | (with_reducible exact LeO.refl _)
      | (with_reducible exact LeO.none _)
      | (with_reducible refine LeO.ite ?_ ?_)
      | (with_reducible refine LeO.bind ?_ (fun _ => ?_))
      | exact ih0 _ _ _
      | exact ih1 _ _ _
      | exact ih2 _ _ _
      | exact ih3 _ _ _ _
      | exact fp_Irreducible.mono _ _ _
      | exact pm_Check.mono _ _ _
      | exact LeO.none _
      | refine LeO.ite ?_ ?_
      | refine LeO.bind ?_ (fun _ => ?_)
    · intro y0 y1 y2
      unfold fi_Modulus.j1
      repeat' first
      | (with_reducible exact ih0 _ _ _)
      | (with_reducible exact ih1 _ _ _)
      | (with_reducible exact ih2 _ _ _)
      | (with_reducible exact ih3 _ _ _ _)
      | (with_reducible exact fp_Irreducible.mono _ _ _)
      | (with_reducible exact pm_Check.mono _ _ _)
      | (with_reducible exact LeO.refl _)
      | (with_reducible exact LeO.none _)
      | (with_reducible refine LeO.ite ?_ ?_)
      | (with_reducible refine LeO.bind ?_ (fun _ => ?_))
      | exact ih0 _ _ _
      | exact ih1 _ _ _
      | exact ih2 _ _ _
      | exact ih3 _ _ _ _
      | exact fp_Irreducible.mono _ _ _
      | exact pm_Check.mono _ _ _
      | exact LeO.none _
      | refine LeO.ite ?_ ?_
      | refine LeO.bind ?_ (fun _ => ?_)
    · intro y0 y1 y2
      unfold fi_Modulus.l0
      repeat' first
      | (with_reducible exact ih0 _ _ _)
      | (with_reducible exact ih1 _ _ _)
      | (with_reducible exact ih2 _ _ _)
      | (with_reducible exact ih3 _ _ _ _)
      | (with_reducible exact fp_Irreducible.mono _ _ _)
      | (with_reducible exact pm_Check.mono _ _ _)
      | (with_reducible exact LeO.refl _)
      | (with_reducible exact LeO.none _)
      | (with_reducible refine LeO.ite ?_ ?_)
      | (with_reducible refine LeO.bind ?_ (fun _ => ?_))
      | exact ih0 _ _ _
      | exact ih1 _ _ _
      | exact ih2 _ _ _
      | exact ih3 _ _ _ _
      | exact fp_Irreducible.mono _ _ _
      | exact pm_Check.mono _ _ _
      | exact LeO.none _
      | refine LeO.ite ?_ ?_
      | refine LeO.bind ?_ (fun _ => ?_)
    · intro y0 y1 y2 y3
      unfold fi_Modulus.l1
      repeat' first
      | (with_reducible exact ih0 _ _ _)
      | (with_reducible exact ih1 _ _ _)
      | (with_reducible exact ih2 _ _ _)
      | (with_reducible exact ih3 _ _ _ _)
      | (with_reducible exact fp_Irreducible.mono _ _ _)
      | (with_reducible exact pm_Check.mono _ _ _)
      | (with_reducible exact LeO.refl _)
      | (with_reducible exact LeO.none _)
      | (with_reducible refine LeO.ite ?_ ?_)
      | (with_reducible refine LeO.bind ?_ (fun _ => ?_))
      | exact ih0 _ _ _
      | exact ih1 _ _ _
      | exact ih2 _ _ _
      | exact ih3 _ _ _ _
      | exact fp_Irreducible.mono _ _ _
      | exact pm_Check.mono _ _ _
      | exact LeO.none _
      | refine LeO.ite ?_ ?_
      | refine LeO.bind ?_ (fun _ => ?_)
theorem fi_Modulus.mono : ∀ a0 a1 k, LeO (fi_Modulus.f k a0 a1) (fi_Modulus.f (k + 1) a0 a1) := by
  intro a0 a1 k
  obtain ⟨ih0, ih1, ih2, ih3⟩ := fi_Modulus.mono_l k
  unfold fi_Modulus.f
  repeat' first
      | (with_reducible exact ih0 _ _ _)
      | (with_reducible exact ih1 _ _ _)
      | (with_reducible exact ih2 _ _ _)
      | (with_reducible exact ih3 _ _ _ _)
      | (with_reducible exact fp_Irreducible.mono _ _ _)
      | (with_reducible exact pm_Check.mono _ _ _)
      | (with_reducible exact LeO.refl _)
      | (with_reducible exact LeO.none _)
      | (with_reducible refine LeO.ite ?_ ?_)
      | (with_reducible refine LeO.bind ?_ (fun _ => ?_))
      | exact ih0 _ _ _
      | exact ih1 _ _ _
      | exact ih2 _ _ _
      | exact ih3 _ _ _ _
      | exact fp_Irreducible.mono _ _ _
      | exact pm_Check.mono _ _ _
      | exact LeO.none _
      | refine LeO.ite ?_ ?_
      | refine LeO.bind ?_ (fun _ => ?_)
def gFDegree.f (a0_0 : Int) (l0_1 : List Int) : Option (Int) := some (wrap64 ((l0_1.length : Int) - 1))
def gFSize.l0 : Nat → Int → Int → Int → Int → List Int → Option (Int × Bool)
  | 0, _, _, _, _, _ => none
  | k + 1, x4, x6, x7, x102000, x102001 => if x7 < x6 then (if (wrap64 (x4 * x102000)) > 2147483647 then (some (0, false)) else (gFSize.l0 k (wrap64 (x4 * x102000)) x6 (wrap64 (x7 + 1)) x102000 x102001)) else (some (x4, true))
def gFSize.f (k : Nat) (a0_0 : Int) (l0_1 : List Int) : Option (Int × Bool) := (gFDegree.f a0_0 l0_1).bind fun t102 => (gFSize.l0 k 1 t102 0 a0_0 l0_1)
theorem gFSize.mono_l : ∀ k, (∀ y0 y1 y2 y3 y4, LeO (gFSize.l0 k y0 y1 y2 y3 y4) (gFSize.l0 (k + 1) y0 y1 y2 y3 y4))
  | 0 => fun _ _ _ _ _ r h => by simp [gFSize.l0] at h
  | k + 1 => by
    have ih0 := gFSize.mono_l k
    · intro y0 y1 y2 y3 y4
      unfold gFSize.l0
      repeat' first
      | (with_reducible exact ih0 _ _ _ _ _)
      | (with_reducible exact LeO.refl _)
      | (with_reducible exact LeO.none _)
      | (with_reducible refine LeO.ite ?_ ?_)
      | (with_reducible refine LeO.bind ?_ (fun _ => ?_))
      | exact ih0 _ _ _ _ _
      | exact LeO.none _
      | refine LeO.ite ?_ ?_
      | refine LeO.bind ?_ (fun _ => ?_)
theorem gFSize.mono : ∀ a0 a1 k, LeO (gFSize.f k a0 a1) (gFSize.f (k + 1) a0 a1) := by
  intro a0 a1 k
  have ih0 := gFSize.mono_l k
  unfold gFSize.f
  repeat' first
      | (with_reducible exact ih0 _ _ _ _ _)
      | (with_reducible exact LeO.refl _)
      | (with_reducible exact LeO.none _)
      | (with_reducible refine LeO.ite ?_ ?_)
      | (with_reducible refine LeO.bind ?_ (fun _ => ?_))
      | exact ih0 _ _ _ _ _
      | exact LeO.none _
      | refine LeO.ite ?_ ?_
      | refine LeO.bind ?_ (fun _ => ?_)
def fi_size.f (k : Nat) (a0_0 : Int) (l0_1 : List Int) (a1 : Int) : Option (Int × Int) := (gFSize.f k a0_0 l0_1).bind fun bt102 => (if bt102.2 = true then (if bt102.1 > a1 then (some (0, 5)) else (some (bt102.1, 0))) else (some (0, 5)))
theorem fi_size.mono : ∀ a0 a1 a2 k, LeO (fi_size.f k a0 a1 a2) (fi_size.f (k + 1) a0 a1 a2) := by
  intro a0 a1 a2 k
  unfold fi_size.f
  repeat' first
      | (with_reducible exact gFSize.mono _ _ _)
      | (with_reducible exact LeO.refl _)
      | (with_reducible exact LeO.none _)
      | (with_reducible refine LeO.ite ?_ ?_)
      | (with_reducible refine LeO.bind ?_ (fun _ => ?_))
      | exact gFSize.mono _ _ _
      | exact LeO.none _
      | refine LeO.ite ?_ ?_
      | refine LeO.bind ?_ (fun _ => ?_)
def fi_Check.j0 : Nat → Bool → Int → List Int → Option (Int)
  | 0, _, _, _ => none
  | k + 1, x20, x102000, x102001 => if x20 = true then (some 1) else ((fp_Irreducible.f k x102000 x102001).bind fun t104 => (if t104 = true then (some 0) else (some 8)))
def fi_Check.f (k : Nat) (a0_0 : Int) (l0_1 : List Int) : Option (Int) := (pm_Check.f k a0_0 l0_1).bind fun t102 => (if t102 = 0 then (if (wrap64 ((l0_1.length : Int) - 1)) > 16 then (some 4) else (if (wrap64 ((l0_1.length : Int) - 1)) < 1 then (fi_Check.j0 k true a0_0 l0_1) else (if 0 ≤ (wrap64 ((l0_1.length : Int) - 1)) then (if (wrap64 ((l0_1.length : Int) - 1)) < (l0_1.length : Int) then (fi_Check.j0 k ((rd l0_1 (wrap64 ((l0_1.length : Int) - 1))) != 1) a0_0 l0_1) else (none)) else (none)))) else (some t102))
theorem fi_Check.mono_l : ∀ k, (∀ y0 y1 y2, LeO (fi_Check.j0 k y0 y1 y2) (fi_Check.j0 (k + 1) y0 y1 y2))
  | 0 => fun _ _ _ r h => by simp [fi_Check.j0] at h
  | k + 1 => by
    have ih0 := fi_Check.mono_l k
    · intro y0 y1 y2
      unfold fi_Check.j0
      repeat' first
      | (with_reducible exact ih0 _ _ _)
      | (with_reducible exact fp_Irreducible.mono _ _ _)
      | (with_reducible exact pm_Check.mono _ _ _)
      | (with_reducible exact LeO.refl _)
      | (with_reducible exact LeO.none _)
      | (with_reducible refine LeO.ite ?_ ?_)
      | (with_reducible refine LeO.bind ?_ (fun _ => ?_))
      | exact ih0 _ _ _
      | exact fp_Irreducible.mono _ _ _
      | exact pm_Check.mono _ _ _
      | exact LeO.none _
      | refine LeO.ite ?_ ?_
      | refine LeO.bind ?_ (fun _ => ?_)
theorem fi_Check.mono : ∀ a0 a1 k, LeO (fi_Check.f k a0 a1) (fi_Check.f (k + 1) a0 a1) := by
  intro a0 a1 k
  have ih0 := fi_Check.mono_l k
  unfold fi_Check.f
  repeat' first
      | (with_reducible exact ih0 _ _ _)
      | (with_reducible exact fp_Irreducible.mono _ _ _)
      | (with_reducible exact pm_Check.mono _ _ _)
      | (with_reducible exact LeO.refl _)
      | (with_reducible exact LeO.none _)
      | (with_reducible refine LeO.ite ?_ ?_)
      | (with_reducible refine LeO.bind ?_ (fun _ => ?_))
      | exact ih0 _ _ _
      | exact fp_Irreducible.mono _ _ _
      | exact pm_Check.mono _ _ _
      | exact LeO.none _
      | refine LeO.ite ?_ ?_
      | refine LeO.bind ?_ (fun _ => ?_)
def fi_element.f (k : Nat) (a0_0 : Int) (l0_1 : List Int) (l1 : List Int) : Option (Int) := (pm_Check.f k a0_0 l1).bind fun t102 => (if t102 = 0 then (if (l1.length : Int) ≥ (l0_1.length : Int) then (some 3) else (some 0)) else (some t102))
theorem fi_element.mono : ∀ a0 a1 a2 k, LeO (fi_element.f k a0 a1 a2) (fi_element.f (k + 1) a0 a1 a2) := by
  intro a0 a1 a2 k
  unfold fi_element.f
  repeat' first
      | (with_reducible exact pm_Check.mono _ _ _)
      | (with_reducible exact LeO.refl _)
      | (with_reducible exact LeO.none _)
      | (with_reducible refine LeO.ite ?_ ?_)
      | (with_reducible refine LeO.bind ?_ (fun _ => ?_))
      | exact pm_Check.mono _ _ _
      | exact LeO.none _
      | refine LeO.ite ?_ ?_
      | refine LeO.bind ?_ (fun _ => ?_)
def fi_check.l0 : Nat → List (List Int) → Int → Int → Int → List Int → Option (Int)
  | 0, _, _, _, _, _ => none
  | k + 1, x14, x15, x16, x102000, x102001 => if x16 < x15 then (if 0 ≤ x16 then (if x16 < (x14.length : Int) then ((fi_element.f k x102000 x102001 (rd_L1 x14 x16)).bind fun t104 => (if t104 = 0 then (fi_check.l0 k x14 x15 (wrap64 (x16 + 1)) x102000 x102001) else (some t104))) else (none)) else (none)) else (some 0)
def fi_check.f (k : Nat) (a0_0 : Int) (l0_1 : List Int) (l1 : List (List Int)) : Option (Int) := (fi_Check.f k a0_0 l0_1).bind fun t102 => (if t102 = 0 then (fi_check.l0 k l1 (l1.length : Int) 0 a0_0 l0_1) else (some t102))
theorem fi_check.mono_l : ∀ k, (∀ y0 y1 y2 y3 y4, LeO (fi_check.l0 k y0 y1 y2 y3 y4) (fi_check.l0 (k + 1) y0 y1 y2 y3 y4))
  | 0 => fun _ _ _ _ _ r h => by simp [fi_check.l0] at h
  | k + 1 => by
    have ih0 := fi_check.mono_l k
    · intro y0 y1 y2 y3 y4
      unfold fi_check.l0
      repeat' first
      | (with_reducible exact ih0 _ _ _ _ _)
      | (with_reducible exact fi_Check.mono _ _ _)
      | (with_reducible exact fi_element.mono _ _ _ _)
      | (with_reducible exact LeO.refl _)
      | (with_reducible exact LeO.none _)
      | (with_reducible refine LeO.ite ?_ ?_)
      | (with_reducible refine LeO.bind ?_ (fun _ => ?_))
      | exact ih0 _ _ _ _ _
      | exact fi_Check.mono _ _ _
      | exact fi_element.mono _ _ _ _
      | exact LeO.none _
      | refine LeO.ite ?_ ?_
      | refine LeO.bind ?_ (fun _ => ?_)
theorem fi_check.mono : ∀ a0 a1 a2 k, LeO (fi_check.f k a0 a1 a2) (fi_check.f (k + 1) a0 a1 a2) := by
  intro a0 a1 a2 k
  have ih0 := fi_check.mono_l k
  unfold fi_check.f
  repeat' first
      | (with_reducible exact ih0 _ _ _ _ _)
      | (with_reducible exact fi_Check.mono _ _ _)
      | (with_reducible exact fi_element.mono _ _ _ _)
      | (with_reducible exact LeO.refl _)
      | (with_reducible exact LeO.none _)
      | (with_reducible refine LeO.ite ?_ ?_)
      | (with_reducible refine LeO.bind ?_ (fun _ => ?_))
      | exact ih0 _ _ _ _ _
      | exact fi_Check.mono _ _ _
      | exact fi_element.mono _ _ _ _
      | exact LeO.none _
      | refine LeO.ite ?_ ?_
      | refine LeO.bind ?_ (fun _ => ?_)
def gFMul.f (k : Nat) (a0_0 : Int) (l0_1 : List Int) (l1 : List Int) (l2 : List Int) : Option (List Int) := (fp_MulMod.f k a0_0 l1 l2 l0_1).bind fun t102 => (some t102)
theorem gFMul.mono : ∀ a0 a1 a2 a3 k, LeO (gFMul.f k a0 a1 a2 a3) (gFMul.f (k + 1) a0 a1 a2 a3) := by
  intro a0 a1 a2 a3 k
  unfold gFMul.f
  repeat' first
      | (with_reducible exact fp_MulMod.mono _ _ _ _ _)
      | (with_reducible exact LeO.refl _)
      | (with_reducible exact LeO.none _)
      | (with_reducible refine LeO.ite ?_ ?_)
      | (with_reducible refine LeO.bind ?_ (fun _ => ?_))
      | exact fp_MulMod.mono _ _ _ _ _
      | exact LeO.none _
      | refine LeO.ite ?_ ?_
      | refine LeO.bind ?_ (fun _ => ?_)
def gFOne.f (a0_0 : Int) (l0_1 : List Int) : Option (List Int) := some (([1] : List Int))
def gFPow.l0 : Nat → List Int → Int → List Int → Int → List Int → Option (List Int)
  | 0, _, _, _, _, _ => none
  | k + 1, x1, x2, x7, x102000, x102001 => if x2 > 0 then (if (Go.bits .and .i64 x2 1) = 1 then ((gFMul.f k x102000 x102001 x7 x1).bind fun t105 => ((gFMul.f k x102000 x102001 x1 x1).bind fun t108 => (gFPow.l0 k t108 (x2 / 2) t105 x102000 x102001))) else ((gFMul.f k x102000 x102001 x1 x1).bind fun t111 => (gFPow.l0 k t111 (x2 / 2) x7 x102000 x102001))) else (some x7)
def gFPow.f (k : Nat) (a0_0 : Int) (l0_1 : List Int) (l1 : List Int) (a2 : Int) : Option (List Int) := (gFOne.f a0_0 l0_1).bind fun t102 => (gFPow.l0 k l1 a2 t102 a0_0 l0_1)
theorem gFPow.mono_l : ∀ k, (∀ y0 y1 y2 y3 y4, LeO (gFPow.l0 k y0 y1 y2 y3 y4) (gFPow.l0 (k + 1) y0 y1 y2 y3 y4))
  | 0 => fun _ _ _ _ _ r h => by simp [gFPow.l0] at h
  | k + 1 => by
    have ih0 := gFPow.mono_l k
    · intro y0 y1 y2 y3 y4
      unfold gFPow.l0
      repeat' first
      | (with_reducible exact ih0 _ _ _ _ _)
      | (with_reducible exact gFMul.mono _ _ _ _ _)
      | (with_reducible exact LeO.refl _)
      | (with_reducible exact LeO.none _)
      | (with_reducible refine LeO.ite ?_ ?_)
      | (with_reducible refine LeO.bind ?_ (fun _ => ?_))
      | exact ih0 _ _ _ _ _
      | exact gFMul.mono _ _ _ _ _
      | exact LeO.none _
      | refine LeO.ite ?_ ?_
      | refine LeO.bind ?_ (fun _ => ?_)
theorem gFPow.mono : ∀ a0 a1 a2 a3 k, LeO (gFPow.f k a0 a1 a2 a3) (gFPow.f (k + 1) a0 a1 a2 a3) := by
  intro a0 a1 a2 a3 k
  have ih0 := gFPow.mono_l k
  unfold gFPow.f
  repeat' first
      | (with_reducible exact ih0 _ _ _ _ _)
      | (with_reducible exact gFMul.mono _ _ _ _ _)
      | (with_reducible exact LeO.refl _)
      | (with_reducible exact LeO.none _)
      | (with_reducible refine LeO.ite ?_ ?_)
      | (with_reducible refine LeO.bind ?_ (fun _ => ?_))
      | exact ih0 _ _ _ _ _
      | exact gFMul.mono _ _ _ _ _
      | exact LeO.none _
      | refine LeO.ite ?_ ?_
      | refine LeO.bind ?_ (fun _ => ?_)
def gf_IsOne.f (l0 : List Int) : Option (Bool) := if (l0.length : Int) = 1 then (if 0 < (l0.length : Int) then (some ((rd l0 0) == 1)) else (none)) else (some false)
mutual
def fi_rootTail.l0 : Nat → Int → List Int → List Int → List Int → Int → List Int → Option (List Int)
  | 0, _, _, _, _, _, _ => none
  | k + 1, x8, x10, x11, x12, x103000, x103001 => (gf_IsOne.f x11).bind fun t112 => (if t112 = true then (some x10) else (fi_rootTail.l1 k x8 x10 x11 x12 0 x11 x103000 x103001))
def fi_rootTail.l1 : Nat → Int → List Int → List Int → List Int → Int → List Int → Int → List Int → Option (List Int)
  | 0, _, _, _, _, _, _, _, _ => none
  | k + 1, x8, x10, x11, x12, x13, x14, x103000, x103001 => (gf_IsOne.f x14).bind fun t113 => (if t113 = true then (if 0 ≤ (wrap64 ((wrap64 (x8 - x13)) - 1)) then ((gFPow.f k x103000 x103001 x12 (shl .i64 1 (wrap64 ((wrap64 (x8 - x13)) - 1)))).bind fun t117 => ((gFMul.f k x103000 x103001 t117 t117).bind fun t120 => ((gFMul.f k x103000 x103001 x10 t117).bind fun t123 => ((gFMul.f k x103000 x103001 x11 t120).bind fun t126 => (fi_rootTail.l0 k x13 t123 t126 t120 x103000 x103001))))) else (none)) else ((gFMul.f k x103000 x103001 x14 x14).bind fun t114 => (fi_rootTail.l1 k x8 x10 x11 x12 (wrap64 (x13 + 1)) t114 x103000 x103001)))
end
def fi_rootTail.f (k : Nat) (a0_0 : Int) (l0_1 : List Int) (l1 : List Int) (a2 : Int) (a3 : Int) (a4 : Int) (l5 : List Int) : Option (List Int) := (gFPow.f k a0_0 l0_1 l1 (wrap64 (Int.tdiv (wrap64 (a3 + 1)) 2))).bind fun t103 => ((gFPow.f k a0_0 l0_1 l1 a3).bind fun t106 => ((gFPow.f k a0_0 l0_1 l5 a3).bind fun t109 => (fi_rootTail.l0 k a4 t103 t106 t109 a0_0 l0_1)))
theorem fi_rootTail.mono_l : ∀ k, (∀ y0 y1 y2 y3 y4 y5, LeO (fi_rootTail.l0 k y0 y1 y2 y3 y4 y5) (fi_rootTail.l0 (k + 1) y0 y1 y2 y3 y4 y5)) ∧ (∀ y0 y1 y2 y3 y4 y5 y6 y7, LeO (fi_rootTail.l1 k y0 y1 y2 y3 y4 y5 y6 y7) (fi_rootTail.l1 (k + 1) y0 y1 y2 y3 y4 y5 y6 y7))
  | 0 => ⟨fun _ _ _ _ _ _ r h => by simp [fi_rootTail.l0] at h, fun _ _ _ _ _ _ _ _ r h => by simp [fi_rootTail.l1] at h⟩
  | k + 1 => by
    obtain ⟨ih0, ih1⟩ := fi_rootTail.mono_l k
    refine ⟨?_, ?_⟩
    · intro y0 y1 y2 y3 y4 y5
      unfold fi_rootTail.l0
      repeat' first
      | (with_reducible exact ih0 _ _ _ _ _ _)
      | (with_reducible exact ih1 _ _ _ _ _ _ _ _)
      | (with_reducible exact gFMul.mono _ _ _ _ _)
      | (with_reducible exact gFPow.mono _ _ _ _ _)
      | (with_reducible exact LeO.refl _)
      | (with_reducible exact LeO.none _)
      | (with_reducible refine LeO.ite ?_ ?_)
      | (with_reducible refine LeO.bind ?_ (fun _ => ?_))
      | exact ih0 _ _ _ _ _ _
      | exact ih1 _ _ _ _ _ _ _ _
      | exact gFMul.mono _ _ _ _ _
      | exact gFPow.mono _ _ _ _ _
      | exact LeO.none _
      | refine LeO.ite ?_ ?_
      | refine LeO.bind ?_ (fun _ => ?_)
    · intro y0 y1 y2 y3 y4 y5 y6 y7
      unfold fi_rootTail.l1
      repeat' first
      | (with_reducible exact ih0 _ _ _ _ _ _)
      | (with_reducible exact ih1 _ _ _ _ _ _ _ _)
      | (with_reducible exact gFMul.mono _ _ _ _ _)
      | (with_reducible exact gFPow.mono _ _ _ _ _)
      | (with_reducible exact LeO.refl _)
      | (with_reducible exact LeO.none _)
      | (with_reducible refine LeO.ite ?_ ?_)
      | (with_reducible refine LeO.bind ?_ (fun _ => ?_))
      | exact ih0 _ _ _ _ _ _
      | exact ih1 _ _ _ _ _ _ _ _
      | exact gFMul.mono _ _ _ _ _
      | exact gFPow.mono _ _ _ _ _
      | exact LeO.none _
      | refine LeO.ite ?_ ?_
      | refine LeO.bind ?_ (fun _ => ?_)
theorem fi_rootTail.mono : ∀ a0 a1 a2 a3 a4 a5 a6 k, LeO (fi_rootTail.f k a0 a1 a2 a3 a4 a5 a6) (fi_rootTail.f (k + 1) a0 a1 a2 a3 a4 a5 a6) := by
  intro a0 a1 a2 a3 a4 a5 a6 k
  obtain ⟨ih0, ih1⟩ := fi_rootTail.mono_l k
  unfold fi_rootTail.f
  repeat' first
      | (with_reducible exact ih0 _ _ _ _ _ _)
      | (with_reducible exact ih1 _ _ _ _ _ _ _ _)
      | (with_reducible exact gFMul.mono _ _ _ _ _)
      | (with_reducible exact gFPow.mono _ _ _ _ _)
      | (with_reducible exact LeO.refl _)
      | (with_reducible exact LeO.none _)
      | (with_reducible refine LeO.ite ?_ ?_)
      | (with_reducible refine LeO.bind ?_ (fun _ => ?_))
      | exact ih0 _ _ _ _ _ _
      | exact ih1 _ _ _ _ _ _ _ _
      | exact gFMul.mono _ _ _ _ _
      | exact gFPow.mono _ _ _ _ _
      | exact LeO.none _
      | refine LeO.ite ?_ ?_
      | refine LeO.bind ?_ (fun _ => ?_)
def gFElement.l0 : Nat → Int → List Int → Int → List Int → Option (List Int)
  | 0, _, _, _, _ => none
  | k + 1, x1, x5, x102000, x102001 => if x1 > 0 then (if x102000 = 0 then (none) else (if x5.length < 17592186044416 then (gFElement.l0 k (wrap64 (Int.tdiv x1 x102000)) (x5 ++ [Int.tmod x1 x102000]) x102000 x102001) else (none))) else (some x5)
def gFElement.f (k : Nat) (a0_0 : Int) (l0_1 : List Int) (a1 : Int) : Option (List Int) := gFElement.l0 k a1 ([] : List Int) a0_0 l0_1
theorem gFElement.mono_l : ∀ k, (∀ y0 y1 y2 y3, LeO (gFElement.l0 k y0 y1 y2 y3) (gFElement.l0 (k + 1) y0 y1 y2 y3))
  | 0 => fun _ _ _ _ r h => by simp [gFElement.l0] at h
  | k + 1 => by
    have ih0 := gFElement.mono_l k
    · intro y0 y1 y2 y3
      unfold gFElement.l0
      repeat' first
      | (with_reducible exact ih0 _ _ _ _)
      | (with_reducible exact LeO.refl _)
      | (with_reducible exact LeO.none _)
      | (with_reducible refine LeO.ite ?_ ?_)
      | (with_reducible refine LeO.bind ?_ (fun _ => ?_))
      | exact ih0 _ _ _ _
      | exact LeO.none _
      | refine LeO.ite ?_ ?_
      | refine LeO.bind ?_ (fun _ => ?_)
theorem gFElement.mono : ∀ a0 a1 a2 k, LeO (gFElement.f k a0 a1 a2) (gFElement.f (k + 1) a0 a1 a2) := by
  intro a0 a1 a2 k
  have ih0 := gFElement.mono_l k
  unfold gFElement.f
  repeat' first
      | (with_reducible exact ih0 _ _ _ _)
      | (with_reducible exact LeO.refl _)
      | (with_reducible exact LeO.none _)
      | (with_reducible refine LeO.ite ?_ ?_)
      | (with_reducible refine LeO.bind ?_ (fun _ => ?_))
      | exact ih0 _ _ _ _
      | exact LeO.none _
      | refine LeO.ite ?_ ?_
      | refine LeO.bind ?_ (fun _ => ?_)
def rs_Factor.f (k : Nat) (a0 : Int) : Option ((List (S107)) × Int) := (rs_bad.f (([a0] : List Int))).bind fun t104 => (if t104 = true then (some (([] : List (S107)), 3)) else ((rs_factor.f k a0).bind fun t105 => (some (t105, 0))))
theorem rs_Factor.mono : ∀ a0 k, LeO (rs_Factor.f k a0) (rs_Factor.f (k + 1) a0) := by
  intro a0 k
  unfold rs_Factor.f
  repeat' first
      | (with_reducible exact rs_factor.mono _ _)
      | (with_reducible exact LeO.refl _)
      | (with_reducible exact LeO.none _)
      | (with_reducible refine LeO.ite ?_ ?_)
      | (with_reducible refine LeO.bind ?_ (fun _ => ?_))
      | exact rs_factor.mono _ _
      | exact LeO.none _
      | refine LeO.ite ?_ ?_
      | refine LeO.bind ?_ (fun _ => ?_)
def gFGenerates.l0 : Nat → List Int → Int → List (S107) → Int → Int → Int → List Int → Option (Bool)
  | 0, _, _, _, _, _, _, _ => none
  | k + 1, x1, x2, x17, x18, x19, x102000, x102001 => if x19 < x18 then (if 0 ≤ x19 then (if x19 < (x17.length : Int) then (if ((rd_T107 x17 x19).f0) = 0 then (none) else ((gFPow.f k x102000 x102001 x1 (wrap64 (Int.tdiv (wrap64 (x2 - 1)) ((rd_T107 x17 x19).f0)))).bind fun t108 => ((gf_IsOne.f t108).bind fun t111 => (if t111 = true then (some false) else (gFGenerates.l0 k x1 x2 x17 x18 (wrap64 (x19 + 1)) x102000 x102001))))) else (none)) else (none)) else (some (decide ((x1.length : Int) > 0)))
def gFGenerates.f (k : Nat) (a0_0 : Int) (l0_1 : List Int) (l1 : List Int) (a2 : Int) : Option (Bool) := (rs_Factor.f k (wrap64 (a2 - 1))).bind fun bt102 => (gFGenerates.l0 k l1 a2 bt102.1 (bt102.1.length : Int) 0 a0_0 l0_1)
theorem gFGenerates.mono_l : ∀ k, (∀ y0 y1 y2 y3 y4 y5 y6, LeO (gFGenerates.l0 k y0 y1 y2 y3 y4 y5 y6) (gFGenerates.l0 (k + 1) y0 y1 y2 y3 y4 y5 y6))
  | 0 => fun _ _ _ _ _ _ _ r h => by simp [gFGenerates.l0] at h
  | k + 1 => by
    have ih0 := gFGenerates.mono_l k
    · intro y0 y1 y2 y3 y4 y5 y6
      unfold gFGenerates.l0
      repeat' first
      | (with_reducible exact ih0 _ _ _ _ _ _ _)
      | (with_reducible exact gFPow.mono _ _ _ _ _)
      | (with_reducible exact rs_Factor.mono _ _)
      | (with_reducible exact LeO.refl _)
      | (with_reducible exact LeO.none _)
      | (with_reducible refine LeO.ite ?_ ?_)
      | (with_reducible refine LeO.bind ?_ (fun _ => ?_))
      | exact ih0 _ _ _ _ _ _ _
      | exact gFPow.mono _ _ _ _ _
      | exact rs_Factor.mono _ _
      | exact LeO.none _
      | refine LeO.ite ?_ ?_
      | refine LeO.bind ?_ (fun _ => ?_)
theorem gFGenerates.mono : ∀ a0 a1 a2 a3 k, LeO (gFGenerates.f k a0 a1 a2 a3) (gFGenerates.f (k + 1) a0 a1 a2 a3) := by
  intro a0 a1 a2 a3 k
  have ih0 := gFGenerates.mono_l k
  unfold gFGenerates.f
  repeat' first
      | (with_reducible exact ih0 _ _ _ _ _ _ _)
      | (with_reducible exact gFPow.mono _ _ _ _ _)
      | (with_reducible exact rs_Factor.mono _ _)
      | (with_reducible exact LeO.refl _)
      | (with_reducible exact LeO.none _)
      | (with_reducible refine LeO.ite ?_ ?_)
      | (with_reducible refine LeO.bind ?_ (fun _ => ?_))
      | exact ih0 _ _ _ _ _ _ _
      | exact gFPow.mono _ _ _ _ _
      | exact rs_Factor.mono _ _
      | exact LeO.none _
      | refine LeO.ite ?_ ?_
      | refine LeO.bind ?_ (fun _ => ?_)
def fi_Generator.l0 (kk : Nat) : Nat → Int → List Int → Int → Nat → Option (List Int × Int)
  | 0, _, _, _, _ => none
  | k + 1, p, l, q, i => if (i : Int) < q then (gFElement.f kk p l (i : Int)).bind fun a => (gFGenerates.f kk p l a q).bind fun b => if b = true then some (a, 0) else fi_Generator.l0 kk k p l q (i + 1) else some ([], 10)
def fi_Generator.f (k : Nat) (a0_0 : Int) (l0_1 : List Int) : Option (List Int × Int) := (fi_Check.f k a0_0 l0_1).bind fun e => if e = 0 then (fi_size.f k a0_0 l0_1 2147483647).bind fun r => if r.2 = 0 then (if 0 ≤ r.1 ∧ r.1 ≤ 4294967296 then fi_Generator.l0 k k a0_0 l0_1 r.1 0 else none) else some ([], r.2) else some ([], e)
theorem fi_Generator.mono_l (kk : Nat) : ∀ k p l q i, LeO (fi_Generator.l0 kk k p l q i) (fi_Generator.l0 (kk + 1) (k + 1) p l q i)
  | 0 => fun _ _ _ _ r h => by simp [fi_Generator.l0] at h
  | k + 1 => by
    intro p l q i
    have ih0 := fi_Generator.mono_l kk k
    have ih1 := gFElement.mono
    have ih2 := gFGenerates.mono
    unfold fi_Generator.l0
    repeat' first
      | (with_reducible exact ih0 _ _ _ _)
      | (with_reducible exact ih1 _ _ _ _)
      | (with_reducible exact ih2 _ _ _ _ _)
      | (with_reducible exact LeO.refl _)
      | (with_reducible refine LeO.ite ?_ ?_)
      | (with_reducible refine LeO.bind ?_ (fun _ => ?_))
theorem fi_Generator.mono (a0_0 : Int) (l0_1 : List Int) (k : Nat) : LeO (fi_Generator.f k a0_0 l0_1) (fi_Generator.f (k + 1) a0_0 l0_1) := by
  have ih0 := fi_Generator.mono_l k k a0_0 l0_1
  have ih1 := fi_Check.mono
  have ih2 := fi_size.mono
  unfold fi_Generator.f
  repeat' first
    | (with_reducible exact ih0 _ _)
    | (with_reducible exact ih1 _ _ _)
    | (with_reducible exact ih2 _ _ _ _)
    | (with_reducible exact LeO.refl _)
    | (with_reducible refine LeO.ite ?_ ?_)
    | (with_reducible refine LeO.bind ?_ (fun _ => ?_))
def fi_root.odd : Nat → Int → Int → Option (Int × Int)
  | 0, _, _ => none
  | k + 1, o, s => if Int.tmod o 2 = 0 then fi_root.odd k (wrap64 (Int.tdiv o 2)) (wrap64 (s + 1)) else some (o, s)
def fi_root.l0 (kk : Nat) : Nat → Int → List Int → Int → Nat → List Int → Option (List Int)
  | 0, _, _, _, _, _ => none
  | k + 1, p, l, q, i, z => if (i : Int) < q then (gFElement.f kk p l (i : Int)).bind fun a => if (a.length : Int) > 0 then (gFPow.f kk p l a (wrap64 (Int.tdiv (wrap64 (q - 1)) 2))).bind fun t => (gf_IsOne.f t).bind fun b => if b = true then fi_root.l0 kk k p l q (i + 1) a else some a else fi_root.l0 kk k p l q (i + 1) a else some z
def fi_root.f (k : Nat) (a0_0 : Int) (l0_1 : List Int) (l1 : List Int) (a2 : Int) : Option (List Int) := if 0 ≤ a2 ∧ a2 ≤ 4294967296 then (fi_root.odd k (wrap64 (a2 - 1)) 0).bind fun o => (fi_root.l0 k k a0_0 l0_1 a2 0 []).bind fun z => fi_rootTail.f k a0_0 l0_1 l1 a2 o.1 o.2 z else none
theorem fi_root.mono_odd : ∀ k o s, LeO (fi_root.odd k o s) (fi_root.odd (k + 1) o s)
  | 0 => fun _ _ r h => by simp [fi_root.odd] at h
  | k + 1 => by
    intro o s
    have ih0 := fi_root.mono_odd k
    unfold fi_root.odd
    repeat' first
      | (with_reducible exact ih0 _ _)
      | (with_reducible exact LeO.refl _)
      | (with_reducible refine LeO.ite ?_ ?_)
theorem fi_root.mono_l (kk : Nat) : ∀ k p l q i z, LeO (fi_root.l0 kk k p l q i z) (fi_root.l0 (kk + 1) (k + 1) p l q i z)
  | 0 => fun _ _ _ _ _ r h => by simp [fi_root.l0] at h
  | k + 1 => by
    intro p l q i z
    have ih0 := fi_root.mono_l kk k
    have ih1 := gFElement.mono
    have ih2 := gFPow.mono
    unfold fi_root.l0
    repeat' first
      | (with_reducible exact ih0 _ _ _ _ _)
      | (with_reducible exact ih1 _ _ _ _)
      | (with_reducible exact ih2 _ _ _ _ _)
      | (with_reducible exact LeO.refl _)
      | (with_reducible refine LeO.ite ?_ ?_)
      | (with_reducible refine LeO.bind ?_ (fun _ => ?_))
theorem fi_root.mono (a0_0 : Int) (l0_1 : List Int) (l1 : List Int) (a2 : Int) (k : Nat) : LeO (fi_root.f k a0_0 l0_1 l1 a2) (fi_root.f (k + 1) a0_0 l0_1 l1 a2) := by
  have ih0 := fi_root.mono_l k k a0_0 l0_1
  have ih1 := fi_root.mono_odd
  have ih2 := fi_rootTail.mono
  unfold fi_root.f
  repeat' first
    | (with_reducible exact ih0 _ _ _)
    | (with_reducible exact ih1 _ _ _)
    | (with_reducible exact ih2 _ _ _ _ _ _ _ _)
    | (with_reducible exact LeO.refl _)
    | (with_reducible exact LeO.none _)
    | (with_reducible refine LeO.ite ?_ ?_)
    | (with_reducible refine LeO.bind ?_ (fun _ => ?_))
def cmp_isNaN_int.f (a0 : Int) : Option (Bool) := some (a0 != a0)
def cmp_Compare_int.f (a0 : Int) (a1 : Int) : Option (Int) := (cmp_isNaN_int.f a0).bind fun t101 => ((cmp_isNaN_int.f a1).bind fun t102 => (if t101 = true then (if t102 = true then (some 0) else (some (-1))) else (if t102 = true then (some 1) else (if a0 < a1 then (some (-1)) else (if a0 > a1 then (some 1) else (some 0))))))
def api_ModPoly_int_93.l0 : Nat → List Int → List Int → List Int → Int → Int → Option (Int)
  | 0, _, _, _, _, _ => none
  | k + 1, x0, x1, x9, x10, x11 => if x11 < x10 then (if 0 ≤ x11 then (if x11 < (x9.length : Int) then (if x11 ≥ (x1.length : Int) then (some 1) else (if x11 < (x1.length : Int) then ((cmp_Compare_int.f (rd x9 x11) (rd x1 x11)).bind fun t103 => (if t103 = 0 then (api_ModPoly_int_93.l0 k x0 x1 x9 x10 (wrap64 (x11 + 1))) else (some t103))) else (none))) else (none)) else (none)) else (if (x0.length : Int) < (x1.length : Int) then (some (-1)) else (some 0))
def api_ModPoly_int_93.f (k : Nat) (l0 : List Int) (l1 : List Int) : Option (Int) := api_ModPoly_int_93.l0 k l0 l1 l0 (l0.length : Int) 0
theorem api_ModPoly_int_93.mono_l : ∀ k, (∀ y0 y1 y2 y3 y4, LeO (api_ModPoly_int_93.l0 k y0 y1 y2 y3 y4) (api_ModPoly_int_93.l0 (k + 1) y0 y1 y2 y3 y4))
  | 0 => fun _ _ _ _ _ r h => by simp [api_ModPoly_int_93.l0] at h
  | k + 1 => by
    have ih0 := api_ModPoly_int_93.mono_l k
    · intro y0 y1 y2 y3 y4
      unfold api_ModPoly_int_93.l0
      repeat' first
      | (with_reducible exact ih0 _ _ _ _ _)
      | (with_reducible exact LeO.refl _)
      | (with_reducible exact LeO.none _)
      | (with_reducible refine LeO.ite ?_ ?_)
      | (with_reducible refine LeO.bind ?_ (fun _ => ?_))
      | exact ih0 _ _ _ _ _
      | exact LeO.none _
      | refine LeO.ite ?_ ?_
      | refine LeO.bind ?_ (fun _ => ?_)
theorem api_ModPoly_int_93.mono : ∀ a0 a1 k, LeO (api_ModPoly_int_93.f k a0 a1) (api_ModPoly_int_93.f (k + 1) a0 a1) := by
  intro a0 a1 k
  have ih0 := api_ModPoly_int_93.mono_l k
  unfold api_ModPoly_int_93.f
  repeat' first
      | (with_reducible exact ih0 _ _ _ _ _)
      | (with_reducible exact LeO.refl _)
      | (with_reducible exact LeO.none _)
      | (with_reducible refine LeO.ite ?_ ?_)
      | (with_reducible refine LeO.bind ?_ (fun _ => ?_))
      | exact ih0 _ _ _ _ _
      | exact LeO.none _
      | refine LeO.ite ?_ ?_
      | refine LeO.bind ?_ (fun _ => ?_)
def pm_Compare.f (k : Nat) (l0 : List Int) (l1 : List Int) : Option (Int) := if (l0.length : Int) = (l1.length : Int) then ((api_ModPoly_int_93.f k l0 l1).bind fun t101 => (some t101)) else (if (l0.length : Int) < (l1.length : Int) then (some (-1)) else (some 1))
theorem pm_Compare.mono : ∀ a0 a1 k, LeO (pm_Compare.f k a0 a1) (pm_Compare.f (k + 1) a0 a1) := by
  intro a0 a1 k
  unfold pm_Compare.f
  repeat' first
      | (with_reducible exact api_ModPoly_int_93.mono _ _ _)
      | (with_reducible exact LeO.refl _)
      | (with_reducible exact LeO.none _)
      | (with_reducible refine LeO.ite ?_ ?_)
      | (with_reducible refine LeO.bind ?_ (fun _ => ?_))
      | exact api_ModPoly_int_93.mono _ _ _
      | exact LeO.none _
      | refine LeO.ite ?_ ?_
      | refine LeO.bind ?_ (fun _ => ?_)
def fi_SquareRoot.f (k : Nat) (a0_0 : Int) (l0_1 : List Int) (l1 : List Int) : Option (List Int × Int) := (fi_check.f k a0_0 l0_1 (([l1] : List (List Int)))).bind fun t105 => (if t105 = 0 then ((fi_size.f k a0_0 l0_1 2147483647).bind fun bt106 => (if bt106.2 = 0 then (if a0_0 = 2 then ((gFPow.f k a0_0 l0_1 l1 (wrap64 (Int.tdiv bt106.1 2))).bind fun t109 => (some (t109, 0))) else (if (l1.length : Int) = 0 then (some (([] : List Int), 0)) else ((gFPow.f k a0_0 l0_1 l1 (wrap64 (Int.tdiv (wrap64 (bt106.1 - 1)) 2))).bind fun t112 => ((gf_IsOne.f t112).bind fun t115 => (if t115 = true then ((fi_root.f k a0_0 l0_1 l1 bt106.1).bind fun t116 => ((fp_Scale.f k a0_0 t116 (wrap64 (a0_0 - 1))).bind fun t119 => ((pm_Compare.f k t119 t116).bind fun t122 => (if t122 < 0 then (some (t119, 0)) else (some (t116, 0)))))) else (some (([] : List Int), 26))))))) else (some (([] : List Int), bt106.2)))) else (some (([] : List Int), t105)))
theorem fi_SquareRoot.mono : ∀ a0 a1 a2 k, LeO (fi_SquareRoot.f k a0 a1 a2) (fi_SquareRoot.f (k + 1) a0 a1 a2) := by
  intro a0 a1 a2 k
  unfold fi_SquareRoot.f
  repeat' first
      | (with_reducible exact fi_check.mono _ _ _ _)
      | (with_reducible exact fi_root.mono _ _ _ _ _)
      | (with_reducible exact fi_size.mono _ _ _ _)
      | (with_reducible exact fp_Scale.mono _ _ _ _)
      | (with_reducible exact gFPow.mono _ _ _ _ _)
      | (with_reducible exact pm_Compare.mono _ _ _)
      | (with_reducible exact LeO.refl _)
      | (with_reducible exact LeO.none _)
      | (with_reducible refine LeO.ite ?_ ?_)
      | (with_reducible refine LeO.bind ?_ (fun _ => ?_))
      | exact fi_check.mono _ _ _ _
      | exact fi_root.mono _ _ _ _ _
      | exact fi_size.mono _ _ _ _
      | exact fp_Scale.mono _ _ _ _
      | exact gFPow.mono _ _ _ _ _
      | exact pm_Compare.mono _ _ _
      | exact LeO.none _
      | refine LeO.ite ?_ ?_
      | refine LeO.bind ?_ (fun _ => ?_)
def fi_Mul.f (k : Nat) (a0_0 : Int) (l0_1 : List Int) (l1 : List Int) (l2 : List Int) : Option (List Int × Int) := (fi_check.f k a0_0 l0_1 (([l1, l2] : List (List Int)))).bind fun t105 => (if t105 = 0 then ((gFMul.f k a0_0 l0_1 l1 l2).bind fun t106 => (some (t106, 0))) else (some (([] : List Int), t105)))
theorem fi_Mul.mono : ∀ a0 a1 a2 a3 k, LeO (fi_Mul.f k a0 a1 a2 a3) (fi_Mul.f (k + 1) a0 a1 a2 a3) := by
  intro a0 a1 a2 a3 k
  unfold fi_Mul.f
  repeat' first
      | (with_reducible exact fi_check.mono _ _ _ _)
      | (with_reducible exact gFMul.mono _ _ _ _ _)
      | (with_reducible exact LeO.refl _)
      | (with_reducible exact LeO.none _)
      | (with_reducible refine LeO.ite ?_ ?_)
      | (with_reducible refine LeO.bind ?_ (fun _ => ?_))
      | exact fi_check.mono _ _ _ _
      | exact gFMul.mono _ _ _ _ _
      | exact LeO.none _
      | refine LeO.ite ?_ ?_
      | refine LeO.bind ?_ (fun _ => ?_)
def r9Same.l0 : Nat → List Int → List Int → Int → Option (Bool)
  | 0, _, _, _ => none
  | k + 1, x0, x1, x5 => if x5 < (x0.length : Int) then (if 0 ≤ x5 then (if x5 < (x1.length : Int) then (if (rd x0 x5) = (rd x1 x5) then (r9Same.l0 k x0 x1 (wrap64 (x5 + 1))) else (some false)) else (none)) else (none)) else (some true)
def r9Same.f (k : Nat) (l0 : List Int) (l1 : List Int) : Option (Bool) := if (l0.length : Int) = (l1.length : Int) then (r9Same.l0 k l0 l1 0) else (some false)
theorem r9Same.mono_l : ∀ k, (∀ y0 y1 y2, LeO (r9Same.l0 k y0 y1 y2) (r9Same.l0 (k + 1) y0 y1 y2))
  | 0 => fun _ _ _ r h => by simp [r9Same.l0] at h
  | k + 1 => by
    have ih0 := r9Same.mono_l k
    · intro y0 y1 y2
      unfold r9Same.l0
      repeat' first
      | (with_reducible exact ih0 _ _ _)
      | (with_reducible exact LeO.refl _)
      | (with_reducible exact LeO.none _)
      | (with_reducible refine LeO.ite ?_ ?_)
      | (with_reducible refine LeO.bind ?_ (fun _ => ?_))
      | exact ih0 _ _ _
      | exact LeO.none _
      | refine LeO.ite ?_ ?_
      | refine LeO.bind ?_ (fun _ => ?_)
theorem r9Same.mono : ∀ a0 a1 k, LeO (r9Same.f k a0 a1) (r9Same.f (k + 1) a0 a1) := by
  intro a0 a1 k
  have ih0 := r9Same.mono_l k
  unfold r9Same.f
  repeat' first
      | (with_reducible exact ih0 _ _ _)
      | (with_reducible exact LeO.refl _)
      | (with_reducible exact LeO.none _)
      | (with_reducible refine LeO.ite ?_ ?_)
      | (with_reducible refine LeO.bind ?_ (fun _ => ?_))
      | exact ih0 _ _ _
      | exact LeO.none _
      | refine LeO.ite ?_ ?_
      | refine LeO.bind ?_ (fun _ => ?_)
def fp_Xgcd.l0 : Nat → Int → List Int → List Int → List Int → List Int → List Int → List Int → Option (List Int × List Int × List Int)
  | 0, _, _, _, _, _, _, _ => none
  | k + 1, x0, x1, x2, x9, x10, x11, x12 => if (x10.length : Int) > 0 then ((fp_DivMod.f k x0 x9 x10).bind fun bt112 => ((fp_Mul.f k x0 bt112.1 x12).bind fun t118 => ((fp_Sub.f k x0 x11 t118).bind fun t121 => (fp_Xgcd.l0 k x0 x1 x2 x10 bt112.2 x12 t121)))) else (if 0 ≤ (wrap64 ((x9.length : Int) - 1)) then (if (wrap64 ((x9.length : Int) - 1)) < (x9.length : Int) then ((fp_Inv.f k x0 (rd x9 (wrap64 ((x9.length : Int) - 1)))).bind fun t125 => ((fp_Scale.f k x0 x9 t125).bind fun t126 => ((fp_DivMod.f k x0 x2 t126).bind fun bt129 => ((fp_Scale.f k x0 x11 t125).bind fun t135 => ((fp_Rem.f k x0 t135 bt129.1).bind fun t138 => ((fp_Mul.f k x0 t138 x1).bind fun t141 => ((fp_Sub.f k x0 t126 t141).bind fun t144 => ((fp_DivMod.f k x0 t144 x2).bind fun bt147 => (some (t126, t138, bt147.1)))))))))) else (none)) else (none))
def fp_Xgcd.f (k : Nat) (a0 : Int) (l1 : List Int) (l2 : List Int) : Option (List Int × List Int × List Int) := if (l2.length : Int) = 0 then (if (l1.length : Int) = 0 then (some (([] : List Int), ([] : List Int), ([] : List Int))) else ((fp_Monic.f k a0 l1).bind fun t101 => (if 0 ≤ (wrap64 ((l1.length : Int) - 1)) then (if (wrap64 ((l1.length : Int) - 1)) < (l1.length : Int) then ((fp_Inv.f k a0 (rd l1 (wrap64 ((l1.length : Int) - 1)))).bind fun t105 => (some (t101, (([t105] : List Int)), ([] : List Int)))) else (none)) else (none)))) else (fp_Xgcd.l0 k a0 l1 l2 l1 l2 (([1] : List Int)) ([] : List Int))
theorem fp_Xgcd.mono_l : ∀ k, (∀ y0 y1 y2 y3 y4 y5 y6, LeO (fp_Xgcd.l0 k y0 y1 y2 y3 y4 y5 y6) (fp_Xgcd.l0 (k + 1) y0 y1 y2 y3 y4 y5 y6))
  | 0 => fun _ _ _ _ _ _ _ r h => by simp [fp_Xgcd.l0] at h
  | k + 1 => by
    have ih0 := fp_Xgcd.mono_l k
    · intro y0 y1 y2 y3 y4 y5 y6
      unfold fp_Xgcd.l0
      repeat' first
      | (with_reducible exact ih0 _ _ _ _ _ _ _)
      | (with_reducible exact fp_DivMod.mono _ _ _ _)
      | (with_reducible exact fp_Inv.mono _ _ _)
      | (with_reducible exact fp_Monic.mono _ _ _)
      | (with_reducible exact fp_Mul.mono _ _ _ _)
      | (with_reducible exact fp_Rem.mono _ _ _ _)
      | (with_reducible exact fp_Scale.mono _ _ _ _)
      | (with_reducible exact fp_Sub.mono _ _ _ _)
      | (with_reducible exact LeO.refl _)
      | (with_reducible exact LeO.none _)
      | (with_reducible refine LeO.ite ?_ ?_)
      | (with_reducible refine LeO.bind ?_ (fun _ => ?_))
      | exact ih0 _ _ _ _ _ _ _
      | exact fp_DivMod.mono _ _ _ _
      | exact fp_Inv.mono _ _ _
      | exact fp_Monic.mono _ _ _
      | exact fp_Mul.mono _ _ _ _
      | exact fp_Rem.mono _ _ _ _
      | exact fp_Scale.mono _ _ _ _
      | exact fp_Sub.mono _ _ _ _
      | exact LeO.none _
      | refine LeO.ite ?_ ?_
      | refine LeO.bind ?_ (fun _ => ?_)
theorem fp_Xgcd.mono : ∀ a0 a1 a2 k, LeO (fp_Xgcd.f k a0 a1 a2) (fp_Xgcd.f (k + 1) a0 a1 a2) := by
  intro a0 a1 a2 k
  have ih0 := fp_Xgcd.mono_l k
  unfold fp_Xgcd.f
  repeat' first
      | (with_reducible exact ih0 _ _ _ _ _ _ _)
      | (with_reducible exact fp_DivMod.mono _ _ _ _)
      | (with_reducible exact fp_Inv.mono _ _ _)
      | (with_reducible exact fp_Monic.mono _ _ _)
      | (with_reducible exact fp_Mul.mono _ _ _ _)
      | (with_reducible exact fp_Rem.mono _ _ _ _)
      | (with_reducible exact fp_Scale.mono _ _ _ _)
      | (with_reducible exact fp_Sub.mono _ _ _ _)
      | (with_reducible exact LeO.refl _)
      | (with_reducible exact LeO.none _)
      | (with_reducible refine LeO.ite ?_ ?_)
      | (with_reducible refine LeO.bind ?_ (fun _ => ?_))
      | exact ih0 _ _ _ _ _ _ _
      | exact fp_DivMod.mono _ _ _ _
      | exact fp_Inv.mono _ _ _
      | exact fp_Monic.mono _ _ _
      | exact fp_Mul.mono _ _ _ _
      | exact fp_Rem.mono _ _ _ _
      | exact fp_Scale.mono _ _ _ _
      | exact fp_Sub.mono _ _ _ _
      | exact LeO.none _
      | refine LeO.ite ?_ ?_
      | refine LeO.bind ?_ (fun _ => ?_)
def gFInverse.f (k : Nat) (a0_0 : Int) (l0_1 : List Int) (l1 : List Int) : Option (List Int) := (fp_Xgcd.f k a0_0 l1 l0_1).bind fun bt102 => ((fp_Rem.f k a0_0 bt102.2.1 l0_1).bind fun t111 => (some t111))
theorem gFInverse.mono : ∀ a0 a1 a2 k, LeO (gFInverse.f k a0 a1 a2) (gFInverse.f (k + 1) a0 a1 a2) := by
  intro a0 a1 a2 k
  unfold gFInverse.f
  repeat' first
      | (with_reducible exact fp_Rem.mono _ _ _ _)
      | (with_reducible exact fp_Xgcd.mono _ _ _ _)
      | (with_reducible exact LeO.refl _)
      | (with_reducible exact LeO.none _)
      | (with_reducible refine LeO.ite ?_ ?_)
      | (with_reducible refine LeO.bind ?_ (fun _ => ?_))
      | exact fp_Rem.mono _ _ _ _
      | exact fp_Xgcd.mono _ _ _ _
      | exact LeO.none _
      | refine LeO.ite ?_ ?_
      | refine LeO.bind ?_ (fun _ => ?_)
def fi_Inverse.f (k : Nat) (a0_0 : Int) (l0_1 : List Int) (l1 : List Int) : Option (List Int × Int) := (fi_check.f k a0_0 l0_1 (([l1] : List (List Int)))).bind fun t105 => (if t105 = 0 then (if (l1.length : Int) = 0 then (some (([] : List Int), 6)) else ((gFInverse.f k a0_0 l0_1 l1).bind fun t106 => (some (t106, 0)))) else (some (([] : List Int), t105)))
theorem fi_Inverse.mono : ∀ a0 a1 a2 k, LeO (fi_Inverse.f k a0 a1 a2) (fi_Inverse.f (k + 1) a0 a1 a2) := by
  intro a0 a1 a2 k
  unfold fi_Inverse.f
  repeat' first
      | (with_reducible exact fi_check.mono _ _ _ _)
      | (with_reducible exact gFInverse.mono _ _ _ _)
      | (with_reducible exact LeO.refl _)
      | (with_reducible exact LeO.none _)
      | (with_reducible refine LeO.ite ?_ ?_)
      | (with_reducible refine LeO.bind ?_ (fun _ => ?_))
      | exact fi_check.mono _ _ _ _
      | exact gFInverse.mono _ _ _ _
      | exact LeO.none _
      | refine LeO.ite ?_ ?_
      | refine LeO.bind ?_ (fun _ => ?_)
mutual
def gFOrder.l0 : Nat → List Int → Int → List (S107) → Int → Int → Int → List Int → Option (Int)
  | 0, _, _, _, _, _, _, _ => none
  | k + 1, x1, x7, x19, x20, x21, x102000, x102001 => if x21 < x20 then (if 0 ≤ x21 then (if x21 < (x19.length : Int) then (gFOrder.l1 k x1 x7 x19 x20 x21 x102000 x102001 ((rd_T107 x19 x21).f0) ((rd_T107 x19 x21).f1)) else (none)) else (none)) else (some x7)
def gFOrder.l1 : Nat → List Int → Int → List (S107) → Int → Int → Int → List Int → Int → Int → Option (Int)
  | 0, _, _, _, _, _, _, _, _, _ => none
  | k + 1, x1, x7, x19, x20, x21, x102000, x102001, x108000, x108001 => if x108000 = 0 then (none) else (if (Int.tmod x7 x108000) = 0 then ((gFPow.f k x102000 x102001 x1 (wrap64 (Int.tdiv x7 x108000))).bind fun t108 => ((gf_IsOne.f t108).bind fun t111 => (if t111 = true then (gFOrder.l1 k x1 (wrap64 (Int.tdiv x7 x108000)) x19 x20 x21 x102000 x102001 x108000 x108001) else (gFOrder.l0 k x1 x7 x19 x20 (wrap64 (x21 + 1)) x102000 x102001)))) else (gFOrder.l0 k x1 x7 x19 x20 (wrap64 (x21 + 1)) x102000 x102001))
end
def gFOrder.f (k : Nat) (a0_0 : Int) (l0_1 : List Int) (l1 : List Int) (a2 : Int) : Option (Int) := (rs_Factor.f k (wrap64 (a2 - 1))).bind fun bt102 => (gFOrder.l0 k l1 (wrap64 (a2 - 1)) bt102.1 (bt102.1.length : Int) 0 a0_0 l0_1)
theorem gFOrder.mono_l : ∀ k, (∀ y0 y1 y2 y3 y4 y5 y6, LeO (gFOrder.l0 k y0 y1 y2 y3 y4 y5 y6) (gFOrder.l0 (k + 1) y0 y1 y2 y3 y4 y5 y6)) ∧ (∀ y0 y1 y2 y3 y4 y5 y6 y7 y8, LeO (gFOrder.l1 k y0 y1 y2 y3 y4 y5 y6 y7 y8) (gFOrder.l1 (k + 1) y0 y1 y2 y3 y4 y5 y6 y7 y8))
  | 0 => ⟨fun _ _ _ _ _ _ _ r h => by simp [gFOrder.l0] at h, fun _ _ _ _ _ _ _ _ _ r h => by simp [gFOrder.l1] at h⟩
  | k + 1 => by
    obtain ⟨ih0, ih1⟩ := gFOrder.mono_l k
    refine ⟨?_, ?_⟩
    · intro y0 y1 y2 y3 y4 y5 y6
      unfold gFOrder.l0
      repeat' first
      | (with_reducible exact ih0 _ _ _ _ _ _ _)
      | (with_reducible exact ih1 _ _ _ _ _ _ _ _ _)
      | (with_reducible exact gFPow.mono _ _ _ _ _)
      | (with_reducible exact rs_Factor.mono _ _)
      | (with_reducible exact LeO.refl _)
      | (with_reducible exact LeO.none _)
      | (with_reducible refine LeO.ite ?_ ?_)
      | (with_reducible refine LeO.bind ?_ (fun _ => ?_))
      | exact ih0 _ _ _ _ _ _ _
      | exact ih1 _ _ _ _ _ _ _ _ _
      | exact gFPow.mono _ _ _ _ _
      | exact rs_Factor.mono _ _
      | exact LeO.none _
      | refine LeO.ite ?_ ?_
      | refine LeO.bind ?_ (fun _ => ?_)
    · intro y0 y1 y2 y3 y4 y5 y6 y7 y8
      unfold gFOrder.l1
      repeat' first
      | (with_reducible exact ih0 _ _ _ _ _ _ _)
      | (with_reducible exact ih1 _ _ _ _ _ _ _ _ _)
      | (with_reducible exact gFPow.mono _ _ _ _ _)
      | (with_reducible exact rs_Factor.mono _ _)
      | (with_reducible exact LeO.refl _)
      | (with_reducible exact LeO.none _)
      | (with_reducible refine LeO.ite ?_ ?_)
      | (with_reducible refine LeO.bind ?_ (fun _ => ?_))
      | exact ih0 _ _ _ _ _ _ _
      | exact ih1 _ _ _ _ _ _ _ _ _
      | exact gFPow.mono _ _ _ _ _
      | exact rs_Factor.mono _ _
      | exact LeO.none _
      | refine LeO.ite ?_ ?_
      | refine LeO.bind ?_ (fun _ => ?_)
theorem gFOrder.mono : ∀ a0 a1 a2 a3 k, LeO (gFOrder.f k a0 a1 a2 a3) (gFOrder.f (k + 1) a0 a1 a2 a3) := by
  intro a0 a1 a2 a3 k
  obtain ⟨ih0, ih1⟩ := gFOrder.mono_l k
  unfold gFOrder.f
  repeat' first
      | (with_reducible exact ih0 _ _ _ _ _ _ _)
      | (with_reducible exact ih1 _ _ _ _ _ _ _ _ _)
      | (with_reducible exact gFPow.mono _ _ _ _ _)
      | (with_reducible exact rs_Factor.mono _ _)
      | (with_reducible exact LeO.refl _)
      | (with_reducible exact LeO.none _)
      | (with_reducible refine LeO.ite ?_ ?_)
      | (with_reducible refine LeO.bind ?_ (fun _ => ?_))
      | exact ih0 _ _ _ _ _ _ _
      | exact ih1 _ _ _ _ _ _ _ _ _
      | exact gFPow.mono _ _ _ _ _
      | exact rs_Factor.mono _ _
      | exact LeO.none _
      | refine LeO.ite ?_ ?_
      | refine LeO.bind ?_ (fun _ => ?_)
def fi_Order.f (k : Nat) (a0_0 : Int) (l0_1 : List Int) (l1 : List Int) : Option (Int × Int) := (fi_check.f k a0_0 l0_1 (([l1] : List (List Int)))).bind fun t105 => (if t105 = 0 then ((fi_size.f k a0_0 l0_1 2147483647).bind fun bt106 => (if bt106.2 = 0 then (if (l1.length : Int) = 0 then (some (0, 6)) else ((gFOrder.f k a0_0 l0_1 l1 bt106.1).bind fun t108 => (some (t108, 0)))) else (some (0, bt106.2)))) else (some (0, t105)))
theorem fi_Order.mono : ∀ a0 a1 a2 k, LeO (fi_Order.f k a0 a1 a2) (fi_Order.f (k + 1) a0 a1 a2) := by
  intro a0 a1 a2 k
  unfold fi_Order.f
  repeat' first
      | (with_reducible exact fi_check.mono _ _ _ _)
      | (with_reducible exact fi_size.mono _ _ _ _)
      | (with_reducible exact gFOrder.mono _ _ _ _ _)
      | (with_reducible exact LeO.refl _)
      | (with_reducible exact LeO.none _)
      | (with_reducible refine LeO.ite ?_ ?_)
      | (with_reducible refine LeO.bind ?_ (fun _ => ?_))
      | exact fi_check.mono _ _ _ _
      | exact fi_size.mono _ _ _ _
      | exact gFOrder.mono _ _ _ _ _
      | exact LeO.none _
      | refine LeO.ite ?_ ?_
      | refine LeO.bind ?_ (fun _ => ?_)
def l15four.f  : Option (Int × List Int) := some (2, (([1, 1, 1] : List Int)))
def l15nine.f  : Option (Int × List Int) := some (3, (([1, 0, 1] : List Int)))
def l15awake.j0 : Nat → List Int → List Int → List Int → List Int → List Int → Bool → Option (Bool)
  | 0, _, _, _, _, _, _ => none
  | k + 1, x1, x3, x7, x9, x11, x72 => if x72 = true then (none) else ((r9Same.f k x1 (([1, 1] : List Int))).bind fun t161 => (if t161 = true then ((r9Same.f k x3 (([1, 1] : List Int))).bind fun t165 => (if t165 = true then ((r9Same.f k x7 (([1, 0, 1, 1] : List Int))).bind fun t169 => (if t169 = true then ((r9Same.f k x9 (([1, 1] : List Int))).bind fun t173 => (if t173 = true then ((r9Same.f k x11 (([0, 1] : List Int))).bind fun t177 => (some t177)) else (none))) else (none))) else (none))) else (none)))
def l15awake.f (k : Nat)  : Option (Bool) := (l15four.f).bind fun bt101 => ((fi_Mul.f k bt101.1 bt101.2 (([0, 1] : List Int)) (([0, 1] : List Int))).bind fun bt111 => ((l15four.f).bind fun bt115 => ((fi_Inverse.f k bt115.1 bt115.2 (([0, 1] : List Int))).bind fun bt122 => ((l15four.f).bind fun bt126 => ((fi_Order.f k bt126.1 bt126.2 (([0, 1] : List Int))).bind fun bt133 => ((fi_Modulus.f k 2 3).bind fun bt135 => ((l15nine.f).bind fun bt139 => ((fi_Generator.f k bt139.1 bt139.2).bind fun bt143 => ((l15nine.f).bind fun bt147 => ((fi_SquareRoot.f k bt147.1 bt147.2 (([2] : List Int))).bind fun bt154 => (if bt111.2 = 0 then (if bt122.2 = 0 then (if bt133.2 = 0 then (if bt135.2 = 0 then (if bt143.2 = 0 then (if bt154.2 = 0 then (l15awake.j0 k bt111.1 bt122.1 bt135.1 bt143.1 bt154.1 (bt133.1 != 3)) else (l15awake.j0 k bt111.1 bt122.1 bt135.1 bt143.1 bt154.1 true)) else (l15awake.j0 k bt111.1 bt122.1 bt135.1 bt143.1 bt154.1 true)) else (l15awake.j0 k bt111.1 bt122.1 bt135.1 bt143.1 bt154.1 true)) else (l15awake.j0 k bt111.1 bt122.1 bt135.1 bt143.1 bt154.1 true)) else (l15awake.j0 k bt111.1 bt122.1 bt135.1 bt143.1 bt154.1 true)) else (l15awake.j0 k bt111.1 bt122.1 bt135.1 bt143.1 bt154.1 true))))))))))))
theorem l15awake.mono_l : ∀ k, (∀ y0 y1 y2 y3 y4 y5, LeO (l15awake.j0 k y0 y1 y2 y3 y4 y5) (l15awake.j0 (k + 1) y0 y1 y2 y3 y4 y5))
  | 0 => fun _ _ _ _ _ _ r h => by simp [l15awake.j0] at h
  | k + 1 => by
    have ih0 := l15awake.mono_l k
    · intro y0 y1 y2 y3 y4 y5
      unfold l15awake.j0
      repeat' first
      | (with_reducible exact ih0 _ _ _ _ _ _)
      | (with_reducible exact fi_Generator.mono _ _ _)
      | (with_reducible exact fi_Inverse.mono _ _ _ _)
      | (with_reducible exact fi_Modulus.mono _ _ _)
      | (with_reducible exact fi_Mul.mono _ _ _ _ _)
      | (with_reducible exact fi_Order.mono _ _ _ _)
      | (with_reducible exact fi_SquareRoot.mono _ _ _ _)
      | (with_reducible exact r9Same.mono _ _ _)
      | (with_reducible exact LeO.refl _)
      | (with_reducible exact LeO.none _)
      | (with_reducible refine LeO.ite ?_ ?_)
      | (with_reducible refine LeO.bind ?_ (fun _ => ?_))
      | exact ih0 _ _ _ _ _ _
      | exact fi_Generator.mono _ _ _
      | exact fi_Inverse.mono _ _ _ _
      | exact fi_Modulus.mono _ _ _
      | exact fi_Mul.mono _ _ _ _ _
      | exact fi_Order.mono _ _ _ _
      | exact fi_SquareRoot.mono _ _ _ _
      | exact r9Same.mono _ _ _
      | exact LeO.none _
      | refine LeO.ite ?_ ?_
      | refine LeO.bind ?_ (fun _ => ?_)
theorem l15awake.mono : ∀ k, LeO (l15awake.f k ) (l15awake.f (k + 1) ) := by
  intro  k
  have ih0 := l15awake.mono_l k
  unfold l15awake.f
  repeat' first
      | (with_reducible exact ih0 _ _ _ _ _ _)
      | (with_reducible exact fi_Generator.mono _ _ _)
      | (with_reducible exact fi_Inverse.mono _ _ _ _)
      | (with_reducible exact fi_Modulus.mono _ _ _)
      | (with_reducible exact fi_Mul.mono _ _ _ _ _)
      | (with_reducible exact fi_Order.mono _ _ _ _)
      | (with_reducible exact fi_SquareRoot.mono _ _ _ _)
      | (with_reducible exact r9Same.mono _ _ _)
      | (with_reducible exact LeO.refl _)
      | (with_reducible exact LeO.none _)
      | (with_reducible refine LeO.ite ?_ ?_)
      | (with_reducible refine LeO.bind ?_ (fun _ => ?_))
      | exact ih0 _ _ _ _ _ _
      | exact fi_Generator.mono _ _ _
      | exact fi_Inverse.mono _ _ _ _
      | exact fi_Modulus.mono _ _ _
      | exact fi_Mul.mono _ _ _ _ _
      | exact fi_Order.mono _ _ _ _
      | exact fi_SquareRoot.mono _ _ _ _
      | exact r9Same.mono _ _ _
      | exact LeO.none _
      | refine LeO.ite ?_ ?_
      | refine LeO.bind ?_ (fun _ => ?_)
def r4Mod.f (a0 : Int) (a1 : Int) : Option (Int) := if a1 = 0 then (none) else (some (Int.tmod (wrap64 ((Int.tmod a0 a1) + a1)) a1))
def r9Trim.l0 : Nat → List Int → Option (List Int)
  | 0, _ => none
  | k + 1, x0 => if (x0.length : Int) > 0 then (if 0 ≤ (wrap64 ((x0.length : Int) - 1)) then (if (wrap64 ((x0.length : Int) - 1)) < (x0.length : Int) then (if (rd x0 (wrap64 ((x0.length : Int) - 1))) = 0 then (if (wrap64 ((x0.length : Int) - 1)) ≤ (x0.length : Int) then (r9Trim.l0 k (x0.take ((wrap64 ((x0.length : Int) - 1)) : Int).toNat)) else (none)) else (some x0)) else (none)) else (none)) else (some x0)
def r9Trim.f (k : Nat) (l0 : List Int) : Option (List Int) := r9Trim.l0 k l0
theorem r9Trim.mono_l : ∀ k, (∀ y0, LeO (r9Trim.l0 k y0) (r9Trim.l0 (k + 1) y0))
  | 0 => fun _ r h => by simp [r9Trim.l0] at h
  | k + 1 => by
    have ih0 := r9Trim.mono_l k
    · intro y0
      unfold r9Trim.l0
      repeat' first
      | (with_reducible exact ih0 _)
      | (with_reducible exact LeO.refl _)
      | (with_reducible exact LeO.none _)
      | (with_reducible refine LeO.ite ?_ ?_)
      | (with_reducible refine LeO.bind ?_ (fun _ => ?_))
      | exact ih0 _
      | exact LeO.none _
      | refine LeO.ite ?_ ?_
      | refine LeO.bind ?_ (fun _ => ?_)
theorem r9Trim.mono : ∀ a0 k, LeO (r9Trim.f k a0) (r9Trim.f (k + 1) a0) := by
  intro a0 k
  have ih0 := r9Trim.mono_l k
  unfold r9Trim.f
  repeat' first
      | (with_reducible exact ih0 _)
      | (with_reducible exact LeO.refl _)
      | (with_reducible exact LeO.none _)
      | (with_reducible refine LeO.ite ?_ ?_)
      | (with_reducible refine LeO.bind ?_ (fun _ => ?_))
      | exact ih0 _
      | exact LeO.none _
      | refine LeO.ite ?_ ?_
      | refine LeO.bind ?_ (fun _ => ?_)
def r9Copy.f (l0 : List Int) : Option (List Int) := (some (([] : List Int) : List Int)).bind fun y101 => (if y101.length + l0.length < 17592186044416 then (some (y101 ++ l0)) else (none))
def fp_Add.l0 : Nat → Int → List Int → List Int → List Int → Int → Int → Option (List Int)
  | 0, _, _, _, _, _, _ => none
  | k + 1, x0, x1, x2, x7, x16, x17 => if x17 < x16 then ((fp_at.f x1 x17).bind fun t104 => ((fp_at.f x2 x17).bind fun t105 => (if x0 = 0 then (none) else (if 0 ≤ x17 then (if x17 < (x7.length : Int) then (fp_Add.l0 k x0 x1 x2 (x7.set (x17 : Int).toNat (Int.tmod (wrap64 (t104 + t105)) x0)) x16 (wrap64 (x17 + 1))) else (none)) else (none))))) else ((fp_Trim.f k x7).bind fun t107 => (some t107))
def fp_Add.f (k : Nat) (a0 : Int) (l1 : List Int) (l2 : List Int) : Option (List Int) := if 0 ≤ (mx (l1.length : Int) (l2.length : Int)) then (if (mx (l1.length : Int) (l2.length : Int) : Int).toNat ≤ 35184372088832 then ((some (List.replicate (mx (l1.length : Int) (l2.length : Int) : Int).toNat 0 : List Int)).bind fun y101 => (fp_Add.l0 k a0 l1 l2 y101 (y101.length : Int) 0)) else (none)) else (none)
theorem fp_Add.mono_l : ∀ k, (∀ y0 y1 y2 y3 y4 y5, LeO (fp_Add.l0 k y0 y1 y2 y3 y4 y5) (fp_Add.l0 (k + 1) y0 y1 y2 y3 y4 y5))
  | 0 => fun _ _ _ _ _ _ r h => by simp [fp_Add.l0] at h
  | k + 1 => by
    have ih0 := fp_Add.mono_l k
    · intro y0 y1 y2 y3 y4 y5
      unfold fp_Add.l0
      repeat' first
      | (with_reducible exact ih0 _ _ _ _ _ _)
      | (with_reducible exact fp_Trim.mono _ _)
      | (with_reducible exact LeO.refl _)
      | (with_reducible exact LeO.none _)
      | (with_reducible refine LeO.ite ?_ ?_)
      | (with_reducible refine LeO.bind ?_ (fun _ => ?_))
      | exact ih0 _ _ _ _ _ _
      | exact fp_Trim.mono _ _
      | exact LeO.none _
      | refine LeO.ite ?_ ?_
      | refine LeO.bind ?_ (fun _ => ?_)
theorem fp_Add.mono : ∀ a0 a1 a2 k, LeO (fp_Add.f k a0 a1 a2) (fp_Add.f (k + 1) a0 a1 a2) := by
  intro a0 a1 a2 k
  have ih0 := fp_Add.mono_l k
  unfold fp_Add.f
  repeat' first
      | (with_reducible exact ih0 _ _ _ _ _ _)
      | (with_reducible exact fp_Trim.mono _ _)
      | (with_reducible exact LeO.refl _)
      | (with_reducible exact LeO.none _)
      | (with_reducible refine LeO.ite ?_ ?_)
      | (with_reducible refine LeO.bind ?_ (fun _ => ?_))
      | exact ih0 _ _ _ _ _ _
      | exact fp_Trim.mono _ _
      | exact LeO.none _
      | refine LeO.ite ?_ ?_
      | refine LeO.bind ?_ (fun _ => ?_)
def r9Add.l0 : Nat → Int → List Int → List Int → List Int → Int → Option (List Int)
  | 0, _, _, _, _, _ => none
  | k + 1, x0, x1, x2, x7, x8 => if x8 < (x7.length : Int) then (if x8 < (x1.length : Int) then (if 0 ≤ x8 then ((some (x7.set (x8 : Int).toNat (wrap64 ((rd x7 x8) + (rd x1 x8))) : List Int)).bind fun y109 => (if x8 < (x2.length : Int) then ((some (y109.set (x8 : Int).toNat (wrap64 ((rd y109 x8) + (rd x2 x8))) : List Int)).bind fun y112 => (if x0 = 0 then (none) else (r9Add.l0 k x0 x1 x2 (y112.set (x8 : Int).toNat (Int.tmod (rd y112 x8) x0)) (wrap64 (x8 + 1))))) else (if x0 = 0 then (none) else (r9Add.l0 k x0 x1 x2 (y109.set (x8 : Int).toNat (Int.tmod (rd y109 x8) x0)) (wrap64 (x8 + 1)))))) else (none)) else (if x8 < (x2.length : Int) then (if 0 ≤ x8 then ((some (x7.set (x8 : Int).toNat (wrap64 ((rd x7 x8) + (rd x2 x8))) : List Int)).bind fun y119 => (if x0 = 0 then (none) else (r9Add.l0 k x0 x1 x2 (y119.set (x8 : Int).toNat (Int.tmod (rd y119 x8) x0)) (wrap64 (x8 + 1))))) else (none)) else (if 0 ≤ x8 then (if x0 = 0 then (none) else (r9Add.l0 k x0 x1 x2 (x7.set (x8 : Int).toNat (Int.tmod (rd x7 x8) x0)) (wrap64 (x8 + 1)))) else (none)))) else ((r9Trim.f k x7).bind fun t104 => (some t104))
def r9Add.f (k : Nat) (a0 : Int) (l1 : List Int) (l2 : List Int) : Option (List Int) := if 0 ≤ (mx (l1.length : Int) (l2.length : Int)) then (if (mx (l1.length : Int) (l2.length : Int) : Int).toNat ≤ 35184372088832 then (r9Add.l0 k a0 l1 l2 (List.replicate (mx (l1.length : Int) (l2.length : Int) : Int).toNat 0) 0) else (none)) else (none)
theorem r9Add.mono_l : ∀ k, (∀ y0 y1 y2 y3 y4, LeO (r9Add.l0 k y0 y1 y2 y3 y4) (r9Add.l0 (k + 1) y0 y1 y2 y3 y4))
  | 0 => fun _ _ _ _ _ r h => by simp [r9Add.l0] at h
  | k + 1 => by
    have ih0 := r9Add.mono_l k
    · intro y0 y1 y2 y3 y4
      unfold r9Add.l0
      repeat' first
      | (with_reducible exact ih0 _ _ _ _ _)
      | (with_reducible exact r9Trim.mono _ _)
      | (with_reducible exact LeO.refl _)
      | (with_reducible exact LeO.none _)
      | (with_reducible refine LeO.ite ?_ ?_)
      | (with_reducible refine LeO.bind ?_ (fun _ => ?_))
      | exact ih0 _ _ _ _ _
      | exact r9Trim.mono _ _
      | exact LeO.none _
      | refine LeO.ite ?_ ?_
      | refine LeO.bind ?_ (fun _ => ?_)
theorem r9Add.mono : ∀ a0 a1 a2 k, LeO (r9Add.f k a0 a1 a2) (r9Add.f (k + 1) a0 a1 a2) := by
  intro a0 a1 a2 k
  have ih0 := r9Add.mono_l k
  unfold r9Add.f
  repeat' first
      | (with_reducible exact ih0 _ _ _ _ _)
      | (with_reducible exact r9Trim.mono _ _)
      | (with_reducible exact LeO.refl _)
      | (with_reducible exact LeO.none _)
      | (with_reducible refine LeO.ite ?_ ?_)
      | (with_reducible refine LeO.bind ?_ (fun _ => ?_))
      | exact ih0 _ _ _ _ _
      | exact r9Trim.mono _ _
      | exact LeO.none _
      | refine LeO.ite ?_ ?_
      | refine LeO.bind ?_ (fun _ => ?_)
def r9Scale.l0 : Nat → Int → Int → List Int → Int → Option (List Int)
  | 0, _, _, _, _ => none
  | k + 1, x0, x2, x7, x8 => if x8 < (x7.length : Int) then (if 0 ≤ x8 then (if x0 = 0 then (none) else (r9Scale.l0 k x0 x2 (x7.set (x8 : Int).toNat (Int.tmod (wrap64 ((rd x7 x8) * x2)) x0)) (wrap64 (x8 + 1)))) else (none)) else ((r9Trim.f k x7).bind fun t107 => (some t107))
def r9Scale.f (k : Nat) (a0 : Int) (l1 : List Int) (a2 : Int) : Option (List Int) := (r4Mod.f a2 a0).bind fun t101 => ((r9Copy.f l1).bind fun t102 => (r9Scale.l0 k a0 t101 t102 0))
theorem r9Scale.mono_l : ∀ k, (∀ y0 y1 y2 y3, LeO (r9Scale.l0 k y0 y1 y2 y3) (r9Scale.l0 (k + 1) y0 y1 y2 y3))
  | 0 => fun _ _ _ _ r h => by simp [r9Scale.l0] at h
  | k + 1 => by
    have ih0 := r9Scale.mono_l k
    · intro y0 y1 y2 y3
      unfold r9Scale.l0
      repeat' first
      | (with_reducible exact ih0 _ _ _ _)
      | (with_reducible exact r9Trim.mono _ _)
      | (with_reducible exact LeO.refl _)
      | (with_reducible exact LeO.none _)
      | (with_reducible refine LeO.ite ?_ ?_)
      | (with_reducible refine LeO.bind ?_ (fun _ => ?_))
      | exact ih0 _ _ _ _
      | exact r9Trim.mono _ _
      | exact LeO.none _
      | refine LeO.ite ?_ ?_
      | refine LeO.bind ?_ (fun _ => ?_)
theorem r9Scale.mono : ∀ a0 a1 a2 k, LeO (r9Scale.f k a0 a1 a2) (r9Scale.f (k + 1) a0 a1 a2) := by
  intro a0 a1 a2 k
  have ih0 := r9Scale.mono_l k
  unfold r9Scale.f
  repeat' first
      | (with_reducible exact ih0 _ _ _ _)
      | (with_reducible exact r9Trim.mono _ _)
      | (with_reducible exact LeO.refl _)
      | (with_reducible exact LeO.none _)
      | (with_reducible refine LeO.ite ?_ ?_)
      | (with_reducible refine LeO.bind ?_ (fun _ => ?_))
      | exact ih0 _ _ _ _
      | exact r9Trim.mono _ _
      | exact LeO.none _
      | refine LeO.ite ?_ ?_
      | refine LeO.bind ?_ (fun _ => ?_)
def r9Sub.f (k : Nat) (a0 : Int) (l1 : List Int) (l2 : List Int) : Option (List Int) := (r9Scale.f k a0 l2 (-1)).bind fun t101 => ((r9Add.f k a0 l1 t101).bind fun t104 => (some t104))
theorem r9Sub.mono : ∀ a0 a1 a2 k, LeO (r9Sub.f k a0 a1 a2) (r9Sub.f (k + 1) a0 a1 a2) := by
  intro a0 a1 a2 k
  unfold r9Sub.f
  repeat' first
      | (with_reducible exact r9Add.mono _ _ _ _)
      | (with_reducible exact r9Scale.mono _ _ _ _)
      | (with_reducible exact LeO.refl _)
      | (with_reducible exact LeO.none _)
      | (with_reducible refine LeO.ite ?_ ?_)
      | (with_reducible refine LeO.bind ?_ (fun _ => ?_))
      | exact r9Add.mono _ _ _ _
      | exact r9Scale.mono _ _ _ _
      | exact LeO.none _
      | refine LeO.ite ?_ ?_
      | refine LeO.bind ?_ (fun _ => ?_)
def r4Inverse.l0 : Nat → Int → Int → Int → Int → Int → Option (Int)
  | 0, _, _, _, _, _ => none
  | k + 1, x1, x5, x6, x7, x8 => if x6 > 0 then (if x6 = 0 then (none) else (r4Inverse.l0 k x1 x6 (wrap64 (x5 - (wrap64 ((wrap64 (Int.tdiv x5 x6)) * x6)))) x8 (wrap64 (x7 - (wrap64 ((wrap64 (Int.tdiv x5 x6)) * x8)))))) else ((r4Mod.f x7 x1).bind fun t102 => (some t102))
def r4Inverse.f (k : Nat) (a0 : Int) (a1 : Int) : Option (Int) := (r4Mod.f a0 a1).bind fun t101 => (r4Inverse.l0 k a1 a1 t101 0 1)
theorem r4Inverse.mono_l : ∀ k, (∀ y0 y1 y2 y3 y4, LeO (r4Inverse.l0 k y0 y1 y2 y3 y4) (r4Inverse.l0 (k + 1) y0 y1 y2 y3 y4))
  | 0 => fun _ _ _ _ _ r h => by simp [r4Inverse.l0] at h
  | k + 1 => by
    have ih0 := r4Inverse.mono_l k
    · intro y0 y1 y2 y3 y4
      unfold r4Inverse.l0
      repeat' first
      | (with_reducible exact ih0 _ _ _ _ _)
      | (with_reducible exact LeO.refl _)
      | (with_reducible exact LeO.none _)
      | (with_reducible refine LeO.ite ?_ ?_)
      | (with_reducible refine LeO.bind ?_ (fun _ => ?_))
      | exact ih0 _ _ _ _ _
      | exact LeO.none _
      | refine LeO.ite ?_ ?_
      | refine LeO.bind ?_ (fun _ => ?_)
theorem r4Inverse.mono : ∀ a0 a1 k, LeO (r4Inverse.f k a0 a1) (r4Inverse.f (k + 1) a0 a1) := by
  intro a0 a1 k
  have ih0 := r4Inverse.mono_l k
  unfold r4Inverse.f
  repeat' first
      | (with_reducible exact ih0 _ _ _ _ _)
      | (with_reducible exact LeO.refl _)
      | (with_reducible exact LeO.none _)
      | (with_reducible refine LeO.ite ?_ ?_)
      | (with_reducible refine LeO.bind ?_ (fun _ => ?_))
      | exact ih0 _ _ _ _ _
      | exact LeO.none _
      | refine LeO.ite ?_ ?_
      | refine LeO.bind ?_ (fun _ => ?_)
mutual
def r9DivMod.l0 : Nat → Int → List Int → List Int → Int → List Int → Int → Int → Option (List Int × List Int)
  | 0, _, _, _, _, _, _, _ => none
  | k + 1, x0, x2, x8, x9, x10, x11, x12 => if x12 ≥ 0 then (if 0 ≤ (wrap64 (x12 + x9)) then (if (wrap64 (x12 + x9)) < (x8.length : Int) then (if x0 = 0 then (none) else (if 0 ≤ x12 then (if x12 < (x10.length : Int) then (r9DivMod.l1 k x0 x2 x8 x9 (x10.set (x12 : Int).toNat (Int.tmod (wrap64 ((rd x8 (wrap64 (x12 + x9))) * x11)) x0)) x11 x12 (Int.tmod (wrap64 ((rd x8 (wrap64 (x12 + x9))) * x11)) x0) 0) else (none)) else (none))) else (none)) else (none)) else ((r9Trim.f k x10).bind fun t109 => ((r9Trim.f k x8).bind fun t112 => (some (t109, t112))))
def r9DivMod.l1 : Nat → Int → List Int → List Int → Int → List Int → Int → Int → Int → Int → Option (List Int × List Int)
  | 0, _, _, _, _, _, _, _, _, _ => none
  | k + 1, x0, x2, x8, x9, x10, x11, x12, x13, x14 => if x14 ≤ x9 then (if 0 ≤ (wrap64 (x12 + x14)) then (if (wrap64 (x12 + x14)) < (x8.length : Int) then (if 0 ≤ x14 then (if x14 < (x2.length : Int) then (if x0 = 0 then (none) else (r9DivMod.l1 k x0 x2 (x8.set ((wrap64 (x12 + x14)) : Int).toNat (Int.tmod (wrap64 ((rd x8 (wrap64 (x12 + x14))) + (wrap64 ((wrap64 (x0 - x13)) * (rd x2 x14))))) x0)) x9 x10 x11 x12 x13 (wrap64 (x14 + 1)))) else (none)) else (none)) else (none)) else (none)) else (r9DivMod.l0 k x0 x2 x8 x9 x10 x11 (wrap64 (x12 - 1)))
end
def r9DivMod.f (k : Nat) (a0 : Int) (l1 : List Int) (l2 : List Int) : Option (List Int × List Int) := (r9Copy.f l1).bind fun t101 => (if 0 ≤ (mx 0 (wrap64 ((l1.length : Int) - (wrap64 ((l2.length : Int) - 1))))) then (if (mx 0 (wrap64 ((l1.length : Int) - (wrap64 ((l2.length : Int) - 1)))) : Int).toNat ≤ 35184372088832 then ((some (List.replicate (mx 0 (wrap64 ((l1.length : Int) - (wrap64 ((l2.length : Int) - 1)))) : Int).toNat 0 : List Int)).bind fun y104 => (if 0 ≤ (wrap64 ((l2.length : Int) - 1)) then (if (wrap64 ((l2.length : Int) - 1)) < (l2.length : Int) then ((r4Inverse.f k (rd l2 (wrap64 ((l2.length : Int) - 1))) a0).bind fun t108 => (r9DivMod.l0 k a0 l2 t101 (wrap64 ((l2.length : Int) - 1)) y104 t108 (wrap64 ((y104.length : Int) - 1)))) else (none)) else (none))) else (none)) else (none))
theorem r9DivMod.mono_l : ∀ k, (∀ y0 y1 y2 y3 y4 y5 y6, LeO (r9DivMod.l0 k y0 y1 y2 y3 y4 y5 y6) (r9DivMod.l0 (k + 1) y0 y1 y2 y3 y4 y5 y6)) ∧ (∀ y0 y1 y2 y3 y4 y5 y6 y7 y8, LeO (r9DivMod.l1 k y0 y1 y2 y3 y4 y5 y6 y7 y8) (r9DivMod.l1 (k + 1) y0 y1 y2 y3 y4 y5 y6 y7 y8))
  | 0 => ⟨fun _ _ _ _ _ _ _ r h => by simp [r9DivMod.l0] at h, fun _ _ _ _ _ _ _ _ _ r h => by simp [r9DivMod.l1] at h⟩
  | k + 1 => by
    obtain ⟨ih0, ih1⟩ := r9DivMod.mono_l k
    refine ⟨?_, ?_⟩
    · intro y0 y1 y2 y3 y4 y5 y6
      unfold r9DivMod.l0
      repeat' first
      | (with_reducible exact ih0 _ _ _ _ _ _ _)
      | (with_reducible exact ih1 _ _ _ _ _ _ _ _ _)
      | (with_reducible exact r4Inverse.mono _ _ _)
      | (with_reducible exact r9Trim.mono _ _)
      | (with_reducible exact LeO.refl _)
      | (with_reducible exact LeO.none _)
      | (with_reducible refine LeO.ite ?_ ?_)
      | (with_reducible refine LeO.bind ?_ (fun _ => ?_))
      | exact ih0 _ _ _ _ _ _ _
      | exact ih1 _ _ _ _ _ _ _ _ _
      | exact r4Inverse.mono _ _ _
      | exact r9Trim.mono _ _
      | exact LeO.none _
      | refine LeO.ite ?_ ?_
      | refine LeO.bind ?_ (fun _ => ?_)
    · intro y0 y1 y2 y3 y4 y5 y6 y7 y8
      unfold r9DivMod.l1
      repeat' first
      | (with_reducible exact ih0 _ _ _ _ _ _ _)
      | (with_reducible exact ih1 _ _ _ _ _ _ _ _ _)
      | (with_reducible exact r4Inverse.mono _ _ _)
      | (with_reducible exact r9Trim.mono _ _)
      | (with_reducible exact LeO.refl _)
      | (with_reducible exact LeO.none _)
      | (with_reducible refine LeO.ite ?_ ?_)
      | (with_reducible refine LeO.bind ?_ (fun _ => ?_))
      | exact ih0 _ _ _ _ _ _ _
      | exact ih1 _ _ _ _ _ _ _ _ _
      | exact r4Inverse.mono _ _ _
      | exact r9Trim.mono _ _
      | exact LeO.none _
      | refine LeO.ite ?_ ?_
      | refine LeO.bind ?_ (fun _ => ?_)
theorem r9DivMod.mono : ∀ a0 a1 a2 k, LeO (r9DivMod.f k a0 a1 a2) (r9DivMod.f (k + 1) a0 a1 a2) := by
  intro a0 a1 a2 k
  obtain ⟨ih0, ih1⟩ := r9DivMod.mono_l k
  unfold r9DivMod.f
  repeat' first
      | (with_reducible exact ih0 _ _ _ _ _ _ _)
      | (with_reducible exact ih1 _ _ _ _ _ _ _ _ _)
      | (with_reducible exact r4Inverse.mono _ _ _)
      | (with_reducible exact r9Trim.mono _ _)
      | (with_reducible exact LeO.refl _)
      | (with_reducible exact LeO.none _)
      | (with_reducible refine LeO.ite ?_ ?_)
      | (with_reducible refine LeO.bind ?_ (fun _ => ?_))
      | exact ih0 _ _ _ _ _ _ _
      | exact ih1 _ _ _ _ _ _ _ _ _
      | exact r4Inverse.mono _ _ _
      | exact r9Trim.mono _ _
      | exact LeO.none _
      | refine LeO.ite ?_ ?_
      | refine LeO.bind ?_ (fun _ => ?_)
def r9Mod.f (k : Nat) (a0 : Int) (l1 : List Int) (l2 : List Int) : Option (List Int) := (r9DivMod.f k a0 l1 l2).bind fun bt101 => (some bt101.2)
theorem r9Mod.mono : ∀ a0 a1 a2 k, LeO (r9Mod.f k a0 a1 a2) (r9Mod.f (k + 1) a0 a1 a2) := by
  intro a0 a1 a2 k
  unfold r9Mod.f
  repeat' first
      | (with_reducible exact r9DivMod.mono _ _ _ _)
      | (with_reducible exact LeO.refl _)
      | (with_reducible exact LeO.none _)
      | (with_reducible refine LeO.ite ?_ ?_)
      | (with_reducible refine LeO.bind ?_ (fun _ => ?_))
      | exact r9DivMod.mono _ _ _ _
      | exact LeO.none _
      | refine LeO.ite ?_ ?_
      | refine LeO.bind ?_ (fun _ => ?_)
mutual
def r9Mul.j0 : Nat → Int → List Int → List Int → Bool → Option (List Int)
  | 0, _, _, _, _ => none
  | k + 1, x0, x1, x2, x17 => if x17 = true then (some ([] : List Int)) else (if 0 ≤ (wrap64 ((wrap64 ((x1.length : Int) + (x2.length : Int))) - 1)) then (if (wrap64 ((wrap64 ((x1.length : Int) + (x2.length : Int))) - 1) : Int).toNat ≤ 35184372088832 then (r9Mul.l0 k x0 x1 x2 (List.replicate (wrap64 ((wrap64 ((x1.length : Int) + (x2.length : Int))) - 1) : Int).toNat 0) 0) else (none)) else (none))
def r9Mul.l0 : Nat → Int → List Int → List Int → List Int → Int → Option (List Int)
  | 0, _, _, _, _, _ => none
  | k + 1, x0, x1, x2, x7, x8 => if x8 < (x1.length : Int) then (r9Mul.l1 k x0 x1 x2 x7 x8 0) else ((r9Trim.f k x7).bind fun t104 => (some t104))
def r9Mul.l1 : Nat → Int → List Int → List Int → List Int → Int → Int → Option (List Int)
  | 0, _, _, _, _, _, _ => none
  | k + 1, x0, x1, x2, x7, x8, x9 => if x9 < (x2.length : Int) then (if 0 ≤ (wrap64 (x8 + x9)) then (if (wrap64 (x8 + x9)) < (x7.length : Int) then (if 0 ≤ x8 then (if x8 < (x1.length : Int) then (if 0 ≤ x9 then (if x0 = 0 then (none) else (r9Mul.l1 k x0 x1 x2 (x7.set ((wrap64 (x8 + x9)) : Int).toNat (Int.tmod (wrap64 ((rd x7 (wrap64 (x8 + x9))) + (wrap64 ((rd x1 x8) * (rd x2 x9))))) x0)) x8 (wrap64 (x9 + 1)))) else (none)) else (none)) else (none)) else (none)) else (none)) else (r9Mul.l0 k x0 x1 x2 x7 (wrap64 (x8 + 1)))
end
def r9Mul.f (k : Nat) (a0 : Int) (l1 : List Int) (l2 : List Int) : Option (List Int) := if (l1.length : Int) = 0 then (r9Mul.j0 k a0 l1 l2 true) else (r9Mul.j0 k a0 l1 l2 ((l2.length : Int) == 0))
theorem r9Mul.mono_l : ∀ k, (∀ y0 y1 y2 y3, LeO (r9Mul.j0 k y0 y1 y2 y3) (r9Mul.j0 (k + 1) y0 y1 y2 y3)) ∧ (∀ y0 y1 y2 y3 y4, LeO (r9Mul.l0 k y0 y1 y2 y3 y4) (r9Mul.l0 (k + 1) y0 y1 y2 y3 y4)) ∧ (∀ y0 y1 y2 y3 y4 y5, LeO (r9Mul.l1 k y0 y1 y2 y3 y4 y5) (r9Mul.l1 (k + 1) y0 y1 y2 y3 y4 y5))
  | 0 => ⟨fun _ _ _ _ r h => by simp [r9Mul.j0] at h, fun _ _ _ _ _ r h => by simp [r9Mul.l0] at h, fun _ _ _ _ _ _ r h => by simp [r9Mul.l1] at h⟩
  | k + 1 => by
    obtain ⟨ih0, ih1, ih2⟩ := r9Mul.mono_l k
    refine ⟨?_, ?_, ?_⟩
    · intro y0 y1 y2 y3
      unfold r9Mul.j0
      repeat' first
      | (with_reducible exact ih0 _ _ _ _)
      | (with_reducible exact ih1 _ _ _ _ _)
      | (with_reducible exact ih2 _ _ _ _ _ _)
      | (with_reducible exact r9Trim.mono _ _)
      | (with_reducible exact LeO.refl _)
      | (with_reducible exact LeO.none _)
      | (with_reducible refine LeO.ite ?_ ?_)
      | (with_reducible refine LeO.bind ?_ (fun _ => ?_))
      | exact ih0 _ _ _ _
      | exact ih1 _ _ _ _ _
      | exact ih2 _ _ _ _ _ _
      | exact r9Trim.mono _ _
      | exact LeO.none _
      | refine LeO.ite ?_ ?_
      | refine LeO.bind ?_ (fun _ => ?_)
    · intro y0 y1 y2 y3 y4
      unfold r9Mul.l0
      repeat' first
      | (with_reducible exact ih0 _ _ _ _)
      | (with_reducible exact ih1 _ _ _ _ _)
      | (with_reducible exact ih2 _ _ _ _ _ _)
      | (with_reducible exact r9Trim.mono _ _)
      | (with_reducible exact LeO.refl _)
      | (with_reducible exact LeO.none _)
      | (with_reducible refine LeO.ite ?_ ?_)
      | (with_reducible refine LeO.bind ?_ (fun _ => ?_))
      | exact ih0 _ _ _ _
      | exact ih1 _ _ _ _ _
      | exact ih2 _ _ _ _ _ _
      | exact r9Trim.mono _ _
      | exact LeO.none _
      | refine LeO.ite ?_ ?_
      | refine LeO.bind ?_ (fun _ => ?_)
    · intro y0 y1 y2 y3 y4 y5
      unfold r9Mul.l1
      repeat' first
      | (with_reducible exact ih0 _ _ _ _)
      | (with_reducible exact ih1 _ _ _ _ _)
      | (with_reducible exact ih2 _ _ _ _ _ _)
      | (with_reducible exact r9Trim.mono _ _)
      | (with_reducible exact LeO.refl _)
      | (with_reducible exact LeO.none _)
      | (with_reducible refine LeO.ite ?_ ?_)
      | (with_reducible refine LeO.bind ?_ (fun _ => ?_))
      | exact ih0 _ _ _ _
      | exact ih1 _ _ _ _ _
      | exact ih2 _ _ _ _ _ _
      | exact r9Trim.mono _ _
      | exact LeO.none _
      | refine LeO.ite ?_ ?_
      | refine LeO.bind ?_ (fun _ => ?_)
theorem r9Mul.mono : ∀ a0 a1 a2 k, LeO (r9Mul.f k a0 a1 a2) (r9Mul.f (k + 1) a0 a1 a2) := by
  intro a0 a1 a2 k
  obtain ⟨ih0, ih1, ih2⟩ := r9Mul.mono_l k
  unfold r9Mul.f
  repeat' first
      | (with_reducible exact ih0 _ _ _ _)
      | (with_reducible exact ih1 _ _ _ _ _)
      | (with_reducible exact ih2 _ _ _ _ _ _)
      | (with_reducible exact r9Trim.mono _ _)
      | (with_reducible exact LeO.refl _)
      | (with_reducible exact LeO.none _)
      | (with_reducible refine LeO.ite ?_ ?_)
      | (with_reducible refine LeO.bind ?_ (fun _ => ?_))
      | exact ih0 _ _ _ _
      | exact ih1 _ _ _ _ _
      | exact ih2 _ _ _ _ _ _
      | exact r9Trim.mono _ _
      | exact LeO.none _
      | refine LeO.ite ?_ ?_
      | refine LeO.bind ?_ (fun _ => ?_)
def r9MulMod.f (k : Nat) (a0 : Int) (l1 : List Int) (l2 : List Int) (l3 : List Int) : Option (List Int) := (r9Mul.f k a0 l1 l2).bind fun t101 => ((r9Mod.f k a0 t101 l3).bind fun t104 => (some t104))
theorem r9MulMod.mono : ∀ a0 a1 a2 a3 k, LeO (r9MulMod.f k a0 a1 a2 a3) (r9MulMod.f (k + 1) a0 a1 a2 a3) := by
  intro a0 a1 a2 a3 k
  unfold r9MulMod.f
  repeat' first
      | (with_reducible exact r9Mod.mono _ _ _ _)
      | (with_reducible exact r9Mul.mono _ _ _ _)
      | (with_reducible exact LeO.refl _)
      | (with_reducible exact LeO.none _)
      | (with_reducible refine LeO.ite ?_ ?_)
      | (with_reducible refine LeO.bind ?_ (fun _ => ?_))
      | exact r9Mod.mono _ _ _ _
      | exact r9Mul.mono _ _ _ _
      | exact LeO.none _
      | refine LeO.ite ?_ ?_
      | refine LeO.bind ?_ (fun _ => ?_)
mutual
def r9PowMod.l0 : Nat → Int → List Int → ByteArray → List Int → List Int → Int → Option (List Int)
  | 0, _, _, _, _, _, _ => none
  | k + 1, x0, x1, x2, x3, x9, x10 => if x10 < (x2.size : Int) then (r9PowMod.l1 k x0 x1 x2 x3 x9 x10 7) else (some x9)
def r9PowMod.l1 : Nat → Int → List Int → ByteArray → List Int → List Int → Int → Int → Option (List Int)
  | 0, _, _, _, _, _, _, _ => none
  | k + 1, x0, x1, x2, x3, x9, x10, x11 => if x11 ≥ 0 then ((r9MulMod.f k x0 x9 x9 x3).bind fun t110 => (if 0 ≤ x10 then (if x10 < (x2.size : Int) then (if 0 ≤ x11 then (if (Int.tmod (shr .u8 (bt x2 x10) x11) 2) = 1 then ((r9MulMod.f k x0 t110 x1 x3).bind fun t113 => (r9PowMod.l1 k x0 x1 x2 x3 t113 x10 (wrap64 (x11 - 1)))) else (r9PowMod.l1 k x0 x1 x2 x3 t110 x10 (wrap64 (x11 - 1)))) else (none)) else (none)) else (none))) else (r9PowMod.l0 k x0 x1 x2 x3 x9 (wrap64 (x10 + 1)))
end
def r9PowMod.f (k : Nat) (a0 : Int) (l1 : List Int) (a2 : ByteArray) (l3 : List Int) : Option (List Int) := (r9Mod.f k a0 (([1] : List Int)) l3).bind fun t104 => ((r9Mod.f k a0 l1 l3).bind fun t107 => (r9PowMod.l0 k a0 t107 a2 l3 t104 0))
theorem r9PowMod.mono_l : ∀ k, (∀ y0 y1 y2 y3 y4 y5, LeO (r9PowMod.l0 k y0 y1 y2 y3 y4 y5) (r9PowMod.l0 (k + 1) y0 y1 y2 y3 y4 y5)) ∧ (∀ y0 y1 y2 y3 y4 y5 y6, LeO (r9PowMod.l1 k y0 y1 y2 y3 y4 y5 y6) (r9PowMod.l1 (k + 1) y0 y1 y2 y3 y4 y5 y6))
  | 0 => ⟨fun _ _ _ _ _ _ r h => by simp [r9PowMod.l0] at h, fun _ _ _ _ _ _ _ r h => by simp [r9PowMod.l1] at h⟩
  | k + 1 => by
    obtain ⟨ih0, ih1⟩ := r9PowMod.mono_l k
    refine ⟨?_, ?_⟩
    · intro y0 y1 y2 y3 y4 y5
      unfold r9PowMod.l0
      repeat' first
      | (with_reducible exact ih0 _ _ _ _ _ _)
      | (with_reducible exact ih1 _ _ _ _ _ _ _)
      | (with_reducible exact r9Mod.mono _ _ _ _)
      | (with_reducible exact r9MulMod.mono _ _ _ _ _)
      | (with_reducible exact LeO.refl _)
      | (with_reducible exact LeO.none _)
      | (with_reducible refine LeO.ite ?_ ?_)
      | (with_reducible refine LeO.bind ?_ (fun _ => ?_))
      | exact ih0 _ _ _ _ _ _
      | exact ih1 _ _ _ _ _ _ _
      | exact r9Mod.mono _ _ _ _
      | exact r9MulMod.mono _ _ _ _ _
      | exact LeO.none _
      | refine LeO.ite ?_ ?_
      | refine LeO.bind ?_ (fun _ => ?_)
    · intro y0 y1 y2 y3 y4 y5 y6
      unfold r9PowMod.l1
      repeat' first
      | (with_reducible exact ih0 _ _ _ _ _ _)
      | (with_reducible exact ih1 _ _ _ _ _ _ _)
      | (with_reducible exact r9Mod.mono _ _ _ _)
      | (with_reducible exact r9MulMod.mono _ _ _ _ _)
      | (with_reducible exact LeO.refl _)
      | (with_reducible exact LeO.none _)
      | (with_reducible refine LeO.ite ?_ ?_)
      | (with_reducible refine LeO.bind ?_ (fun _ => ?_))
      | exact ih0 _ _ _ _ _ _
      | exact ih1 _ _ _ _ _ _ _
      | exact r9Mod.mono _ _ _ _
      | exact r9MulMod.mono _ _ _ _ _
      | exact LeO.none _
      | refine LeO.ite ?_ ?_
      | refine LeO.bind ?_ (fun _ => ?_)
theorem r9PowMod.mono : ∀ a0 a1 a2 a3 k, LeO (r9PowMod.f k a0 a1 a2 a3) (r9PowMod.f (k + 1) a0 a1 a2 a3) := by
  intro a0 a1 a2 a3 k
  obtain ⟨ih0, ih1⟩ := r9PowMod.mono_l k
  unfold r9PowMod.f
  repeat' first
      | (with_reducible exact ih0 _ _ _ _ _ _)
      | (with_reducible exact ih1 _ _ _ _ _ _ _)
      | (with_reducible exact r9Mod.mono _ _ _ _)
      | (with_reducible exact r9MulMod.mono _ _ _ _ _)
      | (with_reducible exact LeO.refl _)
      | (with_reducible exact LeO.none _)
      | (with_reducible refine LeO.ite ?_ ?_)
      | (with_reducible refine LeO.bind ?_ (fun _ => ?_))
      | exact ih0 _ _ _ _ _ _
      | exact ih1 _ _ _ _ _ _ _
      | exact r9Mod.mono _ _ _ _
      | exact r9MulMod.mono _ _ _ _ _
      | exact LeO.none _
      | refine LeO.ite ?_ ?_
      | refine LeO.bind ?_ (fun _ => ?_)
mutual
def r1pack.l0 : Nat → List Int → List Int → Int → Option (ByteArray)
  | 0, _, _, _ => none
  | k + 1, x0, x3, x4 => if x4 ≥ 0 then (r1pack.l1 k x0 x3 x4 24) else (some (strOfNums x3))
def r1pack.l1 : Nat → List Int → List Int → Int → Int → Option (ByteArray)
  | 0, _, _, _, _ => none
  | k + 1, x0, x3, x4, x5 => if x5 ≥ 0 then (if 0 ≤ x4 then (if x4 < (x0.length : Int) then (if 0 ≤ x5 then (if (x3.length : Int) > 0 then (if x3.length < 140737488355328 then (r1pack.l1 k x0 (x3 ++ [(shr .u64 (rd x0 x4) x5) % 256]) x4 (wrap64 (x5 - 8))) else (none)) else (if ((shr .u64 (rd x0 x4) x5) % 256) > 0 then (if x3.length < 140737488355328 then (r1pack.l1 k x0 (x3 ++ [(shr .u64 (rd x0 x4) x5) % 256]) x4 (wrap64 (x5 - 8))) else (none)) else (r1pack.l1 k x0 x3 x4 (wrap64 (x5 - 8))))) else (none)) else (none)) else (none)) else (r1pack.l0 k x0 x3 (wrap64 (x4 - 1)))
end
def r1pack.f (k : Nat) (l0 : List Int) : Option (ByteArray) := r1pack.l0 k l0 ([] : List Int) (wrap64 ((l0.length : Int) - 1))
theorem r1pack.mono_l : ∀ k, (∀ y0 y1 y2, LeO (r1pack.l0 k y0 y1 y2) (r1pack.l0 (k + 1) y0 y1 y2)) ∧ (∀ y0 y1 y2 y3, LeO (r1pack.l1 k y0 y1 y2 y3) (r1pack.l1 (k + 1) y0 y1 y2 y3))
  | 0 => ⟨fun _ _ _ r h => by simp [r1pack.l0] at h, fun _ _ _ _ r h => by simp [r1pack.l1] at h⟩
  | k + 1 => by
    obtain ⟨ih0, ih1⟩ := r1pack.mono_l k
    refine ⟨?_, ?_⟩
    · intro y0 y1 y2
      unfold r1pack.l0
      repeat' first
      | (with_reducible exact ih0 _ _ _)
      | (with_reducible exact ih1 _ _ _ _)
      | (with_reducible exact LeO.refl _)
      | (with_reducible exact LeO.none _)
      | (with_reducible refine LeO.ite ?_ ?_)
      | (with_reducible refine LeO.bind ?_ (fun _ => ?_))
      | exact ih0 _ _ _
      | exact ih1 _ _ _ _
      | exact LeO.none _
      | refine LeO.ite ?_ ?_
      | refine LeO.bind ?_ (fun _ => ?_)
    · intro y0 y1 y2 y3
      unfold r1pack.l1
      repeat' first
      | (with_reducible exact ih0 _ _ _)
      | (with_reducible exact ih1 _ _ _ _)
      | (with_reducible exact LeO.refl _)
      | (with_reducible exact LeO.none _)
      | (with_reducible refine LeO.ite ?_ ?_)
      | (with_reducible refine LeO.bind ?_ (fun _ => ?_))
      | exact ih0 _ _ _
      | exact ih1 _ _ _ _
      | exact LeO.none _
      | refine LeO.ite ?_ ?_
      | refine LeO.bind ?_ (fun _ => ?_)
theorem r1pack.mono : ∀ a0 k, LeO (r1pack.f k a0) (r1pack.f (k + 1) a0) := by
  intro a0 k
  obtain ⟨ih0, ih1⟩ := r1pack.mono_l k
  unfold r1pack.f
  repeat' first
      | (with_reducible exact ih0 _ _ _)
      | (with_reducible exact ih1 _ _ _ _)
      | (with_reducible exact LeO.refl _)
      | (with_reducible exact LeO.none _)
      | (with_reducible refine LeO.ite ?_ ?_)
      | (with_reducible refine LeO.bind ?_ (fun _ => ?_))
      | exact ih0 _ _ _
      | exact ih1 _ _ _ _
      | exact LeO.none _
      | refine LeO.ite ?_ ?_
      | refine LeO.bind ?_ (fun _ => ?_)
def r9Lead.f (l0 : List Int) : Option (Int) := if (l0.length : Int) = 0 then (some 0) else (if 0 ≤ (wrap64 ((l0.length : Int) - 1)) then (if (wrap64 ((l0.length : Int) - 1)) < (l0.length : Int) then (some (rd l0 (wrap64 ((l0.length : Int) - 1)))) else (none)) else (none))
def r9Monic.f (k : Nat) (a0 : Int) (l1 : List Int) : Option (List Int) := if (l1.length : Int) = 0 then (some ([] : List Int)) else ((r9Lead.f l1).bind fun t101 => ((r4Inverse.f k t101 a0).bind fun t102 => ((r9Scale.f k a0 l1 t102).bind fun t103 => (some t103))))
theorem r9Monic.mono : ∀ a0 a1 k, LeO (r9Monic.f k a0 a1) (r9Monic.f (k + 1) a0 a1) := by
  intro a0 a1 k
  unfold r9Monic.f
  repeat' first
      | (with_reducible exact r4Inverse.mono _ _ _)
      | (with_reducible exact r9Scale.mono _ _ _ _)
      | (with_reducible exact LeO.refl _)
      | (with_reducible exact LeO.none _)
      | (with_reducible refine LeO.ite ?_ ?_)
      | (with_reducible refine LeO.bind ?_ (fun _ => ?_))
      | exact r4Inverse.mono _ _ _
      | exact r9Scale.mono _ _ _ _
      | exact LeO.none _
      | refine LeO.ite ?_ ?_
      | refine LeO.bind ?_ (fun _ => ?_)
def r1Of.f (k : Nat) (a0 : Int) : Option (ByteArray) := (r1pack.f k (([Go.bits .and .u64 a0 4294967295, a0 / 4294967296] : List Int))).bind fun t104 => (some t104)
theorem r1Of.mono : ∀ a0 k, LeO (r1Of.f k a0) (r1Of.f (k + 1) a0) := by
  intro a0 k
  unfold r1Of.f
  repeat' first
      | (with_reducible exact r1pack.mono _ _)
      | (with_reducible exact LeO.refl _)
      | (with_reducible exact LeO.none _)
      | (with_reducible refine LeO.ite ?_ ?_)
      | (with_reducible refine LeO.bind ?_ (fun _ => ?_))
      | exact r1pack.mono _ _
      | exact LeO.none _
      | refine LeO.ite ?_ ?_
      | refine LeO.bind ?_ (fun _ => ?_)
def r1FromInt.f (k : Nat) (a0 : Int) : Option (ByteArray) := (r1Of.f k (IntKind.u64.wrap (a0))).bind fun t101 => (some t101)
theorem r1FromInt.mono : ∀ a0 k, LeO (r1FromInt.f k a0) (r1FromInt.f (k + 1) a0) := by
  intro a0 k
  unfold r1FromInt.f
  repeat' first
      | (with_reducible exact r1Of.mono _ _)
      | (with_reducible exact LeO.refl _)
      | (with_reducible exact LeO.none _)
      | (with_reducible refine LeO.ite ?_ ?_)
      | (with_reducible refine LeO.bind ?_ (fun _ => ?_))
      | exact r1Of.mono _ _
      | exact LeO.none _
      | refine LeO.ite ?_ ?_
      | refine LeO.bind ?_ (fun _ => ?_)
def r9X.f  : Option (List Int) := some (([0, 1] : List Int))
def r9Gcd.l0 : Nat → Int → List Int → List Int → Option (List Int)
  | 0, _, _, _ => none
  | k + 1, x0, x1, x2 => if (x2.length : Int) > 0 then ((r9Mod.f k x0 x1 x2).bind fun t101 => (r9Gcd.l0 k x0 x2 t101)) else ((r9Monic.f k x0 x1).bind fun t104 => (some t104))
def r9Gcd.f (k : Nat) (a0 : Int) (l1 : List Int) (l2 : List Int) : Option (List Int) := r9Gcd.l0 k a0 l1 l2
theorem r9Gcd.mono_l : ∀ k, (∀ y0 y1 y2, LeO (r9Gcd.l0 k y0 y1 y2) (r9Gcd.l0 (k + 1) y0 y1 y2))
  | 0 => fun _ _ _ r h => by simp [r9Gcd.l0] at h
  | k + 1 => by
    have ih0 := r9Gcd.mono_l k
    · intro y0 y1 y2
      unfold r9Gcd.l0
      repeat' first
      | (with_reducible exact ih0 _ _ _)
      | (with_reducible exact r9Mod.mono _ _ _ _)
      | (with_reducible exact r9Monic.mono _ _ _)
      | (with_reducible exact LeO.refl _)
      | (with_reducible exact LeO.none _)
      | (with_reducible refine LeO.ite ?_ ?_)
      | (with_reducible refine LeO.bind ?_ (fun _ => ?_))
      | exact ih0 _ _ _
      | exact r9Mod.mono _ _ _ _
      | exact r9Monic.mono _ _ _
      | exact LeO.none _
      | refine LeO.ite ?_ ?_
      | refine LeO.bind ?_ (fun _ => ?_)
theorem r9Gcd.mono : ∀ a0 a1 a2 k, LeO (r9Gcd.f k a0 a1 a2) (r9Gcd.f (k + 1) a0 a1 a2) := by
  intro a0 a1 a2 k
  have ih0 := r9Gcd.mono_l k
  unfold r9Gcd.f
  repeat' first
      | (with_reducible exact ih0 _ _ _)
      | (with_reducible exact r9Mod.mono _ _ _ _)
      | (with_reducible exact r9Monic.mono _ _ _)
      | (with_reducible exact LeO.refl _)
      | (with_reducible exact LeO.none _)
      | (with_reducible refine LeO.ite ?_ ?_)
      | (with_reducible refine LeO.bind ?_ (fun _ => ?_))
      | exact ih0 _ _ _
      | exact r9Mod.mono _ _ _ _
      | exact r9Monic.mono _ _ _
      | exact LeO.none _
      | refine LeO.ite ?_ ?_
      | refine LeO.bind ?_ (fun _ => ?_)
def r9IsIrreducible.l0 : Nat → Int → List Int → List Int → Int → Option (Bool)
  | 0, _, _, _, _ => none
  | k + 1, x0, x1, x5, x6 => if (wrap64 (2 * x6)) ≤ (wrap64 ((x1.length : Int) - 1)) then ((r1FromInt.f k x0).bind fun t107 => ((r9PowMod.f k x0 x5 t107 x1).bind fun t108 => ((r9X.f).bind fun t111 => ((r9Sub.f k x0 t108 t111).bind fun t114 => ((r9Gcd.f k x0 t114 x1).bind fun t117 => (if (t117.length : Int) = 1 then (r9IsIrreducible.l0 k x0 x1 t108 (wrap64 (x6 + 1))) else (some false))))))) else (some true)
def r9IsIrreducible.f (k : Nat) (a0 : Int) (l1 : List Int) : Option (Bool) := if (l1.length : Int) < 2 then (some false) else ((r9X.f).bind fun t101 => ((r9Mod.f k a0 t101 l1).bind fun t104 => (r9IsIrreducible.l0 k a0 l1 t104 1)))
theorem r9IsIrreducible.mono_l : ∀ k, (∀ y0 y1 y2 y3, LeO (r9IsIrreducible.l0 k y0 y1 y2 y3) (r9IsIrreducible.l0 (k + 1) y0 y1 y2 y3))
  | 0 => fun _ _ _ _ r h => by simp [r9IsIrreducible.l0] at h
  | k + 1 => by
    have ih0 := r9IsIrreducible.mono_l k
    · intro y0 y1 y2 y3
      unfold r9IsIrreducible.l0
      repeat' first
      | (with_reducible exact ih0 _ _ _ _)
      | (with_reducible exact r1FromInt.mono _ _)
      | (with_reducible exact r9Gcd.mono _ _ _ _)
      | (with_reducible exact r9Mod.mono _ _ _ _)
      | (with_reducible exact r9PowMod.mono _ _ _ _ _)
      | (with_reducible exact r9Sub.mono _ _ _ _)
      | (with_reducible exact LeO.refl _)
      | (with_reducible exact LeO.none _)
      | (with_reducible refine LeO.ite ?_ ?_)
      | (with_reducible refine LeO.bind ?_ (fun _ => ?_))
      | exact ih0 _ _ _ _
      | exact r1FromInt.mono _ _
      | exact r9Gcd.mono _ _ _ _
      | exact r9Mod.mono _ _ _ _
      | exact r9PowMod.mono _ _ _ _ _
      | exact r9Sub.mono _ _ _ _
      | exact LeO.none _
      | refine LeO.ite ?_ ?_
      | refine LeO.bind ?_ (fun _ => ?_)
theorem r9IsIrreducible.mono : ∀ a0 a1 k, LeO (r9IsIrreducible.f k a0 a1) (r9IsIrreducible.f (k + 1) a0 a1) := by
  intro a0 a1 k
  have ih0 := r9IsIrreducible.mono_l k
  unfold r9IsIrreducible.f
  repeat' first
      | (with_reducible exact ih0 _ _ _ _)
      | (with_reducible exact r1FromInt.mono _ _)
      | (with_reducible exact r9Gcd.mono _ _ _ _)
      | (with_reducible exact r9Mod.mono _ _ _ _)
      | (with_reducible exact r9PowMod.mono _ _ _ _ _)
      | (with_reducible exact r9Sub.mono _ _ _ _)
      | (with_reducible exact LeO.refl _)
      | (with_reducible exact LeO.none _)
      | (with_reducible refine LeO.ite ?_ ?_)
      | (with_reducible refine LeO.bind ?_ (fun _ => ?_))
      | exact ih0 _ _ _ _
      | exact r1FromInt.mono _ _
      | exact r9Gcd.mono _ _ _ _
      | exact r9Mod.mono _ _ _ _
      | exact r9PowMod.mono _ _ _ _ _
      | exact r9Sub.mono _ _ _ _
      | exact LeO.none _
      | refine LeO.ite ?_ ?_
      | refine LeO.bind ?_ (fun _ => ?_)
def r4IsPrime.l0 : Nat → Int → Int → Option (Bool)
  | 0, _, _ => none
  | k + 1, x0, x3 => if (wrap64 (x3 * x3)) ≤ x0 then (if x3 = 0 then (none) else (if (Int.tmod x0 x3) = 0 then (some false) else (r4IsPrime.l0 k x0 (wrap64 (x3 + 1))))) else (some (decide (x0 > 1)))
def r4IsPrime.f (k : Nat) (a0 : Int) : Option (Bool) := r4IsPrime.l0 k a0 2
theorem r4IsPrime.mono_l : ∀ k, (∀ y0 y1, LeO (r4IsPrime.l0 k y0 y1) (r4IsPrime.l0 (k + 1) y0 y1))
  | 0 => fun _ _ r h => by simp [r4IsPrime.l0] at h
  | k + 1 => by
    have ih0 := r4IsPrime.mono_l k
    · intro y0 y1
      unfold r4IsPrime.l0
      repeat' first
      | (with_reducible exact ih0 _ _)
      | (with_reducible exact LeO.refl _)
      | (with_reducible exact LeO.none _)
      | (with_reducible refine LeO.ite ?_ ?_)
      | (with_reducible refine LeO.bind ?_ (fun _ => ?_))
      | exact ih0 _ _
      | exact LeO.none _
      | refine LeO.ite ?_ ?_
      | refine LeO.bind ?_ (fun _ => ?_)
theorem r4IsPrime.mono : ∀ a0 k, LeO (r4IsPrime.f k a0) (r4IsPrime.f (k + 1) a0) := by
  intro a0 k
  have ih0 := r4IsPrime.mono_l k
  unfold r4IsPrime.f
  repeat' first
      | (with_reducible exact ih0 _ _)
      | (with_reducible exact LeO.refl _)
      | (with_reducible exact LeO.none _)
      | (with_reducible refine LeO.ite ?_ ?_)
      | (with_reducible refine LeO.bind ?_ (fun _ => ?_))
      | exact ih0 _ _
      | exact LeO.none _
      | refine LeO.ite ?_ ?_
      | refine LeO.bind ?_ (fun _ => ?_)
def r9IsPrime.f (k : Nat) (a0 : Int) : Option (Bool) := if a0 ≥ 2 then (if a0 ≤ 65521 then ((r4IsPrime.f k a0).bind fun t101 => (some t101)) else (some false)) else (some false)
theorem r9IsPrime.mono : ∀ a0 k, LeO (r9IsPrime.f k a0) (r9IsPrime.f (k + 1) a0) := by
  intro a0 k
  unfold r9IsPrime.f
  repeat' first
      | (with_reducible exact r4IsPrime.mono _ _)
      | (with_reducible exact LeO.refl _)
      | (with_reducible exact LeO.none _)
      | (with_reducible refine LeO.ite ?_ ?_)
      | (with_reducible refine LeO.bind ?_ (fun _ => ?_))
      | exact r4IsPrime.mono _ _
      | exact LeO.none _
      | refine LeO.ite ?_ ?_
      | refine LeO.bind ?_ (fun _ => ?_)
def r9Check.l0 : Nat → Int → List Int → Int → Option (Int)
  | 0, _, _, _ => none
  | k + 1, x0, x1, x5 => if x5 < (x1.length : Int) then (if 0 ≤ x5 then (if (rd x1 x5) < 0 then (some 1) else (if (rd x1 x5) ≥ x0 then (some 1) else (r9Check.l0 k x0 x1 (wrap64 (x5 + 1))))) else (none)) else (if (x1.length : Int) > 0 then (if 0 ≤ (wrap64 ((x1.length : Int) - 1)) then (if (wrap64 ((x1.length : Int) - 1)) < (x1.length : Int) then (if (rd x1 (wrap64 ((x1.length : Int) - 1))) = 0 then (some 1) else (some 0)) else (none)) else (none)) else (some 0))
def r9Check.f (k : Nat) (a0 : Int) (l1 : List Int) : Option (Int) := (r9IsPrime.f k a0).bind fun t101 => (if t101 = true then (if (l1.length : Int) > 65 then (some 4) else (r9Check.l0 k a0 l1 0)) else (some 7))
theorem r9Check.mono_l : ∀ k, (∀ y0 y1 y2, LeO (r9Check.l0 k y0 y1 y2) (r9Check.l0 (k + 1) y0 y1 y2))
  | 0 => fun _ _ _ r h => by simp [r9Check.l0] at h
  | k + 1 => by
    have ih0 := r9Check.mono_l k
    · intro y0 y1 y2
      unfold r9Check.l0
      repeat' first
      | (with_reducible exact ih0 _ _ _)
      | (with_reducible exact r9IsPrime.mono _ _)
      | (with_reducible exact LeO.refl _)
      | (with_reducible exact LeO.none _)
      | (with_reducible refine LeO.ite ?_ ?_)
      | (with_reducible refine LeO.bind ?_ (fun _ => ?_))
      | exact ih0 _ _ _
      | exact r9IsPrime.mono _ _
      | exact LeO.none _
      | refine LeO.ite ?_ ?_
      | refine LeO.bind ?_ (fun _ => ?_)
theorem r9Check.mono : ∀ a0 a1 k, LeO (r9Check.f k a0 a1) (r9Check.f (k + 1) a0 a1) := by
  intro a0 a1 k
  have ih0 := r9Check.mono_l k
  unfold r9Check.f
  repeat' first
      | (with_reducible exact ih0 _ _ _)
      | (with_reducible exact r9IsPrime.mono _ _)
      | (with_reducible exact LeO.refl _)
      | (with_reducible exact LeO.none _)
      | (with_reducible refine LeO.ite ?_ ?_)
      | (with_reducible refine LeO.bind ?_ (fun _ => ?_))
      | exact ih0 _ _ _
      | exact r9IsPrime.mono _ _
      | exact LeO.none _
      | refine LeO.ite ?_ ?_
      | refine LeO.bind ?_ (fun _ => ?_)
def r15Check.j0 : Nat → Bool → Int → List Int → Option (Int)
  | 0, _, _, _ => none
  | k + 1, x18, x102000, x102001 => if x18 = true then (some 1) else ((r9IsIrreducible.f k x102000 x102001).bind fun t104 => (if t104 = true then (some 0) else (some 8)))
def r15Check.f (k : Nat) (a0_0 : Int) (l0_1 : List Int) : Option (Int) := (r9Check.f k a0_0 l0_1).bind fun t102 => (if t102 = 0 then (if (l0_1.length : Int) > 17 then (some 4) else (if (l0_1.length : Int) < 2 then (r15Check.j0 k true a0_0 l0_1) else ((r9Lead.f l0_1).bind fun t103 => (r15Check.j0 k (t103 != 1) a0_0 l0_1)))) else (some t102))
theorem r15Check.mono_l : ∀ k, (∀ y0 y1 y2, LeO (r15Check.j0 k y0 y1 y2) (r15Check.j0 (k + 1) y0 y1 y2))
  | 0 => fun _ _ _ r h => by simp [r15Check.j0] at h
  | k + 1 => by
    have ih0 := r15Check.mono_l k
    · intro y0 y1 y2
      unfold r15Check.j0
      repeat' first
      | (with_reducible exact ih0 _ _ _)
      | (with_reducible exact r9Check.mono _ _ _)
      | (with_reducible exact r9IsIrreducible.mono _ _ _)
      | (with_reducible exact LeO.refl _)
      | (with_reducible exact LeO.none _)
      | (with_reducible refine LeO.ite ?_ ?_)
      | (with_reducible refine LeO.bind ?_ (fun _ => ?_))
      | exact ih0 _ _ _
      | exact r9Check.mono _ _ _
      | exact r9IsIrreducible.mono _ _ _
      | exact LeO.none _
      | refine LeO.ite ?_ ?_
      | refine LeO.bind ?_ (fun _ => ?_)
theorem r15Check.mono : ∀ a0 a1 k, LeO (r15Check.f k a0 a1) (r15Check.f (k + 1) a0 a1) := by
  intro a0 a1 k
  have ih0 := r15Check.mono_l k
  unfold r15Check.f
  repeat' first
      | (with_reducible exact ih0 _ _ _)
      | (with_reducible exact r9Check.mono _ _ _)
      | (with_reducible exact r9IsIrreducible.mono _ _ _)
      | (with_reducible exact LeO.refl _)
      | (with_reducible exact LeO.none _)
      | (with_reducible refine LeO.ite ?_ ?_)
      | (with_reducible refine LeO.bind ?_ (fun _ => ?_))
      | exact ih0 _ _ _
      | exact r9Check.mono _ _ _
      | exact r9IsIrreducible.mono _ _ _
      | exact LeO.none _
      | refine LeO.ite ?_ ?_
      | refine LeO.bind ?_ (fun _ => ?_)
def r15Member.f (k : Nat) (a0_0 : Int) (l0_1 : List Int) (l1 : List Int) : Option (Int) := (r9Check.f k a0_0 l1).bind fun t102 => (if t102 = 0 then (if (l1.length : Int) ≥ (l0_1.length : Int) then (some 3) else (some t102)) else (some t102))
theorem r15Member.mono : ∀ a0 a1 a2 k, LeO (r15Member.f k a0 a1 a2) (r15Member.f (k + 1) a0 a1 a2) := by
  intro a0 a1 a2 k
  unfold r15Member.f
  repeat' first
      | (with_reducible exact r9Check.mono _ _ _)
      | (with_reducible exact LeO.refl _)
      | (with_reducible exact LeO.none _)
      | (with_reducible refine LeO.ite ?_ ?_)
      | (with_reducible refine LeO.bind ?_ (fun _ => ?_))
      | exact r9Check.mono _ _ _
      | exact LeO.none _
      | refine LeO.ite ?_ ?_
      | refine LeO.bind ?_ (fun _ => ?_)
def r15CheckElement.f (k : Nat) (a0_0 : Int) (l0_1 : List Int) (l1 : List Int) : Option (Int) := (r15Check.f k a0_0 l0_1).bind fun t102 => (if t102 = 0 then ((r15Member.f k a0_0 l0_1 l1).bind fun t103 => (some t103)) else ((r15Check.f k a0_0 l0_1).bind fun t104 => (some t104)))
theorem r15CheckElement.mono : ∀ a0 a1 a2 k, LeO (r15CheckElement.f k a0 a1 a2) (r15CheckElement.f (k + 1) a0 a1 a2) := by
  intro a0 a1 a2 k
  unfold r15CheckElement.f
  repeat' first
      | (with_reducible exact r15Check.mono _ _ _)
      | (with_reducible exact r15Member.mono _ _ _ _)
      | (with_reducible exact LeO.refl _)
      | (with_reducible exact LeO.none _)
      | (with_reducible refine LeO.ite ?_ ?_)
      | (with_reducible refine LeO.bind ?_ (fun _ => ?_))
      | exact r15Check.mono _ _ _
      | exact r15Member.mono _ _ _ _
      | exact LeO.none _
      | refine LeO.ite ?_ ?_
      | refine LeO.bind ?_ (fun _ => ?_)
def natural_Check.j0 : Nat → ByteArray → Bool → Option (Int)
  | 0, _, _ => none
  | k + 1, x0, x10 => if x10 = true then (some 1) else (if (x0.size : Int) > 1024 then (some 4) else (some 0))
def natural_Check.f (k : Nat) (a0 : ByteArray) : Option (Int) := if (a0.size : Int) > 0 then (if 0 < (a0.size : Int) then (natural_Check.j0 k a0 ((bt a0 0) == 0)) else (none)) else (natural_Check.j0 k a0 false)
theorem natural_Check.mono_l : ∀ k, (∀ y0 y1, LeO (natural_Check.j0 k y0 y1) (natural_Check.j0 (k + 1) y0 y1))
  | 0 => fun _ _ r h => by simp [natural_Check.j0] at h
  | k + 1 => by
    have ih0 := natural_Check.mono_l k
    · intro y0 y1
      unfold natural_Check.j0
      repeat' first
      | (with_reducible exact ih0 _ _)
      | (with_reducible exact LeO.refl _)
      | (with_reducible exact LeO.none _)
      | (with_reducible refine LeO.ite ?_ ?_)
      | (with_reducible refine LeO.bind ?_ (fun _ => ?_))
      | exact ih0 _ _
      | exact LeO.none _
      | refine LeO.ite ?_ ?_
      | refine LeO.bind ?_ (fun _ => ?_)
theorem natural_Check.mono : ∀ a0 k, LeO (natural_Check.f k a0) (natural_Check.f (k + 1) a0) := by
  intro a0 k
  have ih0 := natural_Check.mono_l k
  unfold natural_Check.f
  repeat' first
      | (with_reducible exact ih0 _ _)
      | (with_reducible exact LeO.refl _)
      | (with_reducible exact LeO.none _)
      | (with_reducible refine LeO.ite ?_ ?_)
      | (with_reducible refine LeO.bind ?_ (fun _ => ?_))
      | exact ih0 _ _
      | exact LeO.none _
      | refine LeO.ite ?_ ?_
      | refine LeO.bind ?_ (fun _ => ?_)
def r15Degree.f (a0_0 : Int) (l0_1 : List Int) : Option (Int) := some (wrap64 ((l0_1.length : Int) - 1))
def r15Size.l0 : Nat → Int → Int → Int → List Int → Option (Int)
  | 0, _, _, _, _ => none
  | k + 1, x3, x4, x102000, x102001 => (r15Degree.f x102000 x102001).bind fun t102 => (if x4 < t102 then (if x102000 = 0 then (none) else (if x3 > (wrap64 (Int.tdiv (2147483647 : Int) x102000)) then (some 0) else (r15Size.l0 k (wrap64 (x3 * x102000)) (wrap64 (x4 + 1)) x102000 x102001))) else (some x3))
def r15Size.f (k : Nat) (a0_0 : Int) (l0_1 : List Int) : Option (Int) := r15Size.l0 k 1 0 a0_0 l0_1
theorem r15Size.mono_l : ∀ k, (∀ y0 y1 y2 y3, LeO (r15Size.l0 k y0 y1 y2 y3) (r15Size.l0 (k + 1) y0 y1 y2 y3))
  | 0 => fun _ _ _ _ r h => by simp [r15Size.l0] at h
  | k + 1 => by
    have ih0 := r15Size.mono_l k
    · intro y0 y1 y2 y3
      unfold r15Size.l0
      repeat' first
      | (with_reducible exact ih0 _ _ _ _)
      | (with_reducible exact LeO.refl _)
      | (with_reducible exact LeO.none _)
      | (with_reducible refine LeO.ite ?_ ?_)
      | (with_reducible refine LeO.bind ?_ (fun _ => ?_))
      | exact ih0 _ _ _ _
      | exact LeO.none _
      | refine LeO.ite ?_ ?_
      | refine LeO.bind ?_ (fun _ => ?_)
theorem r15Size.mono : ∀ a0 a1 k, LeO (r15Size.f k a0 a1) (r15Size.f (k + 1) a0 a1) := by
  intro a0 a1 k
  have ih0 := r15Size.mono_l k
  unfold r15Size.f
  repeat' first
      | (with_reducible exact ih0 _ _ _ _)
      | (with_reducible exact LeO.refl _)
      | (with_reducible exact LeO.none _)
      | (with_reducible refine LeO.ite ?_ ?_)
      | (with_reducible refine LeO.bind ?_ (fun _ => ?_))
      | exact ih0 _ _ _ _
      | exact LeO.none _
      | refine LeO.ite ?_ ?_
      | refine LeO.bind ?_ (fun _ => ?_)
def r15Few.f (k : Nat) (a0_0 : Int) (l0_1 : List Int) (a1 : Int) : Option (Bool) := if (l0_1.length : Int) ≤ 17 then ((r15Check.f k a0_0 l0_1).bind fun t102 => (if t102 = 0 then ((r15Size.f k a0_0 l0_1).bind fun t103 => (if t103 > 0 then (some (decide (t103 ≤ a1))) else (some false))) else (some false))) else (some false)
theorem r15Few.mono : ∀ a0 a1 a2 k, LeO (r15Few.f k a0 a1 a2) (r15Few.f (k + 1) a0 a1 a2) := by
  intro a0 a1 a2 k
  unfold r15Few.f
  repeat' first
      | (with_reducible exact r15Check.mono _ _ _)
      | (with_reducible exact r15Size.mono _ _ _)
      | (with_reducible exact LeO.refl _)
      | (with_reducible exact LeO.none _)
      | (with_reducible refine LeO.ite ?_ ?_)
      | (with_reducible refine LeO.bind ?_ (fun _ => ?_))
      | exact r15Check.mono _ _ _
      | exact r15Size.mono _ _ _
      | exact LeO.none _
      | refine LeO.ite ?_ ?_
      | refine LeO.bind ?_ (fun _ => ?_)
def fi_Element.f (k : Nat) (a0_0 : Int) (l0_1 : List Int) (a1 : Int) : Option (List Int × Int) := (fi_Check.f k a0_0 l0_1).bind fun t102 => (if t102 = 0 then ((fi_size.f k a0_0 l0_1 2147483647).bind fun bt103 => (if bt103.2 = 0 then (if a1 < 0 then (some (([] : List Int), 3)) else (if a1 ≥ bt103.1 then (some (([] : List Int), 3)) else ((gFElement.f k a0_0 l0_1 a1).bind fun t105 => (some (t105, 0))))) else (some (([] : List Int), bt103.2)))) else (some (([] : List Int), t102)))
theorem fi_Element.mono : ∀ a0 a1 a2 k, LeO (fi_Element.f k a0 a1 a2) (fi_Element.f (k + 1) a0 a1 a2) := by
  intro a0 a1 a2 k
  unfold fi_Element.f
  repeat' first
      | (with_reducible exact fi_Check.mono _ _ _)
      | (with_reducible exact fi_size.mono _ _ _ _)
      | (with_reducible exact gFElement.mono _ _ _ _)
      | (with_reducible exact LeO.refl _)
      | (with_reducible exact LeO.none _)
      | (with_reducible refine LeO.ite ?_ ?_)
      | (with_reducible refine LeO.bind ?_ (fun _ => ?_))
      | exact fi_Check.mono _ _ _
      | exact fi_size.mono _ _ _ _
      | exact gFElement.mono _ _ _ _
      | exact LeO.none _
      | refine LeO.ite ?_ ?_
      | refine LeO.bind ?_ (fun _ => ?_)
def gFPowNat.f (k : Nat) (a0_0 : Int) (l0_1 : List Int) (l1 : List Int) (a2 : ByteArray) : Option (List Int) := (fp_PowMod.f k a0_0 l1 a2 l0_1).bind fun t102 => (some t102)
theorem gFPowNat.mono : ∀ a0 a1 a2 a3 k, LeO (gFPowNat.f k a0 a1 a2 a3) (gFPowNat.f (k + 1) a0 a1 a2 a3) := by
  intro a0 a1 a2 a3 k
  unfold gFPowNat.f
  repeat' first
      | (with_reducible exact fp_PowMod.mono _ _ _ _ _)
      | (with_reducible exact LeO.refl _)
      | (with_reducible exact LeO.none _)
      | (with_reducible refine LeO.ite ?_ ?_)
      | (with_reducible refine LeO.bind ?_ (fun _ => ?_))
      | exact fp_PowMod.mono _ _ _ _ _
      | exact LeO.none _
      | refine LeO.ite ?_ ?_
      | refine LeO.bind ?_ (fun _ => ?_)
def fi_Pow.f (k : Nat) (a0_0 : Int) (l0_1 : List Int) (l1 : List Int) (a2 : ByteArray) : Option (List Int × Int) := (fi_check.f k a0_0 l0_1 (([l1] : List (List Int)))).bind fun t105 => (if t105 = 0 then ((natural_Check.f k a2).bind fun t106 => (if t106 = 0 then ((gFPowNat.f k a0_0 l0_1 l1 a2).bind fun t107 => (some (t107, 0))) else (some (([] : List Int), t106)))) else (some (([] : List Int), t105)))
theorem fi_Pow.mono : ∀ a0 a1 a2 a3 k, LeO (fi_Pow.f k a0 a1 a2 a3) (fi_Pow.f (k + 1) a0 a1 a2 a3) := by
  intro a0 a1 a2 a3 k
  unfold fi_Pow.f
  repeat' first
      | (with_reducible exact fi_check.mono _ _ _ _)
      | (with_reducible exact gFPowNat.mono _ _ _ _ _)
      | (with_reducible exact natural_Check.mono _ _)
      | (with_reducible exact LeO.refl _)
      | (with_reducible exact LeO.none _)
      | (with_reducible refine LeO.ite ?_ ?_)
      | (with_reducible refine LeO.bind ?_ (fun _ => ?_))
      | exact fi_check.mono _ _ _ _
      | exact gFPowNat.mono _ _ _ _ _
      | exact natural_Check.mono _ _
      | exact LeO.none _
      | refine LeO.ite ?_ ?_
      | refine LeO.bind ?_ (fun _ => ?_)
def gFNumber.l0 : Nat → List Int → Int → Int → Int → List Int → Option (Int)
  | 0, _, _, _, _, _ => none
  | k + 1, x1, x5, x6, x102000, x102001 => if x6 ≥ 0 then (if 0 ≤ x6 then (if x6 < (x1.length : Int) then (gFNumber.l0 k x1 (wrap64 ((wrap64 (x5 * x102000)) + (rd x1 x6))) (wrap64 (x6 - 1)) x102000 x102001) else (none)) else (none)) else (some x5)
def gFNumber.f (k : Nat) (a0_0 : Int) (l0_1 : List Int) (l1 : List Int) : Option (Int) := gFNumber.l0 k l1 0 (wrap64 ((l1.length : Int) - 1)) a0_0 l0_1
theorem gFNumber.mono_l : ∀ k, (∀ y0 y1 y2 y3 y4, LeO (gFNumber.l0 k y0 y1 y2 y3 y4) (gFNumber.l0 (k + 1) y0 y1 y2 y3 y4))
  | 0 => fun _ _ _ _ _ r h => by simp [gFNumber.l0] at h
  | k + 1 => by
    have ih0 := gFNumber.mono_l k
    · intro y0 y1 y2 y3 y4
      unfold gFNumber.l0
      repeat' first
      | (with_reducible exact ih0 _ _ _ _ _)
      | (with_reducible exact LeO.refl _)
      | (with_reducible exact LeO.none _)
      | (with_reducible refine LeO.ite ?_ ?_)
      | (with_reducible refine LeO.bind ?_ (fun _ => ?_))
      | exact ih0 _ _ _ _ _
      | exact LeO.none _
      | refine LeO.ite ?_ ?_
      | refine LeO.bind ?_ (fun _ => ?_)
theorem gFNumber.mono : ∀ a0 a1 a2 k, LeO (gFNumber.f k a0 a1 a2) (gFNumber.f (k + 1) a0 a1 a2) := by
  intro a0 a1 a2 k
  have ih0 := gFNumber.mono_l k
  unfold gFNumber.f
  repeat' first
      | (with_reducible exact ih0 _ _ _ _ _)
      | (with_reducible exact LeO.refl _)
      | (with_reducible exact LeO.none _)
      | (with_reducible refine LeO.ite ?_ ?_)
      | (with_reducible refine LeO.bind ?_ (fun _ => ?_))
      | exact ih0 _ _ _ _ _
      | exact LeO.none _
      | refine LeO.ite ?_ ?_
      | refine LeO.bind ?_ (fun _ => ?_)
def fi_Number.f (k : Nat) (a0_0 : Int) (l0_1 : List Int) (l1 : List Int) : Option (Int × Int) := (fi_check.f k a0_0 l0_1 (([l1] : List (List Int)))).bind fun t105 => (if t105 = 0 then ((fi_size.f k a0_0 l0_1 2147483647).bind fun bt106 => (if bt106.2 = 0 then ((gFNumber.f k a0_0 l0_1 l1).bind fun t108 => (some (t108, 0))) else (some (0, bt106.2)))) else (some (0, t105)))
theorem fi_Number.mono : ∀ a0 a1 a2 k, LeO (fi_Number.f k a0 a1 a2) (fi_Number.f (k + 1) a0 a1 a2) := by
  intro a0 a1 a2 k
  unfold fi_Number.f
  repeat' first
      | (with_reducible exact fi_check.mono _ _ _ _)
      | (with_reducible exact fi_size.mono _ _ _ _)
      | (with_reducible exact gFNumber.mono _ _ _ _)
      | (with_reducible exact LeO.refl _)
      | (with_reducible exact LeO.none _)
      | (with_reducible refine LeO.ite ?_ ?_)
      | (with_reducible refine LeO.bind ?_ (fun _ => ?_))
      | exact fi_check.mono _ _ _ _
      | exact fi_size.mono _ _ _ _
      | exact gFNumber.mono _ _ _ _
      | exact LeO.none _
      | refine LeO.ite ?_ ?_
      | refine LeO.bind ?_ (fun _ => ?_)
mutual
def lw.j0 : Nat → List Int → Bool → Int → List Int → Option (Bool)
  | 0, _, _, _, _ => none
  | k + 1, x1, x33, x102000, x102001 => if x33 = true then ((l15awake.f k).bind fun t105 => (some t105)) else ((r15Size.f k x102000 x102001).bind fun t106 => ((r1FromInt.f k t106).bind fun t107 => ((fi_Pow.f k x102000 x102001 x1 t107).bind fun bt108 => ((fi_Generator.f k x102000 x102001).bind fun bt112 => (if bt108.2 = 0 then (if bt112.2 = 0 then ((r9Same.f k bt108.1 x1).bind fun t116 => (lw.j1 k x1 t106 bt112.1 (!t116) x102000 x102001)) else (lw.j1 k x1 t106 bt112.1 true x102000 x102001)) else (lw.j1 k x1 t106 bt112.1 true x102000 x102001))))))
def lw.j1 : Nat → List Int → Int → List Int → Bool → Int → List Int → Option (Bool)
  | 0, _, _, _, _, _, _ => none
  | k + 1, x1, x5, x8, x61, x102000, x102001 => if x61 = true then (none) else (if (x1.length : Int) > 0 then ((fi_Order.f k x102000 x102001 x1).bind fun bt117 => (if bt117.2 = 0 then (if bt117.1 < 1 then (lw.j2 k x1 x5 x8 bt117.1 true x102000 x102001) else (if bt117.1 > x5 then (lw.j2 k x1 x5 x8 bt117.1 true x102000 x102001) else (if bt117.1 = 0 then (none) else (lw.j2 k x1 x5 x8 bt117.1 ((Int.tmod (wrap64 (x5 - 1)) bt117.1) != 0) x102000 x102001)))) else (lw.j2 k x1 x5 x8 bt117.1 true x102000 x102001))) else (lw.j3 k x5 x8 x102000 x102001))
def lw.j3 : Nat → Int → List Int → Int → List Int → Option (Bool)
  | 0, _, _, _, _ => none
  | k + 1, x5, x8, x102000, x102001 => if 0 ≤ x5 then (if (x5 : Int).toNat ≤ 281474976710656 then (lw.l0 k x5 x8 (List.replicate (x5 : Int).toNat false) (([1] : List Int)) 1 x102000 x102001) else (none)) else (none)
def lw.l0 : Nat → Int → List Int → List Bool → List Int → Int → Int → List Int → Option (Bool)
  | 0, _, _, _, _, _, _, _ => none
  | k + 1, x5, x8, x14, x15, x16, x102000, x102001 => if x16 < x5 then ((fi_Number.f k x102000 x102001 x15).bind fun bt138 => (if bt138.2 = 0 then (if bt138.1 < 1 then (lw.j5 k x5 x8 x14 x15 x16 bt138.1 true x102000 x102001) else (if bt138.1 ≥ x5 then (lw.j5 k x5 x8 x14 x15 x16 bt138.1 true x102000 x102001) else (if 0 ≤ bt138.1 then (if bt138.1 < (x14.length : Int) then (lw.j5 k x5 x8 x14 x15 x16 bt138.1 (rdOf false x14 bt138.1) x102000 x102001) else (none)) else (none)))) else (lw.j5 k x5 x8 x14 x15 x16 bt138.1 true x102000 x102001))) else ((r9Same.f k x15 (([1] : List Int))).bind fun t137 => (some t137))
def lw.j5 : Nat → Int → List Int → List Bool → List Int → Int → Int → Bool → Int → List Int → Option (Bool)
  | 0, _, _, _, _, _, _, _, _, _ => none
  | k + 1, x5, x8, x14, x15, x16, x17, x135, x102000, x102001 => if x135 = true then (none) else (if 0 ≤ x17 then (if x17 < (x14.length : Int) then ((fi_Mul.f k x102000 x102001 x15 x8).bind fun bt142 => (if bt142.2 = 0 then (lw.l0 k x5 x8 (x14.set (x17 : Int).toNat true) bt142.1 (wrap64 (x16 + 1)) x102000 x102001) else (none))) else (none)) else (none))
def lw.j2 : Nat → List Int → Int → List Int → Int → Bool → Int → List Int → Option (Bool)
  | 0, _, _, _, _, _, _, _ => none
  | k + 1, x1, x5, x8, x10, x88, x102000, x102001 => if x88 = true then (none) else ((r1FromInt.f k x10).bind fun t119 => ((fi_Pow.f k x102000 x102001 x1 t119).bind fun bt120 => (if bt120.2 = 0 then ((r9Same.f k bt120.1 (([1] : List Int))).bind fun t127 => (if t127 = true then (lw.j3 k x5 x8 x102000 x102001) else (none))) else (none))))
end
def lw.f (k : Nat) (a0_0 : Int) (l0_1 : List Int) (l1 : List Int) : Option (Bool) := (l15awake.f k).bind fun t102 => (if t102 = true then ((r15Few.f k a0_0 l0_1 256).bind fun t103 => (if t103 = true then ((r15Member.f k a0_0 l0_1 l1).bind fun t104 => (lw.j0 k l1 (t104 != 0) a0_0 l0_1)) else (lw.j0 k l1 true a0_0 l0_1))) else (lw.j0 k l1 true a0_0 l0_1))
theorem lw.mono_l : ∀ k, (∀ y0 y1 y2 y3, LeO (lw.j0 k y0 y1 y2 y3) (lw.j0 (k + 1) y0 y1 y2 y3)) ∧ (∀ y0 y1 y2 y3 y4 y5, LeO (lw.j1 k y0 y1 y2 y3 y4 y5) (lw.j1 (k + 1) y0 y1 y2 y3 y4 y5)) ∧ (∀ y0 y1 y2 y3, LeO (lw.j3 k y0 y1 y2 y3) (lw.j3 (k + 1) y0 y1 y2 y3)) ∧ (∀ y0 y1 y2 y3 y4 y5 y6, LeO (lw.l0 k y0 y1 y2 y3 y4 y5 y6) (lw.l0 (k + 1) y0 y1 y2 y3 y4 y5 y6)) ∧ (∀ y0 y1 y2 y3 y4 y5 y6 y7 y8, LeO (lw.j5 k y0 y1 y2 y3 y4 y5 y6 y7 y8) (lw.j5 (k + 1) y0 y1 y2 y3 y4 y5 y6 y7 y8)) ∧ (∀ y0 y1 y2 y3 y4 y5 y6, LeO (lw.j2 k y0 y1 y2 y3 y4 y5 y6) (lw.j2 (k + 1) y0 y1 y2 y3 y4 y5 y6))
  | 0 => ⟨fun _ _ _ _ r h => by simp [lw.j0] at h, fun _ _ _ _ _ _ r h => by simp [lw.j1] at h, fun _ _ _ _ r h => by simp [lw.j3] at h, fun _ _ _ _ _ _ _ r h => by simp [lw.l0] at h, fun _ _ _ _ _ _ _ _ _ r h => by simp [lw.j5] at h, fun _ _ _ _ _ _ _ r h => by simp [lw.j2] at h⟩
  | k + 1 => by
    obtain ⟨ih0, ih1, ih2, ih3, ih4, ih5⟩ := lw.mono_l k
    refine ⟨?_, ?_, ?_, ?_, ?_, ?_⟩
    · intro y0 y1 y2 y3
      unfold lw.j0
      repeat' first
      | (with_reducible exact ih0 _ _ _ _)
      | (with_reducible exact ih1 _ _ _ _ _ _)
      | (with_reducible exact ih2 _ _ _ _)
      | (with_reducible exact ih3 _ _ _ _ _ _ _)
      | (with_reducible exact ih4 _ _ _ _ _ _ _ _ _)
      | (with_reducible exact ih5 _ _ _ _ _ _ _)
      | (with_reducible exact fi_Generator.mono _ _ _)
      | (with_reducible exact fi_Mul.mono _ _ _ _ _)
      | (with_reducible exact fi_Number.mono _ _ _ _)
      | (with_reducible exact fi_Order.mono _ _ _ _)
      | (with_reducible exact fi_Pow.mono _ _ _ _ _)
      | (with_reducible exact l15awake.mono _)
      | (with_reducible exact r1FromInt.mono _ _)
      | (with_reducible exact r9Same.mono _ _ _)
      | (with_reducible exact r15Few.mono _ _ _ _)
      | (with_reducible exact r15Member.mono _ _ _ _)
      | (with_reducible exact r15Size.mono _ _ _)
      | (with_reducible exact LeO.refl _)
      | (with_reducible exact LeO.none _)
      | (with_reducible refine LeO.ite ?_ ?_)
      | (with_reducible refine LeO.bind ?_ (fun _ => ?_))
      | exact ih0 _ _ _ _
      | exact ih1 _ _ _ _ _ _
      | exact ih2 _ _ _ _
      | exact ih3 _ _ _ _ _ _ _
      | exact ih4 _ _ _ _ _ _ _ _ _
      | exact ih5 _ _ _ _ _ _ _
      | exact fi_Generator.mono _ _ _
      | exact fi_Mul.mono _ _ _ _ _
      | exact fi_Number.mono _ _ _ _
      | exact fi_Order.mono _ _ _ _
      | exact fi_Pow.mono _ _ _ _ _
      | exact l15awake.mono _
      | exact r1FromInt.mono _ _
      | exact r9Same.mono _ _ _
      | exact r15Few.mono _ _ _ _
      | exact r15Member.mono _ _ _ _
      | exact r15Size.mono _ _ _
      | exact LeO.none _
      | refine LeO.ite ?_ ?_
      | refine LeO.bind ?_ (fun _ => ?_)
    · intro y0 y1 y2 y3 y4 y5
      unfold lw.j1
      repeat' first
      | (with_reducible exact ih0 _ _ _ _)
      | (with_reducible exact ih1 _ _ _ _ _ _)
      | (with_reducible exact ih2 _ _ _ _)
      | (with_reducible exact ih3 _ _ _ _ _ _ _)
      | (with_reducible exact ih4 _ _ _ _ _ _ _ _ _)
      | (with_reducible exact ih5 _ _ _ _ _ _ _)
      | (with_reducible exact fi_Generator.mono _ _ _)
      | (with_reducible exact fi_Mul.mono _ _ _ _ _)
      | (with_reducible exact fi_Number.mono _ _ _ _)
      | (with_reducible exact fi_Order.mono _ _ _ _)
      | (with_reducible exact fi_Pow.mono _ _ _ _ _)
      | (with_reducible exact l15awake.mono _)
      | (with_reducible exact r1FromInt.mono _ _)
      | (with_reducible exact r9Same.mono _ _ _)
      | (with_reducible exact r15Few.mono _ _ _ _)
      | (with_reducible exact r15Member.mono _ _ _ _)
      | (with_reducible exact r15Size.mono _ _ _)
      | (with_reducible exact LeO.refl _)
      | (with_reducible exact LeO.none _)
      | (with_reducible refine LeO.ite ?_ ?_)
      | (with_reducible refine LeO.bind ?_ (fun _ => ?_))
      | exact ih0 _ _ _ _
      | exact ih1 _ _ _ _ _ _
      | exact ih2 _ _ _ _
      | exact ih3 _ _ _ _ _ _ _
      | exact ih4 _ _ _ _ _ _ _ _ _
      | exact ih5 _ _ _ _ _ _ _
      | exact fi_Generator.mono _ _ _
      | exact fi_Mul.mono _ _ _ _ _
      | exact fi_Number.mono _ _ _ _
      | exact fi_Order.mono _ _ _ _
      | exact fi_Pow.mono _ _ _ _ _
      | exact l15awake.mono _
      | exact r1FromInt.mono _ _
      | exact r9Same.mono _ _ _
      | exact r15Few.mono _ _ _ _
      | exact r15Member.mono _ _ _ _
      | exact r15Size.mono _ _ _
      | exact LeO.none _
      | refine LeO.ite ?_ ?_
      | refine LeO.bind ?_ (fun _ => ?_)
    · intro y0 y1 y2 y3
      unfold lw.j3
      repeat' first
      | (with_reducible exact ih0 _ _ _ _)
      | (with_reducible exact ih1 _ _ _ _ _ _)
      | (with_reducible exact ih2 _ _ _ _)
      | (with_reducible exact ih3 _ _ _ _ _ _ _)
      | (with_reducible exact ih4 _ _ _ _ _ _ _ _ _)
      | (with_reducible exact ih5 _ _ _ _ _ _ _)
      | (with_reducible exact fi_Generator.mono _ _ _)
      | (with_reducible exact fi_Mul.mono _ _ _ _ _)
      | (with_reducible exact fi_Number.mono _ _ _ _)
      | (with_reducible exact fi_Order.mono _ _ _ _)
      | (with_reducible exact fi_Pow.mono _ _ _ _ _)
      | (with_reducible exact l15awake.mono _)
      | (with_reducible exact r1FromInt.mono _ _)
      | (with_reducible exact r9Same.mono _ _ _)
      | (with_reducible exact r15Few.mono _ _ _ _)
      | (with_reducible exact r15Member.mono _ _ _ _)
      | (with_reducible exact r15Size.mono _ _ _)
      | (with_reducible exact LeO.refl _)
      | (with_reducible exact LeO.none _)
      | (with_reducible refine LeO.ite ?_ ?_)
      | (with_reducible refine LeO.bind ?_ (fun _ => ?_))
      | exact ih0 _ _ _ _
      | exact ih1 _ _ _ _ _ _
      | exact ih2 _ _ _ _
      | exact ih3 _ _ _ _ _ _ _
      | exact ih4 _ _ _ _ _ _ _ _ _
      | exact ih5 _ _ _ _ _ _ _
      | exact fi_Generator.mono _ _ _
      | exact fi_Mul.mono _ _ _ _ _
      | exact fi_Number.mono _ _ _ _
      | exact fi_Order.mono _ _ _ _
      | exact fi_Pow.mono _ _ _ _ _
      | exact l15awake.mono _
      | exact r1FromInt.mono _ _
      | exact r9Same.mono _ _ _
      | exact r15Few.mono _ _ _ _
      | exact r15Member.mono _ _ _ _
      | exact r15Size.mono _ _ _
      | exact LeO.none _
      | refine LeO.ite ?_ ?_
      | refine LeO.bind ?_ (fun _ => ?_)
    · intro y0 y1 y2 y3 y4 y5 y6
      unfold lw.l0
      repeat' first
      | (with_reducible exact ih0 _ _ _ _)
      | (with_reducible exact ih1 _ _ _ _ _ _)
      | (with_reducible exact ih2 _ _ _ _)
      | (with_reducible exact ih3 _ _ _ _ _ _ _)
      | (with_reducible exact ih4 _ _ _ _ _ _ _ _ _)
      | (with_reducible exact ih5 _ _ _ _ _ _ _)
      | (with_reducible exact fi_Generator.mono _ _ _)
      | (with_reducible exact fi_Mul.mono _ _ _ _ _)
      | (with_reducible exact fi_Number.mono _ _ _ _)
      | (with_reducible exact fi_Order.mono _ _ _ _)
      | (with_reducible exact fi_Pow.mono _ _ _ _ _)
      | (with_reducible exact l15awake.mono _)
      | (with_reducible exact r1FromInt.mono _ _)
      | (with_reducible exact r9Same.mono _ _ _)
      | (with_reducible exact r15Few.mono _ _ _ _)
      | (with_reducible exact r15Member.mono _ _ _ _)
      | (with_reducible exact r15Size.mono _ _ _)
      | (with_reducible exact LeO.refl _)
      | (with_reducible exact LeO.none _)
      | (with_reducible refine LeO.ite ?_ ?_)
      | (with_reducible refine LeO.bind ?_ (fun _ => ?_))
      | exact ih0 _ _ _ _
      | exact ih1 _ _ _ _ _ _
      | exact ih2 _ _ _ _
      | exact ih3 _ _ _ _ _ _ _
      | exact ih4 _ _ _ _ _ _ _ _ _
      | exact ih5 _ _ _ _ _ _ _
      | exact fi_Generator.mono _ _ _
      | exact fi_Mul.mono _ _ _ _ _
      | exact fi_Number.mono _ _ _ _
      | exact fi_Order.mono _ _ _ _
      | exact fi_Pow.mono _ _ _ _ _
      | exact l15awake.mono _
      | exact r1FromInt.mono _ _
      | exact r9Same.mono _ _ _
      | exact r15Few.mono _ _ _ _
      | exact r15Member.mono _ _ _ _
      | exact r15Size.mono _ _ _
      | exact LeO.none _
      | refine LeO.ite ?_ ?_
      | refine LeO.bind ?_ (fun _ => ?_)
    · intro y0 y1 y2 y3 y4 y5 y6 y7 y8
      unfold lw.j5
      repeat' first
      | (with_reducible exact ih0 _ _ _ _)
      | (with_reducible exact ih1 _ _ _ _ _ _)
      | (with_reducible exact ih2 _ _ _ _)
      | (with_reducible exact ih3 _ _ _ _ _ _ _)
      | (with_reducible exact ih4 _ _ _ _ _ _ _ _ _)
      | (with_reducible exact ih5 _ _ _ _ _ _ _)
      | (with_reducible exact fi_Generator.mono _ _ _)
      | (with_reducible exact fi_Mul.mono _ _ _ _ _)
      | (with_reducible exact fi_Number.mono _ _ _ _)
      | (with_reducible exact fi_Order.mono _ _ _ _)
      | (with_reducible exact fi_Pow.mono _ _ _ _ _)
      | (with_reducible exact l15awake.mono _)
      | (with_reducible exact r1FromInt.mono _ _)
      | (with_reducible exact r9Same.mono _ _ _)
      | (with_reducible exact r15Few.mono _ _ _ _)
      | (with_reducible exact r15Member.mono _ _ _ _)
      | (with_reducible exact r15Size.mono _ _ _)
      | (with_reducible exact LeO.refl _)
      | (with_reducible exact LeO.none _)
      | (with_reducible refine LeO.ite ?_ ?_)
      | (with_reducible refine LeO.bind ?_ (fun _ => ?_))
      | exact ih0 _ _ _ _
      | exact ih1 _ _ _ _ _ _
      | exact ih2 _ _ _ _
      | exact ih3 _ _ _ _ _ _ _
      | exact ih4 _ _ _ _ _ _ _ _ _
      | exact ih5 _ _ _ _ _ _ _
      | exact fi_Generator.mono _ _ _
      | exact fi_Mul.mono _ _ _ _ _
      | exact fi_Number.mono _ _ _ _
      | exact fi_Order.mono _ _ _ _
      | exact fi_Pow.mono _ _ _ _ _
      | exact l15awake.mono _
      | exact r1FromInt.mono _ _
      | exact r9Same.mono _ _ _
      | exact r15Few.mono _ _ _ _
      | exact r15Member.mono _ _ _ _
      | exact r15Size.mono _ _ _
      | exact LeO.none _
      | refine LeO.ite ?_ ?_
      | refine LeO.bind ?_ (fun _ => ?_)
    · intro y0 y1 y2 y3 y4 y5 y6
      unfold lw.j2
      repeat' first
      | (with_reducible exact ih0 _ _ _ _)
      | (with_reducible exact ih1 _ _ _ _ _ _)
      | (with_reducible exact ih2 _ _ _ _)
      | (with_reducible exact ih3 _ _ _ _ _ _ _)
      | (with_reducible exact ih4 _ _ _ _ _ _ _ _ _)
      | (with_reducible exact ih5 _ _ _ _ _ _ _)
      | (with_reducible exact fi_Generator.mono _ _ _)
      | (with_reducible exact fi_Mul.mono _ _ _ _ _)
      | (with_reducible exact fi_Number.mono _ _ _ _)
      | (with_reducible exact fi_Order.mono _ _ _ _)
      | (with_reducible exact fi_Pow.mono _ _ _ _ _)
      | (with_reducible exact l15awake.mono _)
      | (with_reducible exact r1FromInt.mono _ _)
      | (with_reducible exact r9Same.mono _ _ _)
      | (with_reducible exact r15Few.mono _ _ _ _)
      | (with_reducible exact r15Member.mono _ _ _ _)
      | (with_reducible exact r15Size.mono _ _ _)
      | (with_reducible exact LeO.refl _)
      | (with_reducible exact LeO.none _)
      | (with_reducible refine LeO.ite ?_ ?_)
      | (with_reducible refine LeO.bind ?_ (fun _ => ?_))
      | exact ih0 _ _ _ _
      | exact ih1 _ _ _ _ _ _
      | exact ih2 _ _ _ _
      | exact ih3 _ _ _ _ _ _ _
      | exact ih4 _ _ _ _ _ _ _ _ _
      | exact ih5 _ _ _ _ _ _ _
      | exact fi_Generator.mono _ _ _
      | exact fi_Mul.mono _ _ _ _ _
      | exact fi_Number.mono _ _ _ _
      | exact fi_Order.mono _ _ _ _
      | exact fi_Pow.mono _ _ _ _ _
      | exact l15awake.mono _
      | exact r1FromInt.mono _ _
      | exact r9Same.mono _ _ _
      | exact r15Few.mono _ _ _ _
      | exact r15Member.mono _ _ _ _
      | exact r15Size.mono _ _ _
      | exact LeO.none _
      | refine LeO.ite ?_ ?_
      | refine LeO.bind ?_ (fun _ => ?_)
theorem lw.mono : ∀ a0 a1 a2 k, LeO (lw.f k a0 a1 a2) (lw.f (k + 1) a0 a1 a2) := by
  intro a0 a1 a2 k
  obtain ⟨ih0, ih1, ih2, ih3, ih4, ih5⟩ := lw.mono_l k
  unfold lw.f
  repeat' first
      | (with_reducible exact ih0 _ _ _ _)
      | (with_reducible exact ih1 _ _ _ _ _ _)
      | (with_reducible exact ih2 _ _ _ _)
      | (with_reducible exact ih3 _ _ _ _ _ _ _)
      | (with_reducible exact ih4 _ _ _ _ _ _ _ _ _)
      | (with_reducible exact ih5 _ _ _ _ _ _ _)
      | (with_reducible exact fi_Generator.mono _ _ _)
      | (with_reducible exact fi_Mul.mono _ _ _ _ _)
      | (with_reducible exact fi_Number.mono _ _ _ _)
      | (with_reducible exact fi_Order.mono _ _ _ _)
      | (with_reducible exact fi_Pow.mono _ _ _ _ _)
      | (with_reducible exact l15awake.mono _)
      | (with_reducible exact r1FromInt.mono _ _)
      | (with_reducible exact r9Same.mono _ _ _)
      | (with_reducible exact r15Few.mono _ _ _ _)
      | (with_reducible exact r15Member.mono _ _ _ _)
      | (with_reducible exact r15Size.mono _ _ _)
      | (with_reducible exact LeO.refl _)
      | (with_reducible exact LeO.none _)
      | (with_reducible refine LeO.ite ?_ ?_)
      | (with_reducible refine LeO.bind ?_ (fun _ => ?_))
      | exact ih0 _ _ _ _
      | exact ih1 _ _ _ _ _ _
      | exact ih2 _ _ _ _
      | exact ih3 _ _ _ _ _ _ _
      | exact ih4 _ _ _ _ _ _ _ _ _
      | exact ih5 _ _ _ _ _ _ _
      | exact fi_Generator.mono _ _ _
      | exact fi_Mul.mono _ _ _ _ _
      | exact fi_Number.mono _ _ _ _
      | exact fi_Order.mono _ _ _ _
      | exact fi_Pow.mono _ _ _ _ _
      | exact l15awake.mono _
      | exact r1FromInt.mono _ _
      | exact r9Same.mono _ _ _
      | exact r15Few.mono _ _ _ _
      | exact r15Member.mono _ _ _ _
      | exact r15Size.mono _ _ _
      | exact LeO.none _
      | refine LeO.ite ?_ ?_
      | refine LeO.bind ?_ (fun _ => ?_)
def lw.Pure : Prop := ∀ (a0_0 : Int) (l0_1 : List Int) (l1 : List Int), (Lit.int .i64 a0_0).wf = true → l0_1.length ≤ maxLen → l0_1.length * 8 ≤ 140737488351232 → (∀ x ∈ l0_1, (Lit.int .i64 x).wf = true) → l1.length ≤ maxLen → l1.length * 8 ≤ 140737488351232 → (∀ x ∈ l1, (Lit.int .i64 x).wf = true) → ∃ k, lw.f k a0_0 l0_1 l1 = some true
end Go.Proofs.Ytalnaafmonmlmaa.Q
end

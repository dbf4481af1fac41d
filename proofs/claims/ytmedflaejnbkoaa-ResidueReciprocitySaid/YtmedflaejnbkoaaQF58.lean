/- Machine side: a program of the session wrote this text (the kit's print.py and the session's own contracts). Conditions: none of its own. -/
import Derived.Test.YtmedflaejnbkoaaQ0
namespace Go.Proofs.Ytmedflaejnbkoaa.Q
open Go.RowKit Go.Proofs.YtmedflaejnbkoaaW.PrintWords Go.Proofs.YtmedflaejnbkoaaW.PrintLast Go.Proofs.YtmedflaejnbkoaaW.PrintMore
attribute [local go_sem] max2_int min2_int max_two min_two max_three min_three max_four min_four   -- for this text's walks alone
set_option linter.unusedVariables false
set_option linter.unusedSimpArgs false

/-! ### residue_factor: function 58 -/
/-- The two captured variables of the closure in factor: n lies in block Bn, out in block Bo. -/
def TInv (w0 w : World) (Bn Bo : Nat) (n : Int) (xs : List S53) : Prop :=
  w0.heap.size ≤ Bn ∧ w0.heap.size ≤ Bo ∧ w.heap[Bn]? = some (.cells #[.int .i64 n] 3 (0, 0)) ∧ (∃ v, w.heap[Bo]? = some (.cells #[v] 49 (0, 0)) ∧ Kd.R k53 53 w w0.heap.size (fun _ => True) v xs) ∧ Below w0.heap.size w0 w

theorem TInv.drewN {w0 w : World} {Bn Bo : Nat} {n : Int} {xs : List S53} (h : TInv w0 w Bn Bo n xs) (m : Nat) : TInv w0 (w.drewN m) Bn Bo n xs := by
  obtain ⟨h1, h2, h3, ⟨v, h4, h5⟩, h6⟩ := h
  exact ⟨h1, h2, h3, ⟨v, h4, Kd.R_drewN h5 m⟩, pw_below_drewN h6 m⟩
theorem TInv.ne {w0 w : World} {Bn Bo : Nat} {n : Int} {xs : List S53} (h : TInv w0 w Bn Bo n xs) : Bo ≠ Bn := by
  obtain ⟨h1, h2, h3, ⟨v, h4, h5⟩, h6⟩ := h
  rintro rfl
  rw [h3] at h4
  injection h4 with h4
  injection h4 with _ h4
  exact absurd h4 (by decide)
theorem TInv.setN {w0 w : World} {Bn Bo : Nat} {n : Int} {xs : List S53} (h : TInv w0 w Bn Bo n xs) (m : Int) : TInv w0 (w.setCell ⟨Bn, 0, none⟩ (.int .i64 m)) Bn Bo m xs := by
  have hne := h.ne
  obtain ⟨h1, h2, h3, ⟨v, h4, h5⟩, h6⟩ := h
  exact ⟨h1, h2, one_setCell h3, ⟨v, by rw [Below.heap_setCell _ _ _ _ hne]; exact h4, Kd.R_set h5 h3 (by intro q hq; simp [k53, Kd.iso, Kd.pair, Kd.int, Kd.scalar] at hq; omega) 0 _⟩, h6.setCell h1 _⟩
theorem TInv.append {w0 w w1 : World} {Bn Bo : Nat} {n : Int} {xs ys : List S53} {v v1 : Value} (h1 : w0.heap.size ≤ Bn) (h2 : w0.heap.size ≤ Bo) (h3 : w.heap[Bn]? = some (.cells #[.int .i64 n] 3 (0, 0))) (h4 : w.heap[Bo]? = some (.cells #[v] 49 (0, 0))) (h5 : Kd.R k53 53 w w0.heap.size (fun _ => True) v xs)
    (ho : Kd.R k53 53 w1 w0.heap.size (fun _ => True) v1 ys) (hb : Below w0.heap.size w0 w1) (hg : w.grownBy w1 v.ownBlock) :
    w1.heap[Bo]? = some (.cells #[v] 49 (0, 0)) ∧ TInv w0 (w1.setCell ⟨Bo, 0, none⟩ v1) Bn Bo n ys := by
  have hne : Bo ≠ Bn := by
    rintro rfl
    rw [h3] at h4
    injection h4 with h4
    injection h4 with _ h4
    exact absurd h4 (by decide)
  have e1 : w1.heap[Bn]? = some (.cells #[.int .i64 n] 3 (0, 0)) := (hg.block Bn (lt_of_block h3) (Kd.R_ne h5 h3 (by decide))).trans h3
  have e2 : w1.heap[Bo]? = some (.cells #[v] 49 (0, 0)) := (hg.block Bo (lt_of_block h4) (Kd.R_ne h5 h4 (by decide))).trans h4
  exact ⟨e2, h1, h2, by rw [Below.heap_setCell _ _ _ _ (fun e => hne e.symm)]; exact e1, ⟨v1, one_setCell e2, Kd.R_set ho e2 (by intro q hq; simp [k53, Kd.iso, Kd.pair, Kd.int, Kd.scalar] at hq; omega) 0 _⟩, hb.setCell h2 _⟩

def tryL : Nat → Int → Int → Int → Option (Int × Int)
  | 0, _, _, _ => none
  | k + 1, d, n, c => if d = 0 then none else if Int.tmod n d = 0 then tryL k d (wrap64 (Int.tdiv n d)) (wrap64 (c + 1)) else some (n, c)
def tryF (k : Nat) (d n : Int) (xs : List S53) : Option (Int × List S53) := (tryL k d n 0).bind fun r => if r.2 > 0 then (if xs.length < 8796093022208 then some (r.1, xs ++ [⟨d, r.2⟩]) else none) else some (r.1, xs)

set_option maxHeartbeats 8000000 in
set_option maxRecDepth 100000 in
theorem try_calls (k : Nat) (d n n' : Int) (xs xs' : List S53) (Bn Bo : Nat) (w0 w : World) (hI : TInv w0 w Bn Bo n xs) (h : tryF k d n xs = some (n', xs')) :
    Calls Try.prog 79 #[.int .i64 d, .pointer (some ⟨Bn, 0, none⟩), .pointer (some ⟨Bo, 0, none⟩)] w fun e w' => e = .returned (.tuple #[]) ∧ TInv w0 w' Bn Bo n' xs' := by
  have hu53 := Try.underlying53
  obtain ⟨⟨m, cnt⟩, hL, hE⟩ := Option.bind_eq_some_iff.mp h
  clear h
  have HL := Aside0.mk hL
  have HE := Aside0.mk hE
  have HI := Aside0.mk hI
  clear hL hE hI
  go_enter Try.func79, Try.ntmps79
  go_wp2
  repeat (go_quiet (fail); try go_wp2)
  go_loopg [4] k (fun kq v4 w' => ∃ (c n1 : Int), v4 = .int .i64 c ∧ Aside0 (tryL kq d n1 c = some (m, cnt)) ∧ Aside0 (TInv w0 w' Bn Bo n1 xs))
  case atStart => exact ⟨0, n, (by first | rfl | (simp; done) | (simp [*]; done)), HL, ⟨by (with_reducible repeat (first | exact HI.out | apply TInv.drewN))⟩⟩
  case round =>
    clear HL HI
    obtain ⟨c, n1, rfl, HA, HI⟩ := hrel
    cases gk with
    | zero => exact absurd HA.out (by simp [tryL])
    | succ k1 =>
      have H := HA.out
      clear HA
      simp only [tryL] at H
      have hcell := cell_of_one HI.out.2.2.1
      have hfree := free_of_one HI.out.2.2.1
      by_cases c1 : d = 0
      · rw [if_pos c1] at H; cases H
      · rw [if_neg c1] at H
        have c1b0 : (d == 0) = false := beq_eq_false_iff_ne.mpr c1
        have c1b1 : (d != 0) = true := bne_iff_ne.mpr c1
        by_cases c2 : Int.tmod n1 d = 0
        · rw [if_pos c2] at H
          have c2b0 : (Int.tmod n1 d == 0) = true := beq_iff_eq.mpr c2
          have c2b1 : (Int.tmod n1 d != 0) = false := bne_eq_false_iff_eq.mpr c2
          clear c2
          have H' := Aside0.mk H
          clear H
          go_wp2
          repeat (go_quiet (fail); try go_wp2)
          go_roundg k1
          case measure => omega
          case rel => exact ⟨(wrap64 (c + 1)), (wrap64 (Int.tdiv n1 d)), (by first | rfl | (simp; done) | (simp [*]; done)), H', ⟨by (with_reducible repeat (first | exact HI.out | apply TInv.drewN | apply TInv.setN))⟩⟩
        · rw [if_neg c2] at H
          have c2b0 : (Int.tmod n1 d == 0) = false := beq_eq_false_iff_ne.mpr c2
          have c2b1 : (Int.tmod n1 d != 0) = true := bne_iff_ne.mpr c2
          clear c2
          obtain ⟨rfl, rfl⟩ : n1 = m ∧ c = cnt := by injection H with H; injection H with H1 H2; exact ⟨H1, H2⟩
          clear H
          have HE2 := HE.out
          clear HE
          obtain ⟨h1, h2, h3, ⟨v, h4, h5⟩, h6⟩ := HI.out
          have hcell2 := cell_of_one h4
          have hfree2 := free_of_one h4
          have hso := h6.size
          by_cases c3 : c > 0
          · rw [if_pos c3] at HE2
            have c3b0 : decide (0 < c) = true := decide_eq_true c3
            clear c3
            by_cases c4 : xs.length < 8796093022208
            · rw [if_pos c4] at HE2
              obtain ⟨rfl, rfl⟩ : n1 = n' ∧ xs ++ [⟨d, c⟩] = xs' := by injection HE2 with H; injection H with H1 H2; exact ⟨H1, H2⟩
              clear HE2
              have LM := Aside0.mk c4
              have H3 := Aside0.mk h3
              have H4 := Aside0.mk h4
              have H5 := Aside0.mk h5
              have H6 := Aside0.mk h6
              have H1 := Aside0.mk h1
              have H2 := Aside0.mk h2
              clear c4 h3 h4 h5 h6 h1 h2 HI hso
              go_wp2_with (first | ((with_reducible refine gate_builtin (b := .append) (xs := #[.tmp 16, .tmp 20]) rfl ?_); at_builtin; refine Kd.R_append k53 (w0 := w0) w0.heap.size rfl (.tmp 16) (.tmp 20) 49 53 (.agg #[(.int .i64 0), (.int .i64 0)]) 16 rfl Try.underlying49 info53 rfl (by decide) (by omega) v xs (⟨d, c⟩ : S53) [.int .i64 d, .int .i64 c] (fun _ => True) (fun _ => False) rfl rfl ?aP (fun _ hk => hk.elim) ?aF ?aO ?aB ?aS ?aL ?_; (case aP => exact k53_mkM _ _ _ (⟨d, c⟩ : S53)); (case aB => exact H6.out); (case aF => exact (fun _ _ => trivial)); (case aO => exact H5.out); (case aS => exact H6.out.size); (case aL => have := LM.out; omega); intro v255 w9 ho hb hg hat; obtain ⟨A1, cc1, rfl⟩ := Kd.R_slice ho; obtain ⟨he2, hT⟩ := TInv.append H1.out H2.out H3.out H4.out H5.out ho hb hg; have HT := Aside0.mk hT; clear hT ho hb hg hat; have hcell9 := cell_of_one he2; have hfree9 := free_of_one he2; clear he2))
              go_end0
              have HT2 := HT.out
              rw [List.length_append, List.length_singleton] at HT2
              exact ⟨rfl, HT2⟩
            · rw [if_neg c4] at HE2; cases HE2
          · rw [if_neg c3] at HE2
            have c3b0 : decide (0 < c) = false := decide_eq_false c3
            obtain ⟨rfl, rfl⟩ : n1 = n' ∧ xs = xs' := by injection HE2 with H; injection H with H1 H2; exact ⟨H1, H2⟩
            clear HE2
            clear c3 h1 h2 h3 h4 h5 h6
            go_wp2
            repeat (go_quiet (fail); try go_wp2)
            go_end0
            exact ⟨rfl, by (with_reducible repeat (first | exact HI.out | apply TInv.drewN))⟩

def residue_factor.l0 (kk : Nat) : Nat → Int → List S53 → Int → Option (List S53)
  | 0, _, _, _ => none
  | k + 1, n, xs, d => if wrap64 (d * d) ≤ n then (tryF kk d n xs).bind fun r => residue_factor.l0 kk k r.1 r.2 (wrap64 (d + 2)) else if n > 1 then (tryF kk n n xs).bind fun r => some r.2 else some xs
def residue_factor.f (k : Nat) (a0 : Int) : Option (List S53) := (tryF k 2 a0 []).bind fun r => residue_factor.l0 k k r.1 r.2 3
theorem tryL_mono : ∀ k d n c, LeO (tryL k d n c) (tryL (k + 1) d n c)
  | 0 => fun _ _ _ r h => by simp [tryL] at h
  | k + 1 => by
    intro d n c
    have ih0 := tryL_mono k
    unfold tryL
    repeat' first
      | (with_reducible exact ih0 _ _ _)
      | (with_reducible exact LeO.refl _)
      | (with_reducible refine LeO.ite ?_ ?_)
theorem tryF_mono (k : Nat) (d n : Int) (xs : List S53) : LeO (tryF k d n xs) (tryF (k + 1) d n xs) := LeO.bind (tryL_mono k d n 0) (fun _ => LeO.refl _)
theorem residue_factor.mono_l (kk : Nat) : ∀ k n xs d, LeO (residue_factor.l0 kk k n xs d) (residue_factor.l0 (kk + 1) (k + 1) n xs d)
  | 0 => fun _ _ _ r h => by simp [residue_factor.l0] at h
  | k + 1 => by
    intro n xs d
    have ih0 := residue_factor.mono_l kk k
    have ih1 := tryF_mono kk
    unfold residue_factor.l0
    repeat' first
      | (with_reducible exact ih0 _ _ _)
      | (with_reducible exact ih1 _ _ _)
      | (with_reducible exact LeO.refl _)
      | (with_reducible refine LeO.ite ?_ ?_)
      | (with_reducible refine LeO.bind ?_ (fun _ => ?_))
theorem residue_factor.mono (a0 : Int) (k : Nat) : LeO (residue_factor.f k a0) (residue_factor.f (k + 1) a0) := LeO.bind (tryF_mono k 2 a0 []) (fun _ => residue_factor.mono_l k k _ _ _)

set_option maxHeartbeats 8000000 in
set_option maxRecDepth 100000 in
theorem residue_factor.calls (k : Nat) (a0 : Int) (r : List S53) (w : World) (h : residue_factor.f k a0 = some r) :
    Calls Try.prog 58 #[.int .i64 a0] w fun e w' => ∃ v0_ : Value, e = .returned (v0_) ∧ Kd.R k53 53 w' w.heap.size (fun _ => True) v0_ r ∧ Below w.heap.size w w' := by
  have hu53 := Try.underlying53
  obtain ⟨⟨n1, xs1⟩, hF, hL⟩ := Option.bind_eq_some_iff.mp h
  clear h
  have HF := Aside0.mk hF
  have HL := Aside0.mk hL
  clear hF hL
  have hmf : ∀ (fn : Fn) (first cap : Array Value) (w : World), (Instr.makeFunc fn first cap).run Try.prog w = .ok (.func fn first cap) w := fun _ _ _ _ => rfl
  have hI0 : Aside0 (TInv w ((w.alloc (Obj.cells #[Value.int IntKind.i64 a0] 3)).alloc (Obj.cells #[Value.slice none 0 0] 49)) w.heap.size (w.heap.size + 1) a0 []) := by
    refine ⟨Nat.le_refl _, Nat.le_succ _, ?_, ⟨.slice none 0 0, ?_, Kd.R_nil _ _ _ _ _⟩, below_alloc (below_alloc (Below.refl _ _) _) _⟩
    · rw [Below.heap_alloc _ _ _ (by simp)]; exact heap_alloc_new w _
    · have := heap_alloc_new (w.alloc (Obj.cells #[Value.int IntKind.i64 a0] 3)) (Obj.cells #[Value.slice none 0 0] 49)
      simpa using this
  go_enter Try.func58, Try.ntmps58
  go_wp2_with (first | (go_at_call 79; refine (try_calls k 2 a0 n1 [] xs1 w.heap.size (w.heap.size + 1) w _ hI0.out HF.out).mono ?_; rintro e w1 ⟨rfl, hT⟩; have HT := Aside0.mk hT; clear hT))
  clear hI0 HF
  go_loopg [5] k (fun kq v5 w' => ∃ (n : Int) (xs : List S53) (d : Int), v5 = .int .i64 d ∧ Aside0 (residue_factor.l0 k kq n xs d = some r) ∧ Aside0 (TInv w w' w.heap.size (w.heap.size + 1) n xs))
  case atStart => exact ⟨n1, xs1, 3, (by first | rfl | (simp; done) | (simp [*]; done)), HL, HT⟩
  case round =>
    clear HL HT
    obtain ⟨n, xs, d, rfl, HA, HI⟩ := hrel
    cases gk with
    | zero => exact absurd HA.out (by simp [residue_factor.l0])
    | succ k1 =>
      have H := HA.out
      clear HA
      simp only [residue_factor.l0] at H
      have hcell := cell_of_one HI.out.2.2.1
      by_cases c1 : wrap64 (d * d) ≤ n
      · rw [if_pos c1] at H
        obtain ⟨⟨n2, xs2⟩, hF2, hL2⟩ := Option.bind_eq_some_iff.mp H
        have HF2 := Aside0.mk hF2
        have H' := Aside0.mk hL2
        clear H hF2 hL2
        have c1b0 : decide (wrap64 (d * d) ≤ n) = true := decide_eq_true c1
        clear c1
        go_wp2_with (first | (go_at_call 79; refine (try_calls k d n n2 xs xs2 w.heap.size (w.heap.size + 1) w _ (by (with_reducible repeat (first | exact HI.out | apply TInv.drewN))) HF2.out).mono ?_; rintro e w1 ⟨rfl, hT⟩; have HT := Aside0.mk hT; clear hT))
        go_roundg k1
        case measure => omega
        case rel => exact ⟨n2, xs2, (wrap64 (d + 2)), (by first | rfl | (simp; done) | (simp [*]; done)), H', HT⟩
      · rw [if_neg c1] at H
        have c1b0 : decide (wrap64 (d * d) ≤ n) = false := decide_eq_false c1
        clear c1
        by_cases c2 : n > 1
        · rw [if_pos c2] at H
          obtain ⟨⟨n2, xs2⟩, hF2, hL2⟩ := Option.bind_eq_some_iff.mp H
          obtain rfl := Option.some.inj hL2
          have HF2 := Aside0.mk hF2
          clear H hF2 hL2
          have c2b0 : decide (1 < n) = true := decide_eq_true c2
          clear c2
          go_wp2_with (first | (go_at_call 79; refine (try_calls k n n n2 xs xs2 w.heap.size (w.heap.size + 1) w _ (by (with_reducible repeat (first | exact HI.out | apply TInv.drewN))) HF2.out).mono ?_; rintro e w1 ⟨rfl, hT⟩; obtain ⟨h1, h2, h3, ⟨v, h4, h5⟩, h6⟩ := hT; obtain ⟨A1, cc1, rfl⟩ := Kd.R_slice h5; have HR := Aside0.mk h5; have HB := Aside0.mk h6; have hcell2 := cell_of_one h4; clear h1 h2 h3 h4 h5 h6))
          go_ret
          exact ⟨_, rfl, HR.out, HB.out⟩
        · rw [if_neg c2] at H
          obtain rfl := Option.some.inj H
          clear H
          have c2b0 : decide (1 < n) = false := decide_eq_false c2
          clear c2
          obtain ⟨h1, h2, h3, ⟨v, h4, h5⟩, h6⟩ := HI.out
          obtain ⟨A1, cc1, rfl⟩ := Kd.R_slice h5
          have HR := Aside0.mk h5
          have HB := Aside0.mk h6
          have hcell2 := cell_of_one h4
          clear h1 h2 h3 h4 h5 h6
          go_wp2
          go_ret
          exact ⟨_, rfl, HR.out, HB.out⟩

end Go.Proofs.Ytmedflaejnbkoaa.Q

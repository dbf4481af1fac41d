/- Machine side: a program of the session wrote this text (the kit's print.py and the session's own contracts). Conditions: none of its own. -/
import Derived.Test.YtmedflaejnbkoaaQ0
import Derived.Test.YtmedflaejnbkoaaQG2
import Derived.Test.YtmedflaejnbkoaaQF15
import Derived.Test.YtmedflaejnbkoaaQF18
import Derived.Test.YtmedflaejnbkoaaQF20
import Derived.Test.YtmedflaejnbkoaaQF35
import Derived.Test.YtmedflaejnbkoaaQF33
import Derived.Test.YtmedflaejnbkoaaQF34
import Derived.Test.YtmedflaejnbkoaaQF36
namespace Go.Proofs.Ytmedflaejnbkoaa.Q
open Go.RowKit Go.Proofs.YtmedflaejnbkoaaW.PrintWords Go.Proofs.YtmedflaejnbkoaaW.PrintLast Go.Proofs.YtmedflaejnbkoaaW.PrintMore
attribute [local go_sem] max2_int min2_int max_two min_two max_three min_three max_four min_four   -- for this text's walks alone
set_option linter.unusedVariables false
set_option linter.unusedSimpArgs false

/-! ### galoislaw04_ResiduePowers: function 8 -/
def galoislaw04_ResiduePowers.j0 : Nat → Int → Int → Int → Int → Option (Bool)
  | 0, _, _, _, _ => none
  | k + 1, x0, x2, x9, x10 => (galoisref04_Coprime.f k x0 x2).bind fun t112 => (if t112 = true then ((galoisref04_Inverse.f k x0 x2).bind fun t113 => ((galoislaw04_is.f x9 x10 t113 0).bind fun t114 => (some t114))) else ((galoislaw04_is.f x9 x10 0 6).bind fun t115 => (some t115)))
def galoislaw04_ResiduePowers.f (k : Nat) (a0 : Int) (a1 : Int) (a2 : Int) : Option (Bool) := (galoislaw04_awake.f k).bind fun t101 => (if t101 = true then ((residue_Pow.f k a0 a1 a2).bind fun bt102 => ((residue_Inverse.f k a0 a2).bind fun bt104 => ((galoisref04_IsModulus.f a2).bind fun t106 => (if t106 = true then (if a1 < 0 then ((galoislaw04_is.f bt102.1 bt102.2 0 3).bind fun t109 => (if t109 = true then (galoislaw04_ResiduePowers.j0 k a0 a2 bt104.1 bt104.2) else (none))) else ((galoisref04_Pow.f k a0 a1 a2).bind fun t110 => ((galoislaw04_is.f bt102.1 bt102.2 t110 0).bind fun t111 => (if t111 = true then (galoislaw04_ResiduePowers.j0 k a0 a2 bt104.1 bt104.2) else (none))))) else ((galoislaw04_is.f bt102.1 bt102.2 0 3).bind fun t107 => (if t107 = true then ((galoislaw04_is.f bt104.1 bt104.2 0 3).bind fun t108 => (some t108)) else (none))))))) else (none))
theorem galoislaw04_ResiduePowers.mono_l : ∀ k, (∀ y0 y1 y2 y3, LeO (galoislaw04_ResiduePowers.j0 k y0 y1 y2 y3) (galoislaw04_ResiduePowers.j0 (k + 1) y0 y1 y2 y3))
  | 0 => fun _ _ _ _ r h => by simp [galoislaw04_ResiduePowers.j0] at h
  | k + 1 => by
    have ih0 := galoislaw04_ResiduePowers.mono_l k
    · intro y0 y1 y2 y3
      unfold galoislaw04_ResiduePowers.j0
      repeat' first
      | (with_reducible exact ih0 _ _ _ _)
      | (with_reducible exact galoislaw04_awake.mono _)
      | (with_reducible exact galoisref04_Coprime.mono _ _ _)
      | (with_reducible exact galoisref04_Inverse.mono _ _ _)
      | (with_reducible exact galoisref04_Pow.mono _ _ _ _)
      | (with_reducible exact residue_Inverse.mono _ _ _)
      | (with_reducible exact residue_Pow.mono _ _ _ _)
      | (with_reducible exact LeO.refl _)
      | (with_reducible exact LeO.none _)
      | (with_reducible refine LeO.ite ?_ ?_)
      | (with_reducible refine LeO.bind ?_ (fun _ => ?_))
      | exact ih0 _ _ _ _
      | exact galoislaw04_awake.mono _
      | exact galoisref04_Coprime.mono _ _ _
      | exact galoisref04_Inverse.mono _ _ _
      | exact galoisref04_Pow.mono _ _ _ _
      | exact residue_Inverse.mono _ _ _
      | exact residue_Pow.mono _ _ _ _
      | exact LeO.none _
      | refine LeO.ite ?_ ?_
      | refine LeO.bind ?_ (fun _ => ?_)
theorem galoislaw04_ResiduePowers.mono : ∀ a0 a1 a2 k, LeO (galoislaw04_ResiduePowers.f k a0 a1 a2) (galoislaw04_ResiduePowers.f (k + 1) a0 a1 a2) := by
  intro a0 a1 a2 k
  have ih0 := galoislaw04_ResiduePowers.mono_l k
  unfold galoislaw04_ResiduePowers.f
  repeat' first
      | (with_reducible exact ih0 _ _ _ _)
      | (with_reducible exact galoislaw04_awake.mono _)
      | (with_reducible exact galoisref04_Coprime.mono _ _ _)
      | (with_reducible exact galoisref04_Inverse.mono _ _ _)
      | (with_reducible exact galoisref04_Pow.mono _ _ _ _)
      | (with_reducible exact residue_Inverse.mono _ _ _)
      | (with_reducible exact residue_Pow.mono _ _ _ _)
      | (with_reducible exact LeO.refl _)
      | (with_reducible exact LeO.none _)
      | (with_reducible refine LeO.ite ?_ ?_)
      | (with_reducible refine LeO.bind ?_ (fun _ => ?_))
      | exact ih0 _ _ _ _
      | exact galoislaw04_awake.mono _
      | exact galoisref04_Coprime.mono _ _ _
      | exact galoisref04_Inverse.mono _ _ _
      | exact galoisref04_Pow.mono _ _ _ _
      | exact residue_Inverse.mono _ _ _
      | exact residue_Pow.mono _ _ _ _
      | exact LeO.none _
      | refine LeO.ite ?_ ?_
      | refine LeO.bind ?_ (fun _ => ?_)
set_option maxHeartbeats 8000000 in
set_option maxRecDepth 100000 in
theorem galoislaw04_ResiduePowers.calls (k : Nat) (a0 : Int) (a1 : Int) (a2 : Int) (r : Bool) (w : World) (h : galoislaw04_ResiduePowers.f k a0 a1 a2 = some r) :
    Calls Try.prog 8 #[.int .i64 a0, .int .i64 a1, .int .i64 a2] w fun e w' => e = .returned (.bool r) ∧ Below w.heap.size w w' := by
  have HB := Aside0.mk (Below.refl w.heap.size w)
  have H : ((galoislaw04_awake.f k).bind fun t101 => (if t101 = true then ((residue_Pow.f k a0 a1 a2).bind fun bt102 => ((residue_Inverse.f k a0 a2).bind fun bt104 => ((galoisref04_IsModulus.f a2).bind fun t106 => (if t106 = true then (if a1 < 0 then ((galoislaw04_is.f bt102.1 bt102.2 0 3).bind fun t109 => (if t109 = true then (galoislaw04_ResiduePowers.j0 k a0 a2 bt104.1 bt104.2) else (none))) else ((galoisref04_Pow.f k a0 a1 a2).bind fun t110 => ((galoislaw04_is.f bt102.1 bt102.2 t110 0).bind fun t111 => (if t111 = true then (galoislaw04_ResiduePowers.j0 k a0 a2 bt104.1 bt104.2) else (none))))) else ((galoislaw04_is.f bt102.1 bt102.2 0 3).bind fun t107 => (if t107 = true then ((galoislaw04_is.f bt104.1 bt104.2 0 3).bind fun t108 => (some t108)) else (none))))))) else (none))) = some r := h
  clear h
  replace H := Option.bind_eq_some_iff.mp H
  obtain ⟨t101, A40, H⟩ := H
  replace H : (if t101 = true then ((residue_Pow.f k a0 a1 a2).bind fun bt102 => ((residue_Inverse.f k a0 a2).bind fun bt104 => ((galoisref04_IsModulus.f a2).bind fun t106 => (if t106 = true then (if a1 < 0 then ((galoislaw04_is.f bt102.1 bt102.2 0 3).bind fun t109 => (if t109 = true then (galoislaw04_ResiduePowers.j0 k a0 a2 bt104.1 bt104.2) else (none))) else ((galoisref04_Pow.f k a0 a1 a2).bind fun t110 => ((galoislaw04_is.f bt102.1 bt102.2 t110 0).bind fun t111 => (if t111 = true then (galoislaw04_ResiduePowers.j0 k a0 a2 bt104.1 bt104.2) else (none))))) else ((galoislaw04_is.f bt102.1 bt102.2 0 3).bind fun t107 => (if t107 = true then ((galoislaw04_is.f bt104.1 bt104.2 0 3).bind fun t108 => (some t108)) else (none))))))) else (none)) = some r := H
  have A4 := Aside0.mk A40
  clear A40
  by_cases c5 : t101 = true
  · subst c5
    have H1 : ((residue_Pow.f k a0 a1 a2).bind fun bt102 => ((residue_Inverse.f k a0 a2).bind fun bt104 => ((galoisref04_IsModulus.f a2).bind fun t106 => (if t106 = true then (if a1 < 0 then ((galoislaw04_is.f bt102.1 bt102.2 0 3).bind fun t109 => (if t109 = true then (galoislaw04_ResiduePowers.j0 k a0 a2 bt104.1 bt104.2) else (none))) else ((galoisref04_Pow.f k a0 a1 a2).bind fun t110 => ((galoislaw04_is.f bt102.1 bt102.2 t110 0).bind fun t111 => (if t111 = true then (galoislaw04_ResiduePowers.j0 k a0 a2 bt104.1 bt104.2) else (none))))) else ((galoislaw04_is.f bt102.1 bt102.2 0 3).bind fun t107 => (if t107 = true then ((galoislaw04_is.f bt104.1 bt104.2 0 3).bind fun t108 => (some t108)) else (none))))))) = some r := by rw [if_pos rfl] at H; exact H
    clear H
    have H := H1
    clear H1
    replace H := Option.bind_eq_some_iff.mp H
    obtain ⟨⟨t102, t103⟩, A60, H⟩ := H
    replace H : ((residue_Inverse.f k a0 a2).bind fun bt104 => ((galoisref04_IsModulus.f a2).bind fun t106 => (if t106 = true then (if a1 < 0 then ((galoislaw04_is.f t102 t103 0 3).bind fun t109 => (if t109 = true then (galoislaw04_ResiduePowers.j0 k a0 a2 bt104.1 bt104.2) else (none))) else ((galoisref04_Pow.f k a0 a1 a2).bind fun t110 => ((galoislaw04_is.f t102 t103 t110 0).bind fun t111 => (if t111 = true then (galoislaw04_ResiduePowers.j0 k a0 a2 bt104.1 bt104.2) else (none))))) else ((galoislaw04_is.f t102 t103 0 3).bind fun t107 => (if t107 = true then ((galoislaw04_is.f bt104.1 bt104.2 0 3).bind fun t108 => (some t108)) else (none)))))) = some r := H
    have A6 := Aside0.mk A60
    clear A60
    replace H := Option.bind_eq_some_iff.mp H
    obtain ⟨⟨t104, t105⟩, A70, H⟩ := H
    replace H : ((galoisref04_IsModulus.f a2).bind fun t106 => (if t106 = true then (if a1 < 0 then ((galoislaw04_is.f t102 t103 0 3).bind fun t109 => (if t109 = true then (galoislaw04_ResiduePowers.j0 k a0 a2 t104 t105) else (none))) else ((galoisref04_Pow.f k a0 a1 a2).bind fun t110 => ((galoislaw04_is.f t102 t103 t110 0).bind fun t111 => (if t111 = true then (galoislaw04_ResiduePowers.j0 k a0 a2 t104 t105) else (none))))) else ((galoislaw04_is.f t102 t103 0 3).bind fun t107 => (if t107 = true then ((galoislaw04_is.f t104 t105 0 3).bind fun t108 => (some t108)) else (none))))) = some r := H
    have A7 := Aside0.mk A70
    clear A70
    replace H := Option.bind_eq_some_iff.mp H
    obtain ⟨t106, A80, H⟩ := H
    replace H : (if t106 = true then (if a1 < 0 then ((galoislaw04_is.f t102 t103 0 3).bind fun t109 => (if t109 = true then (galoislaw04_ResiduePowers.j0 k a0 a2 t104 t105) else (none))) else ((galoisref04_Pow.f k a0 a1 a2).bind fun t110 => ((galoislaw04_is.f t102 t103 t110 0).bind fun t111 => (if t111 = true then (galoislaw04_ResiduePowers.j0 k a0 a2 t104 t105) else (none))))) else ((galoislaw04_is.f t102 t103 0 3).bind fun t107 => (if t107 = true then ((galoislaw04_is.f t104 t105 0 3).bind fun t108 => (some t108)) else (none)))) = some r := H
    have A8 := Aside0.mk A80
    clear A80
    by_cases c9 : t106 = true
    · subst c9
      have H1 : (if a1 < 0 then ((galoislaw04_is.f t102 t103 0 3).bind fun t109 => (if t109 = true then (galoislaw04_ResiduePowers.j0 k a0 a2 t104 t105) else (none))) else ((galoisref04_Pow.f k a0 a1 a2).bind fun t110 => ((galoislaw04_is.f t102 t103 t110 0).bind fun t111 => (if t111 = true then (galoislaw04_ResiduePowers.j0 k a0 a2 t104 t105) else (none))))) = some r := by rw [if_pos rfl] at H; exact H
      clear H
      have H := H1
      clear H1
      have HC10 := Aside0.mk H
      clear H
      go_enter Try.func8, Try.ntmps8
      go_upto_if 38 with (first | ((with_reducible refine gate_callee (f := 14) rfl ?_); refine goesL_ (some 11) rfl rfl Try.func14 (by kernel_rfl) rfl #[] rfl (by (try simp only [List.map_toArray, List.map_cons, List.map_nil]); first | done | rfl | (simp only [List.length_drop, List.length_take]; rfl)) ?_; (with_reducible refine (galoislaw04_awake.calls k  true _ A4.out).mono ?_); rintro e w11 ⟨rfl, hb⟩; refine ⟨_, rfl, ?_⟩; have n0_ := Aside0.mk (below_step (by repeat (first | (with_reducible first | exact HB.out | apply below_alloc | apply pw_below_drewN | apply below_drew1) | exact HB.out)) hb); clear HB; have HB := n0_; clear n0_; (try clear hb); (try clear hb2); (try clear hk); (try clear hi)) | ((with_reducible refine gate_callee (f := 33) rfl ?_); refine goesL_ (some 17) rfl rfl Try.func33 (by kernel_rfl) rfl #[.int .i64 a0, .int .i64 a1, .int .i64 a2] rfl (by (try simp only [List.map_toArray, List.map_cons, List.map_nil]); first | done | rfl | (simp only [List.length_drop, List.length_take]; rfl)) ?_; (with_reducible refine (residue_Pow.calls k a0 a1 a2 t102 t103 _ A6.out).mono ?_); rintro e w12 ⟨rfl, hb⟩; refine ⟨_, rfl, ?_⟩; have n0_ := Aside0.mk (below_step (by repeat (first | (with_reducible first | exact HB.out | apply below_alloc | apply pw_below_drewN | apply below_drew1) | exact HB.out)) hb); clear HB; have HB := n0_; clear n0_; (try clear hb); (try clear hb2); (try clear hk); (try clear hi)) | ((with_reducible refine gate_callee (f := 34) rfl ?_); refine goesL_ (some 23) rfl rfl Try.func34 (by kernel_rfl) rfl #[.int .i64 a0, .int .i64 a2] rfl (by (try simp only [List.map_toArray, List.map_cons, List.map_nil]); first | done | rfl | (simp only [List.length_drop, List.length_take]; rfl)) ?_; (with_reducible refine (residue_Inverse.calls k a0 a2 t104 t105 _ A7.out).mono ?_); rintro e w13 ⟨rfl, hb⟩; refine ⟨_, rfl, ?_⟩; have n0_ := Aside0.mk (below_step (by repeat (first | (with_reducible first | exact HB.out | apply below_alloc | apply pw_below_drewN | apply below_drew1) | exact HB.out)) hb); clear HB; have HB := n0_; clear n0_; (try clear hb); (try clear hb2); (try clear hk); (try clear hi)) | ((with_reducible refine gate_callee (f := 15) rfl ?_); refine goesL_ (some 27) rfl rfl Try.func15 (by kernel_rfl) rfl #[.int .i64 a2] rfl (by (try simp only [List.map_toArray, List.map_cons, List.map_nil]); first | done | rfl | (simp only [List.length_drop, List.length_take]; rfl)) ?_; (with_reducible refine (galoisref04_IsModulus.calls a2 true _ A8.out).mono ?_); rintro e w' ⟨rfl, ⟨nd, rfl⟩⟩; refine ⟨_, rfl, ?_⟩))
      (try simp only [Act.put, List.setIfInBounds_toArray, List.set_cons_zero, List.set_cons_succ])
      go_cut [] (fun wc => ∃ (kq : Nat), Aside0 (galoislaw04_ResiduePowers.j0 kq a0 a2 t104 t105 = some r) ∧ Aside0 (kq ≤ k) ∧ Aside0 (Below w.heap.size w wc))
      case first =>
        have H := HC10.out
        clear HC10
        by_cases c14 : a1 < 0
        · rw [if_pos c14] at H
          have c14b0 : decide (a1 < 0) = true := decide_eq_true c14
          clear c14
          (first | rw [c14b0] | (simp only [i64_w, i32_w]; rw [c14b0]) | skip)
          replace H := Option.bind_eq_some_iff.mp H
          obtain ⟨t109, A150, H⟩ := H
          replace H : (if t109 = true then (galoislaw04_ResiduePowers.j0 k a0 a2 t104 t105) else (none)) = some r := H
          have A15 := Aside0.mk A150
          clear A150
          by_cases c16 : t109 = true
          · subst c16
            have H1 : (galoislaw04_ResiduePowers.j0 k a0 a2 t104 t105) = some r := by rw [if_pos rfl] at H; exact H
            clear H
            have H := H1
            clear H1
            have H' := Aside0.mk H
            clear H
            go_wp2_with (first | ((with_reducible refine gate_callee (f := 18) rfl ?_); refine goesL_ (some 41) rfl rfl Try.func18 (by kernel_rfl) rfl #[.int .i64 t102, .int .i64 t103, .int .i64 0, .int .i64 3] rfl (by (try simp only [List.map_toArray, List.map_cons, List.map_nil]); first | done | rfl | (simp only [List.length_drop, List.length_take]; rfl)) ?_; (with_reducible refine (galoislaw04_is.calls t102 t103 0 3 true _ A15.out).mono ?_); rintro e w' ⟨rfl, ⟨nd, rfl⟩⟩; refine ⟨_, rfl, ?_⟩))
            go_meet
            case rel => exact ⟨_, H', ⟨by first | omega | exact Nat.le_refl _⟩, ⟨by repeat (first | (with_reducible first | exact HB.out | apply below_alloc | apply pw_below_drewN | apply below_drew1) | exact HB.out)⟩⟩
          · replace c16 := Bool.eq_false_iff.mpr c16
            subst c16
            have H1 : (none) = some r := by rw [if_neg (show ¬ (false = true) by decide)] at H; exact H
            clear H
            have H := H1
            clear H1
            exact absurd H (by simp)
        · rw [if_neg c14] at H
          have c14b0 : decide (a1 < 0) = false := decide_eq_false c14
          clear c14
          (first | rw [c14b0] | (simp only [i64_w, i32_w]; rw [c14b0]) | skip)
          replace H := Option.bind_eq_some_iff.mp H
          obtain ⟨t110, A170, H⟩ := H
          replace H : ((galoislaw04_is.f t102 t103 t110 0).bind fun t111 => (if t111 = true then (galoislaw04_ResiduePowers.j0 k a0 a2 t104 t105) else (none))) = some r := H
          have A17 := Aside0.mk A170
          clear A170
          replace H := Option.bind_eq_some_iff.mp H
          obtain ⟨t111, A180, H⟩ := H
          replace H : (if t111 = true then (galoislaw04_ResiduePowers.j0 k a0 a2 t104 t105) else (none)) = some r := H
          have A18 := Aside0.mk A180
          clear A180
          by_cases c19 : t111 = true
          · subst c19
            have H1 : (galoislaw04_ResiduePowers.j0 k a0 a2 t104 t105) = some r := by rw [if_pos rfl] at H; exact H
            clear H
            have H := H1
            clear H1
            have H' := Aside0.mk H
            clear H
            go_wp2_with (first | ((with_reducible refine gate_callee (f := 35) rfl ?_); refine goesL_ (some 48) rfl rfl Try.func35 (by kernel_rfl) rfl #[.int .i64 a0, .int .i64 a1, .int .i64 a2] rfl (by (try simp only [List.map_toArray, List.map_cons, List.map_nil]); first | done | rfl | (simp only [List.length_drop, List.length_take]; rfl)) ?_; (with_reducible refine (galoisref04_Pow.calls k a0 a1 a2 t110 _ A17.out).mono ?_); rintro e w' ⟨rfl, ⟨nd, rfl⟩⟩; refine ⟨_, rfl, ?_⟩) | ((with_reducible refine gate_callee (f := 18) rfl ?_); refine goesL_ (some 49) rfl rfl Try.func18 (by kernel_rfl) rfl #[.int .i64 t102, .int .i64 t103, .int .i64 t110, .int .i64 0] rfl (by (try simp only [List.map_toArray, List.map_cons, List.map_nil]); first | done | rfl | (simp only [List.length_drop, List.length_take]; rfl)) ?_; (with_reducible refine (galoislaw04_is.calls t102 t103 t110 0 true _ A18.out).mono ?_); rintro e w' ⟨rfl, ⟨nd, rfl⟩⟩; refine ⟨_, rfl, ?_⟩))
            go_meet
            case rel => exact ⟨_, H', ⟨by first | omega | exact Nat.le_refl _⟩, ⟨by repeat (first | (with_reducible first | exact HB.out | apply below_alloc | apply pw_below_drewN | apply below_drew1) | exact HB.out)⟩⟩
          · replace c19 := Bool.eq_false_iff.mpr c19
            subst c19
            have H1 : (none) = some r := by rw [if_neg (show ¬ (false = true) by decide)] at H; exact H
            clear H
            have H := H1
            clear H1
            exact absurd H (by simp)
      case rest =>
        clear HC10
        try clear c1
        try clear p2
        try clear c3
        try clear c5
        try clear c8
        try clear c9
        try clear c14
        try clear c14b0
        try clear c15
        try clear c16
        try clear c18
        try clear c19
        obtain ⟨kq, HA, HJ9, HB⟩ := hcut
        cases kq with
        | zero => exact absurd HA.out (by simp [galoislaw04_ResiduePowers.j0])
        | succ kj9 =>
          have H := HA.out
          clear HA
          simp only [galoislaw04_ResiduePowers.j0] at H
          replace H := Option.bind_eq_some_iff.mp H
          obtain ⟨t112, A200, H⟩ := H
          replace H : (if t112 = true then ((galoisref04_Inverse.f kj9 a0 a2).bind fun t113 => ((galoislaw04_is.f t104 t105 t113 0).bind fun t114 => (some t114))) else ((galoislaw04_is.f t104 t105 0 6).bind fun t115 => (some t115))) = some r := H
          have A20 := Aside0.mk A200
          clear A200
          by_cases c21 : t112 = true
          · subst c21
            have H1 : ((galoisref04_Inverse.f kj9 a0 a2).bind fun t113 => ((galoislaw04_is.f t104 t105 t113 0).bind fun t114 => (some t114))) = some r := by rw [if_pos rfl] at H; exact H
            clear H
            have H := H1
            clear H1
            replace H := Option.bind_eq_some_iff.mp H
            obtain ⟨t113, A220, H⟩ := H
            replace H : ((galoislaw04_is.f t104 t105 t113 0).bind fun t114 => (some t114)) = some r := H
            have A22 := Aside0.mk A220
            clear A220
            replace H := Option.bind_eq_some_iff.mp H
            obtain ⟨t114, A230, H⟩ := H
            replace H : (some t114) = some r := H
            have A23 := Aside0.mk A230
            clear A230
            obtain rfl := Option.some.inj H
            go_wp2_with (first | ((with_reducible refine gate_callee (f := 20) rfl ?_); refine goesL_ (some 53) rfl rfl Try.func20 (by kernel_rfl) rfl #[.int .i64 a0, .int .i64 a2] rfl (by (try simp only [List.map_toArray, List.map_cons, List.map_nil]); first | done | rfl | (simp only [List.length_drop, List.length_take]; rfl)) ?_; (with_reducible refine (galoisref04_Coprime.calls kj9 a0 a2 true _ A20.out).mono ?_); rintro e w' ⟨rfl, ⟨nd, rfl⟩⟩; refine ⟨_, rfl, ?_⟩) | ((with_reducible refine gate_callee (f := 36) rfl ?_); refine goesL_ (some 62) rfl rfl Try.func36 (by kernel_rfl) rfl #[.int .i64 a0, .int .i64 a2] rfl (by (try simp only [List.map_toArray, List.map_cons, List.map_nil]); first | done | rfl | (simp only [List.length_drop, List.length_take]; rfl)) ?_; (with_reducible refine (galoisref04_Inverse.calls kj9 a0 a2 t113 _ A22.out).mono ?_); rintro e w' ⟨rfl, ⟨nd, rfl⟩⟩; refine ⟨_, rfl, ?_⟩) | ((with_reducible refine gate_callee (f := 18) rfl ?_); refine goesL_ (some 63) rfl rfl Try.func18 (by kernel_rfl) rfl #[.int .i64 t104, .int .i64 t105, .int .i64 t113, .int .i64 0] rfl (by (try simp only [List.map_toArray, List.map_cons, List.map_nil]); first | done | rfl | (simp only [List.length_drop, List.length_take]; rfl)) ?_; (with_reducible refine (galoislaw04_is.calls t104 t105 t113 0 t114 _ A23.out).mono ?_); rintro e w' ⟨rfl, ⟨nd, rfl⟩⟩; refine ⟨_, rfl, ?_⟩))
            go_ret
            exact ⟨by first | rfl | (simp [errW_none, errW_some] <;> rfl) | (simp [*, errW_none, errW_some] <;> rfl), by repeat (first | (with_reducible first | exact HB.out | apply below_alloc | apply pw_below_drewN | apply below_drew1) | exact HB.out)⟩
          · replace c21 := Bool.eq_false_iff.mpr c21
            subst c21
            have H1 : ((galoislaw04_is.f t104 t105 0 6).bind fun t115 => (some t115)) = some r := by rw [if_neg (show ¬ (false = true) by decide)] at H; exact H
            clear H
            have H := H1
            clear H1
            replace H := Option.bind_eq_some_iff.mp H
            obtain ⟨t115, A240, H⟩ := H
            replace H : (some t115) = some r := H
            have A24 := Aside0.mk A240
            clear A240
            obtain rfl := Option.some.inj H
            go_wp2_with (first | ((with_reducible refine gate_callee (f := 20) rfl ?_); refine goesL_ (some 53) rfl rfl Try.func20 (by kernel_rfl) rfl #[.int .i64 a0, .int .i64 a2] rfl (by (try simp only [List.map_toArray, List.map_cons, List.map_nil]); first | done | rfl | (simp only [List.length_drop, List.length_take]; rfl)) ?_; (with_reducible refine (galoisref04_Coprime.calls kj9 a0 a2 false _ A20.out).mono ?_); rintro e w' ⟨rfl, ⟨nd, rfl⟩⟩; refine ⟨_, rfl, ?_⟩) | ((with_reducible refine gate_callee (f := 18) rfl ?_); refine goesL_ (some 57) rfl rfl Try.func18 (by kernel_rfl) rfl #[.int .i64 t104, .int .i64 t105, .int .i64 0, .int .i64 6] rfl (by (try simp only [List.map_toArray, List.map_cons, List.map_nil]); first | done | rfl | (simp only [List.length_drop, List.length_take]; rfl)) ?_; (with_reducible refine (galoislaw04_is.calls t104 t105 0 6 t115 _ A24.out).mono ?_); rintro e w' ⟨rfl, ⟨nd, rfl⟩⟩; refine ⟨_, rfl, ?_⟩))
            go_ret
            exact ⟨by first | rfl | (simp [errW_none, errW_some] <;> rfl) | (simp [*, errW_none, errW_some] <;> rfl), by repeat (first | (with_reducible first | exact HB.out | apply below_alloc | apply pw_below_drewN | apply below_drew1) | exact HB.out)⟩
    · replace c9 := Bool.eq_false_iff.mpr c9
      subst c9
      have H1 : ((galoislaw04_is.f t102 t103 0 3).bind fun t107 => (if t107 = true then ((galoislaw04_is.f t104 t105 0 3).bind fun t108 => (some t108)) else (none))) = some r := by rw [if_neg (show ¬ (false = true) by decide)] at H; exact H
      clear H
      have H := H1
      clear H1
      replace H := Option.bind_eq_some_iff.mp H
      obtain ⟨t107, A250, H⟩ := H
      replace H : (if t107 = true then ((galoislaw04_is.f t104 t105 0 3).bind fun t108 => (some t108)) else (none)) = some r := H
      have A25 := Aside0.mk A250
      clear A250
      by_cases c26 : t107 = true
      · subst c26
        have H1 : ((galoislaw04_is.f t104 t105 0 3).bind fun t108 => (some t108)) = some r := by rw [if_pos rfl] at H; exact H
        clear H
        have H := H1
        clear H1
        replace H := Option.bind_eq_some_iff.mp H
        obtain ⟨t108, A270, H⟩ := H
        replace H : (some t108) = some r := H
        have A27 := Aside0.mk A270
        clear A270
        obtain rfl := Option.some.inj H
        go_enter Try.func8, Try.ntmps8
        go_wp2_with (first | ((with_reducible refine gate_callee (f := 14) rfl ?_); refine goesL_ (some 11) rfl rfl Try.func14 (by kernel_rfl) rfl #[] rfl (by (try simp only [List.map_toArray, List.map_cons, List.map_nil]); first | done | rfl | (simp only [List.length_drop, List.length_take]; rfl)) ?_; (with_reducible refine (galoislaw04_awake.calls k  true _ A4.out).mono ?_); rintro e w28 ⟨rfl, hb⟩; refine ⟨_, rfl, ?_⟩; have n0_ := Aside0.mk (below_step (by repeat (first | (with_reducible first | exact HB.out | apply below_alloc | apply pw_below_drewN | apply below_drew1) | exact HB.out)) hb); clear HB; have HB := n0_; clear n0_; (try clear hb); (try clear hb2); (try clear hk); (try clear hi)) | ((with_reducible refine gate_callee (f := 33) rfl ?_); refine goesL_ (some 17) rfl rfl Try.func33 (by kernel_rfl) rfl #[.int .i64 a0, .int .i64 a1, .int .i64 a2] rfl (by (try simp only [List.map_toArray, List.map_cons, List.map_nil]); first | done | rfl | (simp only [List.length_drop, List.length_take]; rfl)) ?_; (with_reducible refine (residue_Pow.calls k a0 a1 a2 t102 t103 _ A6.out).mono ?_); rintro e w29 ⟨rfl, hb⟩; refine ⟨_, rfl, ?_⟩; have n0_ := Aside0.mk (below_step (by repeat (first | (with_reducible first | exact HB.out | apply below_alloc | apply pw_below_drewN | apply below_drew1) | exact HB.out)) hb); clear HB; have HB := n0_; clear n0_; (try clear hb); (try clear hb2); (try clear hk); (try clear hi)) | ((with_reducible refine gate_callee (f := 34) rfl ?_); refine goesL_ (some 23) rfl rfl Try.func34 (by kernel_rfl) rfl #[.int .i64 a0, .int .i64 a2] rfl (by (try simp only [List.map_toArray, List.map_cons, List.map_nil]); first | done | rfl | (simp only [List.length_drop, List.length_take]; rfl)) ?_; (with_reducible refine (residue_Inverse.calls k a0 a2 t104 t105 _ A7.out).mono ?_); rintro e w30 ⟨rfl, hb⟩; refine ⟨_, rfl, ?_⟩; have n0_ := Aside0.mk (below_step (by repeat (first | (with_reducible first | exact HB.out | apply below_alloc | apply pw_below_drewN | apply below_drew1) | exact HB.out)) hb); clear HB; have HB := n0_; clear n0_; (try clear hb); (try clear hb2); (try clear hk); (try clear hi)) | ((with_reducible refine gate_callee (f := 15) rfl ?_); refine goesL_ (some 27) rfl rfl Try.func15 (by kernel_rfl) rfl #[.int .i64 a2] rfl (by (try simp only [List.map_toArray, List.map_cons, List.map_nil]); first | done | rfl | (simp only [List.length_drop, List.length_take]; rfl)) ?_; (with_reducible refine (galoisref04_IsModulus.calls a2 false _ A8.out).mono ?_); rintro e w' ⟨rfl, ⟨nd, rfl⟩⟩; refine ⟨_, rfl, ?_⟩) | ((with_reducible refine gate_callee (f := 18) rfl ?_); refine goesL_ (some 31) rfl rfl Try.func18 (by kernel_rfl) rfl #[.int .i64 t102, .int .i64 t103, .int .i64 0, .int .i64 3] rfl (by (try simp only [List.map_toArray, List.map_cons, List.map_nil]); first | done | rfl | (simp only [List.length_drop, List.length_take]; rfl)) ?_; (with_reducible refine (galoislaw04_is.calls t102 t103 0 3 true _ A25.out).mono ?_); rintro e w' ⟨rfl, ⟨nd, rfl⟩⟩; refine ⟨_, rfl, ?_⟩) | (go_at_call 18; (with_reducible refine (galoislaw04_is.calls t104 t105 0 3 t108 _ A27.out).mono ?_); rintro e w' ⟨rfl, ⟨nd, rfl⟩⟩))
        go_ret
        exact ⟨by first | rfl | (simp [errW_none, errW_some] <;> rfl) | (simp [*, errW_none, errW_some] <;> rfl), by repeat (first | (with_reducible first | exact HB.out | apply below_alloc | apply pw_below_drewN | apply below_drew1) | exact HB.out)⟩
      · replace c26 := Bool.eq_false_iff.mpr c26
        subst c26
        have H1 : (none) = some r := by rw [if_neg (show ¬ (false = true) by decide)] at H; exact H
        clear H
        have H := H1
        clear H1
        exact absurd H (by simp)
  · replace c5 := Bool.eq_false_iff.mpr c5
    subst c5
    have H1 : (none) = some r := by rw [if_neg (show ¬ (false = true) by decide)] at H; exact H
    clear H
    have H := H1
    clear H1
    exact absurd H (by simp)

/-- THE ONE PURE STATEMENT of galoislaw04_ResiduePowers: yours. -/
def galoislaw04_ResiduePowers.Pure : Prop := ∀ (a0 : Int) (a1 : Int) (a2 : Int), (Lit.int .i64 a0).wf = true → (Lit.int .i64 a1).wf = true → (Lit.int .i64 a2).wf = true → ∃ k, galoislaw04_ResiduePowers.f k a0 a1 a2 = some true
theorem galoislaw04_ResiduePowers.walk (P : galoislaw04_ResiduePowers.Pure) (a0 : Int) (a1 : Int) (a2 : Int) (w : World) (w0 : (Lit.int .i64 a0).wf = true) (w1 : (Lit.int .i64 a1).wf = true) (w2 : (Lit.int .i64 a2).wf = true) :
    Calls Try.prog 8 #[.int .i64 a0, .int .i64 a1, .int .i64 a2] w fun e w' => e = .returned (.bool true) ∧ Below w.heap.size w w' := by
  obtain ⟨k, h⟩ := P a0 a1 a2 w0 w1 w2
  refine (galoislaw04_ResiduePowers.calls k a0 a1 a2 true w h).mono ?_
  rintro e w' ⟨rfl, hd⟩
  exact ⟨rfl, hd⟩

end Go.Proofs.Ytmedflaejnbkoaa.Q

/- Machine side: a program of the session wrote this text (the kit's print.py and the session's own contracts). Conditions: none of its own. -/
import Derived.Test.YtmedflaejnbkoaaQ0
import Derived.Test.YtmedflaejnbkoaaQG0
import Derived.Test.YtmedflaejnbkoaaQG2
import Derived.Test.YtmedflaejnbkoaaQF15
import Derived.Test.YtmedflaejnbkoaaQF18
import Derived.Test.YtmedflaejnbkoaaQF20
import Derived.Test.YtmedflaejnbkoaaQF21
import Derived.Test.YtmedflaejnbkoaaQF19
namespace Go.Proofs.Ytmedflaejnbkoaa.Q
open Go.RowKit Go.Proofs.YtmedflaejnbkoaaW.PrintWords Go.Proofs.YtmedflaejnbkoaaW.PrintLast Go.Proofs.YtmedflaejnbkoaaW.PrintMore
attribute [local go_sem] max2_int min2_int max_two min_two max_three min_three max_four min_four   -- for this text's walks alone
set_option linter.unusedVariables false
set_option linter.unusedSimpArgs false

/-! ### galoislaw04_ResidueOrders: function 3 -/
mutual
def galoislaw04_ResidueOrders.j0 : Nat → Int → Int → Bool → Option (Bool)
  | 0, _, _, _ => none
  | k + 1, x0, x1, x20 => if x20 = true then ((galoislaw04_awake.f k).bind fun t103 => (some t103)) else ((residue_Order.f k x0 x1).bind fun bt104 => ((residue_PrimitiveRoot.f k x1).bind fun bt106 => ((galoisref04_IsModulus.f x1).bind fun t108 => (if t108 = true then ((galoisref04_PrimitiveRoot.f k x1).bind fun bt111 => (if bt111.2 = true then ((galoislaw04_is.f bt106.1 bt106.2 bt111.1 0).bind fun t113 => (if t113 = true then (galoislaw04_ResidueOrders.j1 k x0 x1 bt104.1 bt104.2 false) else (galoislaw04_ResidueOrders.j1 k x0 x1 bt104.1 bt104.2 true))) else ((galoislaw04_is.f bt106.1 bt106.2 0 10).bind fun t114 => (galoislaw04_ResidueOrders.j1 k x0 x1 bt104.1 bt104.2 (!t114))))) else ((galoislaw04_is.f bt104.1 bt104.2 0 3).bind fun t109 => (if t109 = true then ((galoislaw04_is.f bt106.1 bt106.2 0 3).bind fun t110 => (some t110)) else (none)))))))
def galoislaw04_ResidueOrders.j1 : Nat → Int → Int → Int → Int → Bool → Option (Bool)
  | 0, _, _, _, _, _ => none
  | k + 1, x0, x1, x5, x6, x66 => if x66 = true then (none) else ((galoisref04_Coprime.f k x0 x1).bind fun t115 => (if t115 = true then ((galoisref04_Order.f k x0 x1).bind fun t116 => ((galoislaw04_is.f x5 x6 t116 0).bind fun t117 => (some t117))) else ((galoislaw04_is.f x5 x6 0 6).bind fun t118 => (some t118))))
end
def galoislaw04_ResidueOrders.f (k : Nat) (a0 : Int) (a1 : Int) : Option (Bool) := (galoislaw04_awake.f k).bind fun t101 => (if t101 = true then ((galoisref04_IsModulus.f a1).bind fun t102 => (if t102 = true then (galoislaw04_ResidueOrders.j0 k a0 a1 (decide (a1 > 1000))) else (galoislaw04_ResidueOrders.j0 k a0 a1 false))) else (galoislaw04_ResidueOrders.j0 k a0 a1 true))
theorem galoislaw04_ResidueOrders.mono_l : ∀ k, (∀ y0 y1 y2, LeO (galoislaw04_ResidueOrders.j0 k y0 y1 y2) (galoislaw04_ResidueOrders.j0 (k + 1) y0 y1 y2)) ∧ (∀ y0 y1 y2 y3 y4, LeO (galoislaw04_ResidueOrders.j1 k y0 y1 y2 y3 y4) (galoislaw04_ResidueOrders.j1 (k + 1) y0 y1 y2 y3 y4))
  | 0 => ⟨fun _ _ _ r h => by simp [galoislaw04_ResidueOrders.j0] at h, fun _ _ _ _ _ r h => by simp [galoislaw04_ResidueOrders.j1] at h⟩
  | k + 1 => by
    obtain ⟨ih0, ih1⟩ := galoislaw04_ResidueOrders.mono_l k
    refine ⟨?_, ?_⟩
    · intro y0 y1 y2
      unfold galoislaw04_ResidueOrders.j0
      repeat' first
      | (with_reducible exact ih0 _ _ _)
      | (with_reducible exact ih1 _ _ _ _ _)
      | (with_reducible exact galoislaw04_awake.mono _)
      | (with_reducible exact galoisref04_Coprime.mono _ _ _)
      | (with_reducible exact galoisref04_Order.mono _ _ _)
      | (with_reducible exact galoisref04_PrimitiveRoot.mono _ _)
      | (with_reducible exact residue_Order.mono _ _ _)
      | (with_reducible exact residue_PrimitiveRoot.mono _ _)
      | (with_reducible exact LeO.refl _)
      | (with_reducible exact LeO.none _)
      | (with_reducible refine LeO.ite ?_ ?_)
      | (with_reducible refine LeO.bind ?_ (fun _ => ?_))
      | exact ih0 _ _ _
      | exact ih1 _ _ _ _ _
      | exact galoislaw04_awake.mono _
      | exact galoisref04_Coprime.mono _ _ _
      | exact galoisref04_Order.mono _ _ _
      | exact galoisref04_PrimitiveRoot.mono _ _
      | exact residue_Order.mono _ _ _
      | exact residue_PrimitiveRoot.mono _ _
      | exact LeO.none _
      | refine LeO.ite ?_ ?_
      | refine LeO.bind ?_ (fun _ => ?_)
    · intro y0 y1 y2 y3 y4
      unfold galoislaw04_ResidueOrders.j1
      repeat' first
      | (with_reducible exact ih0 _ _ _)
      | (with_reducible exact ih1 _ _ _ _ _)
      | (with_reducible exact galoislaw04_awake.mono _)
      | (with_reducible exact galoisref04_Coprime.mono _ _ _)
      | (with_reducible exact galoisref04_Order.mono _ _ _)
      | (with_reducible exact galoisref04_PrimitiveRoot.mono _ _)
      | (with_reducible exact residue_Order.mono _ _ _)
      | (with_reducible exact residue_PrimitiveRoot.mono _ _)
      | (with_reducible exact LeO.refl _)
      | (with_reducible exact LeO.none _)
      | (with_reducible refine LeO.ite ?_ ?_)
      | (with_reducible refine LeO.bind ?_ (fun _ => ?_))
      | exact ih0 _ _ _
      | exact ih1 _ _ _ _ _
      | exact galoislaw04_awake.mono _
      | exact galoisref04_Coprime.mono _ _ _
      | exact galoisref04_Order.mono _ _ _
      | exact galoisref04_PrimitiveRoot.mono _ _
      | exact residue_Order.mono _ _ _
      | exact residue_PrimitiveRoot.mono _ _
      | exact LeO.none _
      | refine LeO.ite ?_ ?_
      | refine LeO.bind ?_ (fun _ => ?_)
theorem galoislaw04_ResidueOrders.mono : ∀ a0 a1 k, LeO (galoislaw04_ResidueOrders.f k a0 a1) (galoislaw04_ResidueOrders.f (k + 1) a0 a1) := by
  intro a0 a1 k
  obtain ⟨ih0, ih1⟩ := galoislaw04_ResidueOrders.mono_l k
  unfold galoislaw04_ResidueOrders.f
  repeat' first
      | (with_reducible exact ih0 _ _ _)
      | (with_reducible exact ih1 _ _ _ _ _)
      | (with_reducible exact galoislaw04_awake.mono _)
      | (with_reducible exact galoisref04_Coprime.mono _ _ _)
      | (with_reducible exact galoisref04_Order.mono _ _ _)
      | (with_reducible exact galoisref04_PrimitiveRoot.mono _ _)
      | (with_reducible exact residue_Order.mono _ _ _)
      | (with_reducible exact residue_PrimitiveRoot.mono _ _)
      | (with_reducible exact LeO.refl _)
      | (with_reducible exact LeO.none _)
      | (with_reducible refine LeO.ite ?_ ?_)
      | (with_reducible refine LeO.bind ?_ (fun _ => ?_))
      | exact ih0 _ _ _
      | exact ih1 _ _ _ _ _
      | exact galoislaw04_awake.mono _
      | exact galoisref04_Coprime.mono _ _ _
      | exact galoisref04_Order.mono _ _ _
      | exact galoisref04_PrimitiveRoot.mono _ _
      | exact residue_Order.mono _ _ _
      | exact residue_PrimitiveRoot.mono _ _
      | exact LeO.none _
      | refine LeO.ite ?_ ?_
      | refine LeO.bind ?_ (fun _ => ?_)
set_option maxHeartbeats 8000000 in
set_option maxRecDepth 100000 in
theorem galoislaw04_ResidueOrders.calls (k : Nat) (a0 : Int) (a1 : Int) (r : Bool) (w : World) (h : galoislaw04_ResidueOrders.f k a0 a1 = some r) :
    Calls Try.prog 3 #[.int .i64 a0, .int .i64 a1] w fun e w' => e = .returned (.bool r) ∧ Below w.heap.size w w' := by
  have HB := Aside0.mk (Below.refl w.heap.size w)
  have H : ((galoislaw04_awake.f k).bind fun t101 => (if t101 = true then ((galoisref04_IsModulus.f a1).bind fun t102 => (if t102 = true then (galoislaw04_ResidueOrders.j0 k a0 a1 (decide (a1 > 1000))) else (galoislaw04_ResidueOrders.j0 k a0 a1 false))) else (galoislaw04_ResidueOrders.j0 k a0 a1 true))) = some r := h
  clear h
  have HC3 := Aside0.mk H
  clear H
  go_enter Try.func3, Try.ntmps3
  go_upto_region 1 with (fail)
  go_cut [20] (fun v20 wc => ∃ (kq : Nat) (x20_2 : Bool), v20 = .bool x20_2 ∧ Aside0 (galoislaw04_ResidueOrders.j0 kq a0 a1 x20_2 = some r) ∧ Aside0 (kq ≤ k) ∧ Aside0 (Below w.heap.size w wc))
  case first =>
    have H := HC3.out
    clear HC3
    replace H := Option.bind_eq_some_iff.mp H
    obtain ⟨t101, A40, H⟩ := H
    replace H : (if t101 = true then ((galoisref04_IsModulus.f a1).bind fun t102 => (if t102 = true then (galoislaw04_ResidueOrders.j0 k a0 a1 (decide (a1 > 1000))) else (galoislaw04_ResidueOrders.j0 k a0 a1 false))) else (galoislaw04_ResidueOrders.j0 k a0 a1 true)) = some r := H
    have A4 := Aside0.mk A40
    clear A40
    by_cases c5 : t101 = true
    · subst c5
      have H1 : ((galoisref04_IsModulus.f a1).bind fun t102 => (if t102 = true then (galoislaw04_ResidueOrders.j0 k a0 a1 (decide (a1 > 1000))) else (galoislaw04_ResidueOrders.j0 k a0 a1 false))) = some r := by rw [if_pos rfl] at H; exact H
      clear H
      have H := H1
      clear H1
      replace H := Option.bind_eq_some_iff.mp H
      obtain ⟨t102, A60, H⟩ := H
      replace H : (if t102 = true then (galoislaw04_ResidueOrders.j0 k a0 a1 (decide (a1 > 1000))) else (galoislaw04_ResidueOrders.j0 k a0 a1 false)) = some r := H
      have A6 := Aside0.mk A60
      clear A60
      by_cases c7 : t102 = true
      · subst c7
        have H1 : (galoislaw04_ResidueOrders.j0 k a0 a1 (decide (a1 > 1000))) = some r := by rw [if_pos rfl] at H; exact H
        clear H
        have H := H1
        clear H1
        have H' := Aside0.mk H
        clear H
        go_wp2_with (first | ((with_reducible refine gate_callee (f := 14) rfl ?_); refine goesL_ (some 11) rfl rfl Try.func14 (by kernel_rfl) rfl #[] rfl (by (try simp only [List.map_toArray, List.map_cons, List.map_nil]); first | done | rfl | (simp only [List.length_drop, List.length_take]; rfl)) ?_; (with_reducible refine (galoislaw04_awake.calls k  true _ A4.out).mono ?_); rintro e w8 ⟨rfl, hb⟩; refine ⟨_, rfl, ?_⟩; have n0_ := Aside0.mk (below_step (by repeat (first | (with_reducible first | exact HB.out | apply below_alloc | apply pw_below_drewN | apply below_drew1) | exact HB.out)) hb); clear HB; have HB := n0_; clear n0_; (try clear hb); (try clear hb2); (try clear hk); (try clear hi)) | (go_at_call 15; (with_reducible refine (galoisref04_IsModulus.calls a1 true _ A6.out).mono ?_); rintro e w' ⟨rfl, ⟨nd, rfl⟩⟩))
        go_meet
        case rel => exact ⟨_, (decide (a1 > 1000)), (by first | rfl | (simp; done) | (simp [*]; done)), H', ⟨by first | omega | exact Nat.le_refl _⟩, ⟨by repeat (first | (with_reducible first | exact HB.out | apply below_alloc | apply pw_below_drewN | apply below_drew1) | exact HB.out)⟩⟩
      · replace c7 := Bool.eq_false_iff.mpr c7
        subst c7
        have H1 : (galoislaw04_ResidueOrders.j0 k a0 a1 false) = some r := by rw [if_neg (show ¬ (false = true) by decide)] at H; exact H
        clear H
        have H := H1
        clear H1
        have H' := Aside0.mk H
        clear H
        go_wp2_with (first | ((with_reducible refine gate_callee (f := 14) rfl ?_); refine goesL_ (some 11) rfl rfl Try.func14 (by kernel_rfl) rfl #[] rfl (by (try simp only [List.map_toArray, List.map_cons, List.map_nil]); first | done | rfl | (simp only [List.length_drop, List.length_take]; rfl)) ?_; (with_reducible refine (galoislaw04_awake.calls k  true _ A4.out).mono ?_); rintro e w9 ⟨rfl, hb⟩; refine ⟨_, rfl, ?_⟩; have n0_ := Aside0.mk (below_step (by repeat (first | (with_reducible first | exact HB.out | apply below_alloc | apply pw_below_drewN | apply below_drew1) | exact HB.out)) hb); clear HB; have HB := n0_; clear n0_; (try clear hb); (try clear hb2); (try clear hk); (try clear hi)) | (go_at_call 15; (with_reducible refine (galoisref04_IsModulus.calls a1 false _ A6.out).mono ?_); rintro e w' ⟨rfl, ⟨nd, rfl⟩⟩))
        go_meet
        case rel => exact ⟨_, (false), (by first | rfl | (simp; done) | (simp [*]; done)), H', ⟨by first | omega | exact Nat.le_refl _⟩, ⟨by repeat (first | (with_reducible first | exact HB.out | apply below_alloc | apply pw_below_drewN | apply below_drew1) | exact HB.out)⟩⟩
    · replace c5 := Bool.eq_false_iff.mpr c5
      subst c5
      have H1 : (galoislaw04_ResidueOrders.j0 k a0 a1 true) = some r := by rw [if_neg (show ¬ (false = true) by decide)] at H; exact H
      clear H
      have H := H1
      clear H1
      have H' := Aside0.mk H
      clear H
      go_wp2_with (first | ((with_reducible refine gate_callee (f := 14) rfl ?_); refine goesL_ (some 11) rfl rfl Try.func14 (by kernel_rfl) rfl #[] rfl (by (try simp only [List.map_toArray, List.map_cons, List.map_nil]); first | done | rfl | (simp only [List.length_drop, List.length_take]; rfl)) ?_; (with_reducible refine (galoislaw04_awake.calls k  false _ A4.out).mono ?_); rintro e w10 ⟨rfl, hb⟩; refine ⟨_, rfl, ?_⟩; have n0_ := Aside0.mk (below_step (by repeat (first | (with_reducible first | exact HB.out | apply below_alloc | apply pw_below_drewN | apply below_drew1) | exact HB.out)) hb); clear HB; have HB := n0_; clear n0_; (try clear hb); (try clear hb2); (try clear hk); (try clear hi)))
      go_meet
      case rel => exact ⟨_, (true), (by first | rfl | (simp; done) | (simp [*]; done)), H', ⟨by first | omega | exact Nat.le_refl _⟩, ⟨by repeat (first | (with_reducible first | exact HB.out | apply below_alloc | apply pw_below_drewN | apply below_drew1) | exact HB.out)⟩⟩
  case rest =>
    clear HC3
    try clear c1
    try clear p2
    try clear c3
    try clear c5
    try clear c7
    obtain ⟨kq, x20_2, rfl, HA, HJ2, HB⟩ := hcut
    cases kq with
    | zero => exact absurd HA.out (by simp [galoislaw04_ResidueOrders.j0])
    | succ kj2 =>
      have H := HA.out
      clear HA
      simp only [galoislaw04_ResidueOrders.j0] at H
      by_cases c11 : x20_2 = true
      · subst c11
        have H1 : ((galoislaw04_awake.f kj2).bind fun t103 => (some t103)) = some r := by rw [if_pos rfl] at H; exact H
        clear H
        have H := H1
        clear H1
        replace H := Option.bind_eq_some_iff.mp H
        obtain ⟨t103, A120, H⟩ := H
        replace H : (some t103) = some r := H
        have A12 := Aside0.mk A120
        clear A120
        obtain rfl := Option.some.inj H
        go_wp2_with (first | ((with_reducible refine gate_callee (f := 14) rfl ?_); refine goesL_ (some 21) rfl rfl Try.func14 (by kernel_rfl) rfl #[] rfl (by (try simp only [List.map_toArray, List.map_cons, List.map_nil]); first | done | rfl | (simp only [List.length_drop, List.length_take]; rfl)) ?_; (with_reducible refine (galoislaw04_awake.calls kj2  t103 _ A12.out).mono ?_); rintro e w13 ⟨rfl, hb⟩; refine ⟨_, rfl, ?_⟩; have n0_ := Aside0.mk (below_step (by repeat (first | (with_reducible first | exact HB.out | apply below_alloc | apply pw_below_drewN | apply below_drew1) | exact HB.out)) hb); clear HB; have HB := n0_; clear n0_; (try clear hb); (try clear hb2); (try clear hk); (try clear hi)))
        go_ret
        exact ⟨by first | rfl | (simp [errW_none, errW_some] <;> rfl) | (simp [*, errW_none, errW_some] <;> rfl), by repeat (first | (with_reducible first | exact HB.out | apply below_alloc | apply pw_below_drewN | apply below_drew1) | exact HB.out)⟩
      · replace c11 := Bool.eq_false_iff.mpr c11
        subst c11
        have H1 : ((residue_Order.f kj2 a0 a1).bind fun bt104 => ((residue_PrimitiveRoot.f kj2 a1).bind fun bt106 => ((galoisref04_IsModulus.f a1).bind fun t108 => (if t108 = true then ((galoisref04_PrimitiveRoot.f kj2 a1).bind fun bt111 => (if bt111.2 = true then ((galoislaw04_is.f bt106.1 bt106.2 bt111.1 0).bind fun t113 => (if t113 = true then (galoislaw04_ResidueOrders.j1 kj2 a0 a1 bt104.1 bt104.2 false) else (galoislaw04_ResidueOrders.j1 kj2 a0 a1 bt104.1 bt104.2 true))) else ((galoislaw04_is.f bt106.1 bt106.2 0 10).bind fun t114 => (galoislaw04_ResidueOrders.j1 kj2 a0 a1 bt104.1 bt104.2 (!t114))))) else ((galoislaw04_is.f bt104.1 bt104.2 0 3).bind fun t109 => (if t109 = true then ((galoislaw04_is.f bt106.1 bt106.2 0 3).bind fun t110 => (some t110)) else (none))))))) = some r := by rw [if_neg (show ¬ (false = true) by decide)] at H; exact H
        clear H
        have H := H1
        clear H1
        replace H := Option.bind_eq_some_iff.mp H
        obtain ⟨⟨t104, t105⟩, A140, H⟩ := H
        replace H : ((residue_PrimitiveRoot.f kj2 a1).bind fun bt106 => ((galoisref04_IsModulus.f a1).bind fun t108 => (if t108 = true then ((galoisref04_PrimitiveRoot.f kj2 a1).bind fun bt111 => (if bt111.2 = true then ((galoislaw04_is.f bt106.1 bt106.2 bt111.1 0).bind fun t113 => (if t113 = true then (galoislaw04_ResidueOrders.j1 kj2 a0 a1 t104 t105 false) else (galoislaw04_ResidueOrders.j1 kj2 a0 a1 t104 t105 true))) else ((galoislaw04_is.f bt106.1 bt106.2 0 10).bind fun t114 => (galoislaw04_ResidueOrders.j1 kj2 a0 a1 t104 t105 (!t114))))) else ((galoislaw04_is.f t104 t105 0 3).bind fun t109 => (if t109 = true then ((galoislaw04_is.f bt106.1 bt106.2 0 3).bind fun t110 => (some t110)) else (none)))))) = some r := H
        have A14 := Aside0.mk A140
        clear A140
        replace H := Option.bind_eq_some_iff.mp H
        obtain ⟨⟨t106, t107⟩, A150, H⟩ := H
        replace H : ((galoisref04_IsModulus.f a1).bind fun t108 => (if t108 = true then ((galoisref04_PrimitiveRoot.f kj2 a1).bind fun bt111 => (if bt111.2 = true then ((galoislaw04_is.f t106 t107 bt111.1 0).bind fun t113 => (if t113 = true then (galoislaw04_ResidueOrders.j1 kj2 a0 a1 t104 t105 false) else (galoislaw04_ResidueOrders.j1 kj2 a0 a1 t104 t105 true))) else ((galoislaw04_is.f t106 t107 0 10).bind fun t114 => (galoislaw04_ResidueOrders.j1 kj2 a0 a1 t104 t105 (!t114))))) else ((galoislaw04_is.f t104 t105 0 3).bind fun t109 => (if t109 = true then ((galoislaw04_is.f t106 t107 0 3).bind fun t110 => (some t110)) else (none))))) = some r := H
        have A15 := Aside0.mk A150
        clear A150
        replace H := Option.bind_eq_some_iff.mp H
        obtain ⟨t108, A160, H⟩ := H
        replace H : (if t108 = true then ((galoisref04_PrimitiveRoot.f kj2 a1).bind fun bt111 => (if bt111.2 = true then ((galoislaw04_is.f t106 t107 bt111.1 0).bind fun t113 => (if t113 = true then (galoislaw04_ResidueOrders.j1 kj2 a0 a1 t104 t105 false) else (galoislaw04_ResidueOrders.j1 kj2 a0 a1 t104 t105 true))) else ((galoislaw04_is.f t106 t107 0 10).bind fun t114 => (galoislaw04_ResidueOrders.j1 kj2 a0 a1 t104 t105 (!t114))))) else ((galoislaw04_is.f t104 t105 0 3).bind fun t109 => (if t109 = true then ((galoislaw04_is.f t106 t107 0 3).bind fun t110 => (some t110)) else (none)))) = some r := H
        have A16 := Aside0.mk A160
        clear A160
        by_cases c17 : t108 = true
        · subst c17
          have H1 : ((galoisref04_PrimitiveRoot.f kj2 a1).bind fun bt111 => (if bt111.2 = true then ((galoislaw04_is.f t106 t107 bt111.1 0).bind fun t113 => (if t113 = true then (galoislaw04_ResidueOrders.j1 kj2 a0 a1 t104 t105 false) else (galoislaw04_ResidueOrders.j1 kj2 a0 a1 t104 t105 true))) else ((galoislaw04_is.f t106 t107 0 10).bind fun t114 => (galoislaw04_ResidueOrders.j1 kj2 a0 a1 t104 t105 (!t114))))) = some r := by rw [if_pos rfl] at H; exact H
          clear H
          have H := H1
          clear H1
          replace H := Option.bind_eq_some_iff.mp H
          obtain ⟨⟨t111, t112⟩, A180, H⟩ := H
          replace H : (if t112 = true then ((galoislaw04_is.f t106 t107 t111 0).bind fun t113 => (if t113 = true then (galoislaw04_ResidueOrders.j1 kj2 a0 a1 t104 t105 false) else (galoislaw04_ResidueOrders.j1 kj2 a0 a1 t104 t105 true))) else ((galoislaw04_is.f t106 t107 0 10).bind fun t114 => (galoislaw04_ResidueOrders.j1 kj2 a0 a1 t104 t105 (!t114)))) = some r := H
          have A18 := Aside0.mk A180
          clear A180
          have HC19 := Aside0.mk H
          clear H
          go_upto_region 8 with (first | ((with_reducible refine gate_callee (f := 16) rfl ?_); refine goesL_ (some 25) rfl rfl Try.func16 (by kernel_rfl) rfl #[.int .i64 a0, .int .i64 a1] rfl (by (try simp only [List.map_toArray, List.map_cons, List.map_nil]); first | done | rfl | (simp only [List.length_drop, List.length_take]; rfl)) ?_; (with_reducible refine (residue_Order.calls kj2 a0 a1 t104 t105 _ A14.out).mono ?_); rintro e w20 ⟨rfl, hb⟩; refine ⟨_, rfl, ?_⟩; have n0_ := Aside0.mk (below_step (by repeat (first | (with_reducible first | exact HB.out | apply below_alloc | apply pw_below_drewN | apply below_drew1) | exact HB.out)) hb); clear HB; have HB := n0_; clear n0_; (try clear hb); (try clear hb2); (try clear hk); (try clear hi)) | ((with_reducible refine gate_callee (f := 17) rfl ?_); refine goesL_ (some 30) rfl rfl Try.func17 (by kernel_rfl) rfl #[.int .i64 a1] rfl (by (try simp only [List.map_toArray, List.map_cons, List.map_nil]); first | done | rfl | (simp only [List.length_drop, List.length_take]; rfl)) ?_; (with_reducible refine (residue_PrimitiveRoot.calls kj2 a1 t106 t107 _ A15.out).mono ?_); rintro e w21 ⟨rfl, hb⟩; refine ⟨_, rfl, ?_⟩; have n0_ := Aside0.mk (below_step (by repeat (first | (with_reducible first | exact HB.out | apply below_alloc | apply pw_below_drewN | apply below_drew1) | exact HB.out)) hb); clear HB; have HB := n0_; clear n0_; (try clear hb); (try clear hb2); (try clear hk); (try clear hi)) | ((with_reducible refine gate_callee (f := 15) rfl ?_); refine goesL_ (some 34) rfl rfl Try.func15 (by kernel_rfl) rfl #[.int .i64 a1] rfl (by (try simp only [List.map_toArray, List.map_cons, List.map_nil]); first | done | rfl | (simp only [List.length_drop, List.length_take]; rfl)) ?_; (with_reducible refine (galoisref04_IsModulus.calls a1 true _ A16.out).mono ?_); rintro e w' ⟨rfl, ⟨nd, rfl⟩⟩; refine ⟨_, rfl, ?_⟩) | ((with_reducible refine gate_callee (f := 19) rfl ?_); refine goesL_ (some 46) rfl rfl Try.func19 (by kernel_rfl) rfl #[.int .i64 a1] rfl (by (try simp only [List.map_toArray, List.map_cons, List.map_nil]); first | done | rfl | (simp only [List.length_drop, List.length_take]; rfl)) ?_; (with_reducible refine (galoisref04_PrimitiveRoot.calls kj2 a1 t111 t112 _ A18.out).mono ?_); rintro e w22 ⟨rfl, hb⟩; refine ⟨_, rfl, ?_⟩; have n0_ := Aside0.mk (below_step (by repeat (first | (with_reducible first | exact HB.out | apply below_alloc | apply pw_below_drewN | apply below_drew1) | exact HB.out)) hb); clear HB; have HB := n0_; clear n0_; (try clear hb); (try clear hb2); (try clear hk); (try clear hi)))
          (try simp only [Act.put, List.setIfInBounds_toArray, List.set_cons_zero, List.set_cons_succ])
          go_cut [66] (fun v66 wc => ∃ (kq : Nat) (x66_18 : Bool), v66 = .bool x66_18 ∧ Aside0 (galoislaw04_ResidueOrders.j1 kq a0 a1 t104 t105 x66_18 = some r) ∧ Aside0 (kq ≤ kj2) ∧ Aside0 (Below w.heap.size w wc))
          case first =>
            have H := HC19.out
            clear HC19
            by_cases c23 : t112 = true
            · subst c23
              have H1 : ((galoislaw04_is.f t106 t107 t111 0).bind fun t113 => (if t113 = true then (galoislaw04_ResidueOrders.j1 kj2 a0 a1 t104 t105 false) else (galoislaw04_ResidueOrders.j1 kj2 a0 a1 t104 t105 true))) = some r := by rw [if_pos rfl] at H; exact H
              clear H
              have H := H1
              clear H1
              replace H := Option.bind_eq_some_iff.mp H
              obtain ⟨t113, A240, H⟩ := H
              replace H : (if t113 = true then (galoislaw04_ResidueOrders.j1 kj2 a0 a1 t104 t105 false) else (galoislaw04_ResidueOrders.j1 kj2 a0 a1 t104 t105 true)) = some r := H
              have A24 := Aside0.mk A240
              clear A240
              by_cases c25 : t113 = true
              · subst c25
                have H1 : (galoislaw04_ResidueOrders.j1 kj2 a0 a1 t104 t105 false) = some r := by rw [if_pos rfl] at H; exact H
                clear H
                have H := H1
                clear H1
                have H' := Aside0.mk H
                clear H
                go_wp2_with (first | (go_at_call 18; (with_reducible refine (galoislaw04_is.calls t106 t107 t111 0 true _ A24.out).mono ?_); rintro e w' ⟨rfl, ⟨nd, rfl⟩⟩))
                go_meet
                case rel => exact ⟨_, (false), (by first | rfl | (simp; done) | (simp [*]; done)), H', ⟨by have := HJ2.out; first | omega | exact Nat.le_refl _⟩, ⟨by repeat (first | (with_reducible first | exact HB.out | apply below_alloc | apply pw_below_drewN | apply below_drew1) | exact HB.out)⟩⟩
              · replace c25 := Bool.eq_false_iff.mpr c25
                subst c25
                have H1 : (galoislaw04_ResidueOrders.j1 kj2 a0 a1 t104 t105 true) = some r := by rw [if_neg (show ¬ (false = true) by decide)] at H; exact H
                clear H
                have H := H1
                clear H1
                have H' := Aside0.mk H
                clear H
                go_wp2_with (first | (go_at_call 18; (with_reducible refine (galoislaw04_is.calls t106 t107 t111 0 false _ A24.out).mono ?_); rintro e w' ⟨rfl, ⟨nd, rfl⟩⟩))
                go_meet
                case rel => exact ⟨_, (true), (by first | rfl | (simp; done) | (simp [*]; done)), H', ⟨by have := HJ2.out; first | omega | exact Nat.le_refl _⟩, ⟨by repeat (first | (with_reducible first | exact HB.out | apply below_alloc | apply pw_below_drewN | apply below_drew1) | exact HB.out)⟩⟩
            · replace c23 := Bool.eq_false_iff.mpr c23
              subst c23
              have H1 : ((galoislaw04_is.f t106 t107 0 10).bind fun t114 => (galoislaw04_ResidueOrders.j1 kj2 a0 a1 t104 t105 (!t114))) = some r := by rw [if_neg (show ¬ (false = true) by decide)] at H; exact H
              clear H
              have H := H1
              clear H1
              replace H := Option.bind_eq_some_iff.mp H
              obtain ⟨t114, A260, H⟩ := H
              replace H : (galoislaw04_ResidueOrders.j1 kj2 a0 a1 t104 t105 (!t114)) = some r := H
              have A26 := Aside0.mk A260
              clear A260
              have H' := Aside0.mk H
              clear H
              go_wp2_with (first | (go_at_call 18; (with_reducible refine (galoislaw04_is.calls t106 t107 0 10 t114 _ A26.out).mono ?_); rintro e w' ⟨rfl, ⟨nd, rfl⟩⟩))
              go_meet
              case rel => exact ⟨_, (!t114), (by first | rfl | (simp; done) | (simp [*]; done)), H', ⟨by have := HJ2.out; first | omega | exact Nat.le_refl _⟩, ⟨by repeat (first | (with_reducible first | exact HB.out | apply below_alloc | apply pw_below_drewN | apply below_drew1) | exact HB.out)⟩⟩
          case rest =>
            clear HC19
            try clear c1
            try clear c2
            try clear p2
            try clear c3
            try clear c5
            try clear c7
            try clear c11
            try clear c14
            try clear c15
            try clear c16
            try clear c17
            try clear c19
            try clear c23
            try clear c25
            try clear p2
            obtain ⟨kq, x66_18, rfl, HA, HJ18, HB⟩ := hcut
            cases kq with
            | zero => exact absurd HA.out (by simp [galoislaw04_ResidueOrders.j1])
            | succ kj18 =>
              have H := HA.out
              clear HA
              simp only [galoislaw04_ResidueOrders.j1] at H
              by_cases c27 : x66_18 = true
              · subst c27
                have H1 : (none) = some r := by rw [if_pos rfl] at H; exact H
                clear H
                have H := H1
                clear H1
                exact absurd H (by simp)
              · replace c27 := Bool.eq_false_iff.mpr c27
                subst c27
                have H1 : ((galoisref04_Coprime.f kj18 a0 a1).bind fun t115 => (if t115 = true then ((galoisref04_Order.f kj18 a0 a1).bind fun t116 => ((galoislaw04_is.f t104 t105 t116 0).bind fun t117 => (some t117))) else ((galoislaw04_is.f t104 t105 0 6).bind fun t118 => (some t118)))) = some r := by rw [if_neg (show ¬ (false = true) by decide)] at H; exact H
                clear H
                have H := H1
                clear H1
                replace H := Option.bind_eq_some_iff.mp H
                obtain ⟨t115, A280, H⟩ := H
                replace H : (if t115 = true then ((galoisref04_Order.f kj18 a0 a1).bind fun t116 => ((galoislaw04_is.f t104 t105 t116 0).bind fun t117 => (some t117))) else ((galoislaw04_is.f t104 t105 0 6).bind fun t118 => (some t118))) = some r := H
                have A28 := Aside0.mk A280
                clear A280
                by_cases c29 : t115 = true
                · subst c29
                  have H1 : ((galoisref04_Order.f kj18 a0 a1).bind fun t116 => ((galoislaw04_is.f t104 t105 t116 0).bind fun t117 => (some t117))) = some r := by rw [if_pos rfl] at H; exact H
                  clear H
                  have H := H1
                  clear H1
                  replace H := Option.bind_eq_some_iff.mp H
                  obtain ⟨t116, A300, H⟩ := H
                  replace H : ((galoislaw04_is.f t104 t105 t116 0).bind fun t117 => (some t117)) = some r := H
                  have A30 := Aside0.mk A300
                  clear A300
                  replace H := Option.bind_eq_some_iff.mp H
                  obtain ⟨t117, A310, H⟩ := H
                  replace H : (some t117) = some r := H
                  have A31 := Aside0.mk A310
                  clear A310
                  obtain rfl := Option.some.inj H
                  go_wp2_with (first | ((with_reducible refine gate_callee (f := 20) rfl ?_); refine goesL_ (some 69) rfl rfl Try.func20 (by kernel_rfl) rfl #[.int .i64 a0, .int .i64 a1] rfl (by (try simp only [List.map_toArray, List.map_cons, List.map_nil]); first | done | rfl | (simp only [List.length_drop, List.length_take]; rfl)) ?_; (with_reducible refine (galoisref04_Coprime.calls kj18 a0 a1 true _ A28.out).mono ?_); rintro e w' ⟨rfl, ⟨nd, rfl⟩⟩; refine ⟨_, rfl, ?_⟩) | ((with_reducible refine gate_callee (f := 21) rfl ?_); refine goesL_ (some 78) rfl rfl Try.func21 (by kernel_rfl) rfl #[.int .i64 a0, .int .i64 a1] rfl (by (try simp only [List.map_toArray, List.map_cons, List.map_nil]); first | done | rfl | (simp only [List.length_drop, List.length_take]; rfl)) ?_; (with_reducible refine (galoisref04_Order.calls kj18 a0 a1 t116 _ A30.out).mono ?_); rintro e w' ⟨rfl, ⟨nd, rfl⟩⟩; refine ⟨_, rfl, ?_⟩) | ((with_reducible refine gate_callee (f := 18) rfl ?_); refine goesL_ (some 79) rfl rfl Try.func18 (by kernel_rfl) rfl #[.int .i64 t104, .int .i64 t105, .int .i64 t116, .int .i64 0] rfl (by (try simp only [List.map_toArray, List.map_cons, List.map_nil]); first | done | rfl | (simp only [List.length_drop, List.length_take]; rfl)) ?_; (with_reducible refine (galoislaw04_is.calls t104 t105 t116 0 t117 _ A31.out).mono ?_); rintro e w' ⟨rfl, ⟨nd, rfl⟩⟩; refine ⟨_, rfl, ?_⟩))
                  go_ret
                  exact ⟨by first | rfl | (simp [errW_none, errW_some] <;> rfl) | (simp [*, errW_none, errW_some] <;> rfl), by repeat (first | (with_reducible first | exact HB.out | apply below_alloc | apply pw_below_drewN | apply below_drew1) | exact HB.out)⟩
                · replace c29 := Bool.eq_false_iff.mpr c29
                  subst c29
                  have H1 : ((galoislaw04_is.f t104 t105 0 6).bind fun t118 => (some t118)) = some r := by rw [if_neg (show ¬ (false = true) by decide)] at H; exact H
                  clear H
                  have H := H1
                  clear H1
                  replace H := Option.bind_eq_some_iff.mp H
                  obtain ⟨t118, A320, H⟩ := H
                  replace H : (some t118) = some r := H
                  have A32 := Aside0.mk A320
                  clear A320
                  obtain rfl := Option.some.inj H
                  go_wp2_with (first | ((with_reducible refine gate_callee (f := 20) rfl ?_); refine goesL_ (some 69) rfl rfl Try.func20 (by kernel_rfl) rfl #[.int .i64 a0, .int .i64 a1] rfl (by (try simp only [List.map_toArray, List.map_cons, List.map_nil]); first | done | rfl | (simp only [List.length_drop, List.length_take]; rfl)) ?_; (with_reducible refine (galoisref04_Coprime.calls kj18 a0 a1 false _ A28.out).mono ?_); rintro e w' ⟨rfl, ⟨nd, rfl⟩⟩; refine ⟨_, rfl, ?_⟩) | ((with_reducible refine gate_callee (f := 18) rfl ?_); refine goesL_ (some 73) rfl rfl Try.func18 (by kernel_rfl) rfl #[.int .i64 t104, .int .i64 t105, .int .i64 0, .int .i64 6] rfl (by (try simp only [List.map_toArray, List.map_cons, List.map_nil]); first | done | rfl | (simp only [List.length_drop, List.length_take]; rfl)) ?_; (with_reducible refine (galoislaw04_is.calls t104 t105 0 6 t118 _ A32.out).mono ?_); rintro e w' ⟨rfl, ⟨nd, rfl⟩⟩; refine ⟨_, rfl, ?_⟩))
                  go_ret
                  exact ⟨by first | rfl | (simp [errW_none, errW_some] <;> rfl) | (simp [*, errW_none, errW_some] <;> rfl), by repeat (first | (with_reducible first | exact HB.out | apply below_alloc | apply pw_below_drewN | apply below_drew1) | exact HB.out)⟩
        · replace c17 := Bool.eq_false_iff.mpr c17
          subst c17
          have H1 : ((galoislaw04_is.f t104 t105 0 3).bind fun t109 => (if t109 = true then ((galoislaw04_is.f t106 t107 0 3).bind fun t110 => (some t110)) else (none))) = some r := by rw [if_neg (show ¬ (false = true) by decide)] at H; exact H
          clear H
          have H := H1
          clear H1
          replace H := Option.bind_eq_some_iff.mp H
          obtain ⟨t109, A330, H⟩ := H
          replace H : (if t109 = true then ((galoislaw04_is.f t106 t107 0 3).bind fun t110 => (some t110)) else (none)) = some r := H
          have A33 := Aside0.mk A330
          clear A330
          by_cases c34 : t109 = true
          · subst c34
            have H1 : ((galoislaw04_is.f t106 t107 0 3).bind fun t110 => (some t110)) = some r := by rw [if_pos rfl] at H; exact H
            clear H
            have H := H1
            clear H1
            replace H := Option.bind_eq_some_iff.mp H
            obtain ⟨t110, A350, H⟩ := H
            replace H : (some t110) = some r := H
            have A35 := Aside0.mk A350
            clear A350
            obtain rfl := Option.some.inj H
            go_wp2_with (first | ((with_reducible refine gate_callee (f := 16) rfl ?_); refine goesL_ (some 25) rfl rfl Try.func16 (by kernel_rfl) rfl #[.int .i64 a0, .int .i64 a1] rfl (by (try simp only [List.map_toArray, List.map_cons, List.map_nil]); first | done | rfl | (simp only [List.length_drop, List.length_take]; rfl)) ?_; (with_reducible refine (residue_Order.calls kj2 a0 a1 t104 t105 _ A14.out).mono ?_); rintro e w36 ⟨rfl, hb⟩; refine ⟨_, rfl, ?_⟩; have n0_ := Aside0.mk (below_step (by repeat (first | (with_reducible first | exact HB.out | apply below_alloc | apply pw_below_drewN | apply below_drew1) | exact HB.out)) hb); clear HB; have HB := n0_; clear n0_; (try clear hb); (try clear hb2); (try clear hk); (try clear hi)) | ((with_reducible refine gate_callee (f := 17) rfl ?_); refine goesL_ (some 30) rfl rfl Try.func17 (by kernel_rfl) rfl #[.int .i64 a1] rfl (by (try simp only [List.map_toArray, List.map_cons, List.map_nil]); first | done | rfl | (simp only [List.length_drop, List.length_take]; rfl)) ?_; (with_reducible refine (residue_PrimitiveRoot.calls kj2 a1 t106 t107 _ A15.out).mono ?_); rintro e w37 ⟨rfl, hb⟩; refine ⟨_, rfl, ?_⟩; have n0_ := Aside0.mk (below_step (by repeat (first | (with_reducible first | exact HB.out | apply below_alloc | apply pw_below_drewN | apply below_drew1) | exact HB.out)) hb); clear HB; have HB := n0_; clear n0_; (try clear hb); (try clear hb2); (try clear hk); (try clear hi)) | ((with_reducible refine gate_callee (f := 15) rfl ?_); refine goesL_ (some 34) rfl rfl Try.func15 (by kernel_rfl) rfl #[.int .i64 a1] rfl (by (try simp only [List.map_toArray, List.map_cons, List.map_nil]); first | done | rfl | (simp only [List.length_drop, List.length_take]; rfl)) ?_; (with_reducible refine (galoisref04_IsModulus.calls a1 false _ A16.out).mono ?_); rintro e w' ⟨rfl, ⟨nd, rfl⟩⟩; refine ⟨_, rfl, ?_⟩) | ((with_reducible refine gate_callee (f := 18) rfl ?_); refine goesL_ (some 38) rfl rfl Try.func18 (by kernel_rfl) rfl #[.int .i64 t104, .int .i64 t105, .int .i64 0, .int .i64 3] rfl (by (try simp only [List.map_toArray, List.map_cons, List.map_nil]); first | done | rfl | (simp only [List.length_drop, List.length_take]; rfl)) ?_; (with_reducible refine (galoislaw04_is.calls t104 t105 0 3 true _ A33.out).mono ?_); rintro e w' ⟨rfl, ⟨nd, rfl⟩⟩; refine ⟨_, rfl, ?_⟩) | (go_at_call 18; (with_reducible refine (galoislaw04_is.calls t106 t107 0 3 t110 _ A35.out).mono ?_); rintro e w' ⟨rfl, ⟨nd, rfl⟩⟩))
            go_ret
            exact ⟨by first | rfl | (simp [errW_none, errW_some] <;> rfl) | (simp [*, errW_none, errW_some] <;> rfl), by repeat (first | (with_reducible first | exact HB.out | apply below_alloc | apply pw_below_drewN | apply below_drew1) | exact HB.out)⟩
          · replace c34 := Bool.eq_false_iff.mpr c34
            subst c34
            have H1 : (none) = some r := by rw [if_neg (show ¬ (false = true) by decide)] at H; exact H
            clear H
            have H := H1
            clear H1
            exact absurd H (by simp)

/-- THE ONE PURE STATEMENT of galoislaw04_ResidueOrders: yours. -/
def galoislaw04_ResidueOrders.Pure : Prop := ∀ (a0 : Int) (a1 : Int), (Lit.int .i64 a0).wf = true → (Lit.int .i64 a1).wf = true → ∃ k, galoislaw04_ResidueOrders.f k a0 a1 = some true
theorem galoislaw04_ResidueOrders.walk (P : galoislaw04_ResidueOrders.Pure) (a0 : Int) (a1 : Int) (w : World) (w0 : (Lit.int .i64 a0).wf = true) (w1 : (Lit.int .i64 a1).wf = true) :
    Calls Try.prog 3 #[.int .i64 a0, .int .i64 a1] w fun e w' => e = .returned (.bool true) ∧ Below w.heap.size w w' := by
  obtain ⟨k, h⟩ := P a0 a1 w0 w1
  refine (galoislaw04_ResidueOrders.calls k a0 a1 true w h).mono ?_
  rintro e w' ⟨rfl, hd⟩
  exact ⟨rfl, hd⟩

end Go.Proofs.Ytmedflaejnbkoaa.Q

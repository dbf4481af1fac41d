/- Machine side: a program of the session wrote this text (the kit's print.py and the session's own contracts). Conditions: none of its own. -/
import Derived.Test.YtmedflaejnbkoaaQ0
import Derived.Test.YtmedflaejnbkoaaQG2
import Derived.Test.YtmedflaejnbkoaaQF26
import Derived.Test.YtmedflaejnbkoaaQF27
import Derived.Test.YtmedflaejnbkoaaQF39
namespace Go.Proofs.Ytmedflaejnbkoaa.Q
open Go.RowKit Go.Proofs.YtmedflaejnbkoaaW.PrintWords Go.Proofs.YtmedflaejnbkoaaW.PrintLast Go.Proofs.YtmedflaejnbkoaaW.PrintMore
attribute [local go_sem] max2_int min2_int max_two min_two max_three min_three max_four min_four   -- for this text's walks alone
set_option linter.unusedVariables false
set_option linter.unusedSimpArgs false

/-! ### galoislaw04_ResidueRoots: function 10 -/
mutual
def galoislaw04_ResidueRoots.j0 : Nat → Int → Int → Int → Bool → Option (Bool)
  | 0, _, _, _, _ => none
  | k + 1, x0, x5, x7, x30 => if x30 = true then (some (x7 == 0)) else ((residue_Legendre.f k x0 x5).bind fun bt104 => ((residue_SquareRoot.f k x0 x5).bind fun bt106 => ((galoisref04_Mod.f x0 x5).bind fun t108 => (if x5 = 0 then (none) else ((residue_SquareRoot.f k (Int.tmod (wrap64 (t108 * t108)) x5) x5).bind fun bt109 => (if bt104.2 = 0 then (if bt109.2 = 0 then (if bt109.1 < 0 then (galoislaw04_ResidueRoots.j1 k x0 x5 bt104.1 bt106.1 bt106.2 true) else (if bt109.1 > (wrap64 (Int.tdiv (wrap64 (x5 - 1)) 2)) then (galoislaw04_ResidueRoots.j1 k x0 x5 bt104.1 bt106.1 bt106.2 true) else (if (Int.tmod (wrap64 (bt109.1 * bt109.1)) x5) = (Int.tmod (wrap64 (t108 * t108)) x5) then (galoislaw04_ResidueRoots.j1 k x0 x5 bt104.1 bt106.1 bt106.2 ((bt106.2 == 0) != (decide (bt104.1 ≥ 0)))) else (galoislaw04_ResidueRoots.j1 k x0 x5 bt104.1 bt106.1 bt106.2 true)))) else (galoislaw04_ResidueRoots.j1 k x0 x5 bt104.1 bt106.1 bt106.2 true)) else (galoislaw04_ResidueRoots.j1 k x0 x5 bt104.1 bt106.1 bt106.2 true)))))))
def galoislaw04_ResidueRoots.j1 : Nat → Int → Int → Int → Int → Int → Bool → Option (Bool)
  | 0, _, _, _, _, _, _ => none
  | k + 1, x0, x5, x8, x9, x10, x92 => if x92 = true then (none) else (if x8 < 0 then (if x9 = 0 then (some (x10 == 26)) else (none)) else (if x9 ≥ 0 then (if x9 ≤ (wrap64 (Int.tdiv (wrap64 (x5 - 1)) 2)) then (if x5 = 0 then (none) else ((galoisref04_Mod.f x0 x5).bind fun t111 => (some ((Int.tmod (wrap64 (x9 * x9)) x5) == t111)))) else (none)) else (none)))
end
def galoislaw04_ResidueRoots.f (k : Nat) (a0 : Int) (a1 : Int) : Option (Bool) := (galoislaw04_awake.f k).bind fun t101 => (if t101 = true then ((residue_IsPrime.f k (Go.bits .or .i64 (Int.tmod (wrap64 (a1)) 2147483647) 1)).bind fun bt102 => (if bt102.2 = 0 then (galoislaw04_ResidueRoots.j0 k a0 (Go.bits .or .i64 (Int.tmod (wrap64 (a1)) 2147483647) 1) bt102.2 (!bt102.1)) else (galoislaw04_ResidueRoots.j0 k a0 (Go.bits .or .i64 (Int.tmod (wrap64 (a1)) 2147483647) 1) bt102.2 true))) else (none))
theorem galoislaw04_ResidueRoots.mono_l : ∀ k, (∀ y0 y1 y2 y3, LeO (galoislaw04_ResidueRoots.j0 k y0 y1 y2 y3) (galoislaw04_ResidueRoots.j0 (k + 1) y0 y1 y2 y3)) ∧ (∀ y0 y1 y2 y3 y4 y5, LeO (galoislaw04_ResidueRoots.j1 k y0 y1 y2 y3 y4 y5) (galoislaw04_ResidueRoots.j1 (k + 1) y0 y1 y2 y3 y4 y5))
  | 0 => ⟨fun _ _ _ _ r h => by simp [galoislaw04_ResidueRoots.j0] at h, fun _ _ _ _ _ _ r h => by simp [galoislaw04_ResidueRoots.j1] at h⟩
  | k + 1 => by
    obtain ⟨ih0, ih1⟩ := galoislaw04_ResidueRoots.mono_l k
    refine ⟨?_, ?_⟩
    · intro y0 y1 y2 y3
      unfold galoislaw04_ResidueRoots.j0
      repeat' first
      | (with_reducible exact ih0 _ _ _ _)
      | (with_reducible exact ih1 _ _ _ _ _ _)
      | (with_reducible exact galoislaw04_awake.mono _)
      | (with_reducible exact residue_IsPrime.mono _ _)
      | (with_reducible exact residue_Legendre.mono _ _ _)
      | (with_reducible exact residue_SquareRoot.mono _ _ _)
      | (with_reducible exact LeO.refl _)
      | (with_reducible exact LeO.none _)
      | (with_reducible refine LeO.ite ?_ ?_)
      | (with_reducible refine LeO.bind ?_ (fun _ => ?_))
      | exact ih0 _ _ _ _
      | exact ih1 _ _ _ _ _ _
      | exact galoislaw04_awake.mono _
      | exact residue_IsPrime.mono _ _
      | exact residue_Legendre.mono _ _ _
      | exact residue_SquareRoot.mono _ _ _
      | exact LeO.none _
      | refine LeO.ite ?_ ?_
      | refine LeO.bind ?_ (fun _ => ?_)
    · intro y0 y1 y2 y3 y4 y5
      unfold galoislaw04_ResidueRoots.j1
      repeat' first
      | (with_reducible exact ih0 _ _ _ _)
      | (with_reducible exact ih1 _ _ _ _ _ _)
      | (with_reducible exact galoislaw04_awake.mono _)
      | (with_reducible exact residue_IsPrime.mono _ _)
      | (with_reducible exact residue_Legendre.mono _ _ _)
      | (with_reducible exact residue_SquareRoot.mono _ _ _)
      | (with_reducible exact LeO.refl _)
      | (with_reducible exact LeO.none _)
      | (with_reducible refine LeO.ite ?_ ?_)
      | (with_reducible refine LeO.bind ?_ (fun _ => ?_))
      | exact ih0 _ _ _ _
      | exact ih1 _ _ _ _ _ _
      | exact galoislaw04_awake.mono _
      | exact residue_IsPrime.mono _ _
      | exact residue_Legendre.mono _ _ _
      | exact residue_SquareRoot.mono _ _ _
      | exact LeO.none _
      | refine LeO.ite ?_ ?_
      | refine LeO.bind ?_ (fun _ => ?_)
theorem galoislaw04_ResidueRoots.mono : ∀ a0 a1 k, LeO (galoislaw04_ResidueRoots.f k a0 a1) (galoislaw04_ResidueRoots.f (k + 1) a0 a1) := by
  intro a0 a1 k
  obtain ⟨ih0, ih1⟩ := galoislaw04_ResidueRoots.mono_l k
  unfold galoislaw04_ResidueRoots.f
  repeat' first
      | (with_reducible exact ih0 _ _ _ _)
      | (with_reducible exact ih1 _ _ _ _ _ _)
      | (with_reducible exact galoislaw04_awake.mono _)
      | (with_reducible exact residue_IsPrime.mono _ _)
      | (with_reducible exact residue_Legendre.mono _ _ _)
      | (with_reducible exact residue_SquareRoot.mono _ _ _)
      | (with_reducible exact LeO.refl _)
      | (with_reducible exact LeO.none _)
      | (with_reducible refine LeO.ite ?_ ?_)
      | (with_reducible refine LeO.bind ?_ (fun _ => ?_))
      | exact ih0 _ _ _ _
      | exact ih1 _ _ _ _ _ _
      | exact galoislaw04_awake.mono _
      | exact residue_IsPrime.mono _ _
      | exact residue_Legendre.mono _ _ _
      | exact residue_SquareRoot.mono _ _ _
      | exact LeO.none _
      | refine LeO.ite ?_ ?_
      | refine LeO.bind ?_ (fun _ => ?_)
set_option maxHeartbeats 8000000 in
set_option maxRecDepth 100000 in
theorem galoislaw04_ResidueRoots.calls (k : Nat) (a0 : Int) (a1 : Int) (r : Bool) (w : World) (h : galoislaw04_ResidueRoots.f k a0 a1 = some r) :
    Calls Try.prog 10 #[.int .i64 a0, .int .u32 a1] w fun e w' => e = .returned (.bool r) ∧ Below w.heap.size w w' := by
  have HB := Aside0.mk (Below.refl w.heap.size w)
  have H : ((galoislaw04_awake.f k).bind fun t101 => (if t101 = true then ((residue_IsPrime.f k (Go.bits .or .i64 (Int.tmod (wrap64 (a1)) 2147483647) 1)).bind fun bt102 => (if bt102.2 = 0 then (galoislaw04_ResidueRoots.j0 k a0 (Go.bits .or .i64 (Int.tmod (wrap64 (a1)) 2147483647) 1) bt102.2 (!bt102.1)) else (galoislaw04_ResidueRoots.j0 k a0 (Go.bits .or .i64 (Int.tmod (wrap64 (a1)) 2147483647) 1) bt102.2 true))) else (none))) = some r := h
  clear h
  replace H := Option.bind_eq_some_iff.mp H
  obtain ⟨t101, A30, H⟩ := H
  replace H : (if t101 = true then ((residue_IsPrime.f k (Go.bits .or .i64 (Int.tmod (wrap64 (a1)) 2147483647) 1)).bind fun bt102 => (if bt102.2 = 0 then (galoislaw04_ResidueRoots.j0 k a0 (Go.bits .or .i64 (Int.tmod (wrap64 (a1)) 2147483647) 1) bt102.2 (!bt102.1)) else (galoislaw04_ResidueRoots.j0 k a0 (Go.bits .or .i64 (Int.tmod (wrap64 (a1)) 2147483647) 1) bt102.2 true))) else (none)) = some r := H
  have A3 := Aside0.mk A30
  clear A30
  by_cases c4 : t101 = true
  · subst c4
    have H1 : ((residue_IsPrime.f k (Go.bits .or .i64 (Int.tmod (wrap64 (a1)) 2147483647) 1)).bind fun bt102 => (if bt102.2 = 0 then (galoislaw04_ResidueRoots.j0 k a0 (Go.bits .or .i64 (Int.tmod (wrap64 (a1)) 2147483647) 1) bt102.2 (!bt102.1)) else (galoislaw04_ResidueRoots.j0 k a0 (Go.bits .or .i64 (Int.tmod (wrap64 (a1)) 2147483647) 1) bt102.2 true))) = some r := by rw [if_pos rfl] at H; exact H
    clear H
    have H := H1
    clear H1
    replace H := Option.bind_eq_some_iff.mp H
    obtain ⟨⟨t102, t103⟩, A50, H⟩ := H
    replace H : (if t103 = 0 then (galoislaw04_ResidueRoots.j0 k a0 (Go.bits .or .i64 (Int.tmod (wrap64 (a1)) 2147483647) 1) t103 (!t102)) else (galoislaw04_ResidueRoots.j0 k a0 (Go.bits .or .i64 (Int.tmod (wrap64 (a1)) 2147483647) 1) t103 true)) = some r := H
    have A5 := Aside0.mk A50
    clear A50
    have HC6 := Aside0.mk H
    clear H
    go_enter Try.func10, Try.ntmps10
    go_upto_region 5 with (first | (go_at_call 14; (with_reducible refine (galoislaw04_awake.calls k  true _ A3.out).mono ?_); rintro e w7 ⟨rfl, hb⟩; have n0_ := Aside0.mk (below_step (by repeat (first | (with_reducible first | exact HB.out | apply below_alloc | apply pw_below_drewN | apply below_drew1) | exact HB.out)) hb); clear HB; have HB := n0_; clear n0_; (try clear hb); (try clear hb2); (try clear hk); (try clear hi)) | (go_at_call 39; (with_reducible refine (residue_IsPrime.calls k (Go.bits .or .i64 (Int.tmod (wrap64 (a1)) 2147483647) 1) t102 t103 _ A5.out).mono ?_); rintro e w8 ⟨rfl, hb⟩; have n0_ := Aside0.mk (below_step (by repeat (first | (with_reducible first | exact HB.out | apply below_alloc | apply pw_below_drewN | apply below_drew1) | exact HB.out)) hb); clear HB; have HB := n0_; clear n0_; (try clear hb); (try clear hb2); (try clear hk); (try clear hi)))
    repeat (go_quiet (first | (go_at_call 14; (with_reducible refine (galoislaw04_awake.calls k  true _ A3.out).mono ?_); rintro e w7 ⟨rfl, hb⟩; have n0_ := Aside0.mk (below_step (by repeat (first | (with_reducible first | exact HB.out | apply below_alloc | apply pw_below_drewN | apply below_drew1) | exact HB.out)) hb); clear HB; have HB := n0_; clear n0_; (try clear hb); (try clear hb2); (try clear hk); (try clear hi)) | (go_at_call 39; (with_reducible refine (residue_IsPrime.calls k (Go.bits .or .i64 (Int.tmod (wrap64 (a1)) 2147483647) 1) t102 t103 _ A5.out).mono ?_); rintro e w8 ⟨rfl, hb⟩; have n0_ := Aside0.mk (below_step (by repeat (first | (with_reducible first | exact HB.out | apply below_alloc | apply pw_below_drewN | apply below_drew1) | exact HB.out)) hb); clear HB; have HB := n0_; clear n0_; (try clear hb); (try clear hb2); (try clear hk); (try clear hi))); go_upto_region 5 with (first | (go_at_call 14; (with_reducible refine (galoislaw04_awake.calls k  true _ A3.out).mono ?_); rintro e w7 ⟨rfl, hb⟩; have n0_ := Aside0.mk (below_step (by repeat (first | (with_reducible first | exact HB.out | apply below_alloc | apply pw_below_drewN | apply below_drew1) | exact HB.out)) hb); clear HB; have HB := n0_; clear n0_; (try clear hb); (try clear hb2); (try clear hk); (try clear hi)) | (go_at_call 39; (with_reducible refine (residue_IsPrime.calls k (Go.bits .or .i64 (Int.tmod (wrap64 (a1)) 2147483647) 1) t102 t103 _ A5.out).mono ?_); rintro e w8 ⟨rfl, hb⟩; have n0_ := Aside0.mk (below_step (by repeat (first | (with_reducible first | exact HB.out | apply below_alloc | apply pw_below_drewN | apply below_drew1) | exact HB.out)) hb); clear HB; have HB := n0_; clear n0_; (try clear hb); (try clear hb2); (try clear hk); (try clear hi))))
    (try simp only [Act.put, List.setIfInBounds_toArray, List.set_cons_zero, List.set_cons_succ])
    go_cut [30] (fun v30 wc => ∃ (kq : Nat) (x30_5 : Bool), v30 = .bool x30_5 ∧ Aside0 (galoislaw04_ResidueRoots.j0 kq a0 (Go.bits .or .i64 (Int.tmod (wrap64 (a1)) 2147483647) 1) t103 x30_5 = some r) ∧ Aside0 (kq ≤ k) ∧ Aside0 (Below w.heap.size w wc))
    case first =>
      have H := HC6.out
      clear HC6
      by_cases c9 : t103 = 0
      · rw [if_pos c9] at H
        have c9b0 : (t103 == 0) = true := beq_iff_eq.mpr c9
        have c9b1 : (t103 != 0) = false := bne_eq_false_iff_eq.mpr c9
        clear c9
        (first | rw [c9b0] | (simp only [i64_w, i32_w]; rw [c9b0]) | skip)
        have H' := Aside0.mk H
        clear H
        go_wp2
        repeat (go_quiet (fail); try go_wp2)
        go_meet
        case rel => exact ⟨_, (!t102), (by first | rfl | (simp; done) | (simp [*]; done)), H', ⟨by first | omega | exact Nat.le_refl _⟩, ⟨by repeat (first | (with_reducible first | exact HB.out | apply below_alloc | apply pw_below_drewN | apply below_drew1) | exact HB.out)⟩⟩
      · rw [if_neg c9] at H
        have c9b0 : (t103 == 0) = false := beq_eq_false_iff_ne.mpr c9
        have c9b1 : (t103 != 0) = true := bne_iff_ne.mpr c9
        (first | rw [c9b0] | (simp only [i64_w, i32_w]; rw [c9b0]) | skip)
        have H' := Aside0.mk H
        clear H
        go_wp2
        repeat (go_quiet (fail); try go_wp2)
        go_meet
        case rel => exact ⟨_, (true), (by first | rfl | (simp; done) | (simp [*]; done)), H', ⟨by first | omega | exact Nat.le_refl _⟩, ⟨by repeat (first | (with_reducible first | exact HB.out | apply below_alloc | apply pw_below_drewN | apply below_drew1) | exact HB.out)⟩⟩
    case rest =>
      clear HC6
      try clear c1
      try clear p2
      try clear c4
      try clear p6
      try clear c9
      try clear c9b0
      try clear c9b1
      obtain ⟨kq, x30_5, rfl, HA, HJ5, HB⟩ := hcut
      cases kq with
      | zero => exact absurd HA.out (by simp [galoislaw04_ResidueRoots.j0])
      | succ kj5 =>
        have H := HA.out
        clear HA
        simp only [galoislaw04_ResidueRoots.j0] at H
        by_cases c10 : x30_5 = true
        · subst c10
          have H1 : (some (t103 == 0)) = some r := by rw [if_pos rfl] at H; exact H
          clear H
          have H := H1
          clear H1
          obtain rfl := Option.some.inj H
          go_wp2
          repeat (go_quiet (fail); try go_wp2)
          go_ret
          exact ⟨by first | rfl | (simp [errW_none, errW_some] <;> rfl) | (simp [*, errW_none, errW_some] <;> rfl), by repeat (first | (with_reducible first | exact HB.out | apply below_alloc | apply pw_below_drewN | apply below_drew1) | exact HB.out)⟩
        · replace c10 := Bool.eq_false_iff.mpr c10
          subst c10
          have H1 : ((residue_Legendre.f kj5 a0 (Go.bits .or .i64 (Int.tmod (wrap64 (a1)) 2147483647) 1)).bind fun bt104 => ((residue_SquareRoot.f kj5 a0 (Go.bits .or .i64 (Int.tmod (wrap64 (a1)) 2147483647) 1)).bind fun bt106 => ((galoisref04_Mod.f a0 (Go.bits .or .i64 (Int.tmod (wrap64 (a1)) 2147483647) 1)).bind fun t108 => (if (Go.bits .or .i64 (Int.tmod (wrap64 (a1)) 2147483647) 1) = 0 then (none) else ((residue_SquareRoot.f kj5 (Int.tmod (wrap64 (t108 * t108)) (Go.bits .or .i64 (Int.tmod (wrap64 (a1)) 2147483647) 1)) (Go.bits .or .i64 (Int.tmod (wrap64 (a1)) 2147483647) 1)).bind fun bt109 => (if bt104.2 = 0 then (if bt109.2 = 0 then (if bt109.1 < 0 then (galoislaw04_ResidueRoots.j1 kj5 a0 (Go.bits .or .i64 (Int.tmod (wrap64 (a1)) 2147483647) 1) bt104.1 bt106.1 bt106.2 true) else (if bt109.1 > (wrap64 (Int.tdiv (wrap64 ((Go.bits .or .i64 (Int.tmod (wrap64 (a1)) 2147483647) 1) - 1)) 2)) then (galoislaw04_ResidueRoots.j1 kj5 a0 (Go.bits .or .i64 (Int.tmod (wrap64 (a1)) 2147483647) 1) bt104.1 bt106.1 bt106.2 true) else (if (Int.tmod (wrap64 (bt109.1 * bt109.1)) (Go.bits .or .i64 (Int.tmod (wrap64 (a1)) 2147483647) 1)) = (Int.tmod (wrap64 (t108 * t108)) (Go.bits .or .i64 (Int.tmod (wrap64 (a1)) 2147483647) 1)) then (galoislaw04_ResidueRoots.j1 kj5 a0 (Go.bits .or .i64 (Int.tmod (wrap64 (a1)) 2147483647) 1) bt104.1 bt106.1 bt106.2 ((bt106.2 == 0) != (decide (bt104.1 ≥ 0)))) else (galoislaw04_ResidueRoots.j1 kj5 a0 (Go.bits .or .i64 (Int.tmod (wrap64 (a1)) 2147483647) 1) bt104.1 bt106.1 bt106.2 true)))) else (galoislaw04_ResidueRoots.j1 kj5 a0 (Go.bits .or .i64 (Int.tmod (wrap64 (a1)) 2147483647) 1) bt104.1 bt106.1 bt106.2 true)) else (galoislaw04_ResidueRoots.j1 kj5 a0 (Go.bits .or .i64 (Int.tmod (wrap64 (a1)) 2147483647) 1) bt104.1 bt106.1 bt106.2 true))))))) = some r := by rw [if_neg (show ¬ (false = true) by decide)] at H; exact H
          clear H
          have H := H1
          clear H1
          replace H := Option.bind_eq_some_iff.mp H
          obtain ⟨⟨t104, t105⟩, A110, H⟩ := H
          replace H : ((residue_SquareRoot.f kj5 a0 (Go.bits .or .i64 (Int.tmod (wrap64 (a1)) 2147483647) 1)).bind fun bt106 => ((galoisref04_Mod.f a0 (Go.bits .or .i64 (Int.tmod (wrap64 (a1)) 2147483647) 1)).bind fun t108 => (if (Go.bits .or .i64 (Int.tmod (wrap64 (a1)) 2147483647) 1) = 0 then (none) else ((residue_SquareRoot.f kj5 (Int.tmod (wrap64 (t108 * t108)) (Go.bits .or .i64 (Int.tmod (wrap64 (a1)) 2147483647) 1)) (Go.bits .or .i64 (Int.tmod (wrap64 (a1)) 2147483647) 1)).bind fun bt109 => (if t105 = 0 then (if bt109.2 = 0 then (if bt109.1 < 0 then (galoislaw04_ResidueRoots.j1 kj5 a0 (Go.bits .or .i64 (Int.tmod (wrap64 (a1)) 2147483647) 1) t104 bt106.1 bt106.2 true) else (if bt109.1 > (wrap64 (Int.tdiv (wrap64 ((Go.bits .or .i64 (Int.tmod (wrap64 (a1)) 2147483647) 1) - 1)) 2)) then (galoislaw04_ResidueRoots.j1 kj5 a0 (Go.bits .or .i64 (Int.tmod (wrap64 (a1)) 2147483647) 1) t104 bt106.1 bt106.2 true) else (if (Int.tmod (wrap64 (bt109.1 * bt109.1)) (Go.bits .or .i64 (Int.tmod (wrap64 (a1)) 2147483647) 1)) = (Int.tmod (wrap64 (t108 * t108)) (Go.bits .or .i64 (Int.tmod (wrap64 (a1)) 2147483647) 1)) then (galoislaw04_ResidueRoots.j1 kj5 a0 (Go.bits .or .i64 (Int.tmod (wrap64 (a1)) 2147483647) 1) t104 bt106.1 bt106.2 ((bt106.2 == 0) != (decide (t104 ≥ 0)))) else (galoislaw04_ResidueRoots.j1 kj5 a0 (Go.bits .or .i64 (Int.tmod (wrap64 (a1)) 2147483647) 1) t104 bt106.1 bt106.2 true)))) else (galoislaw04_ResidueRoots.j1 kj5 a0 (Go.bits .or .i64 (Int.tmod (wrap64 (a1)) 2147483647) 1) t104 bt106.1 bt106.2 true)) else (galoislaw04_ResidueRoots.j1 kj5 a0 (Go.bits .or .i64 (Int.tmod (wrap64 (a1)) 2147483647) 1) t104 bt106.1 bt106.2 true)))))) = some r := H
          have A11 := Aside0.mk A110
          clear A110
          replace H := Option.bind_eq_some_iff.mp H
          obtain ⟨⟨t106, t107⟩, A120, H⟩ := H
          replace H : ((galoisref04_Mod.f a0 (Go.bits .or .i64 (Int.tmod (wrap64 (a1)) 2147483647) 1)).bind fun t108 => (if (Go.bits .or .i64 (Int.tmod (wrap64 (a1)) 2147483647) 1) = 0 then (none) else ((residue_SquareRoot.f kj5 (Int.tmod (wrap64 (t108 * t108)) (Go.bits .or .i64 (Int.tmod (wrap64 (a1)) 2147483647) 1)) (Go.bits .or .i64 (Int.tmod (wrap64 (a1)) 2147483647) 1)).bind fun bt109 => (if t105 = 0 then (if bt109.2 = 0 then (if bt109.1 < 0 then (galoislaw04_ResidueRoots.j1 kj5 a0 (Go.bits .or .i64 (Int.tmod (wrap64 (a1)) 2147483647) 1) t104 t106 t107 true) else (if bt109.1 > (wrap64 (Int.tdiv (wrap64 ((Go.bits .or .i64 (Int.tmod (wrap64 (a1)) 2147483647) 1) - 1)) 2)) then (galoislaw04_ResidueRoots.j1 kj5 a0 (Go.bits .or .i64 (Int.tmod (wrap64 (a1)) 2147483647) 1) t104 t106 t107 true) else (if (Int.tmod (wrap64 (bt109.1 * bt109.1)) (Go.bits .or .i64 (Int.tmod (wrap64 (a1)) 2147483647) 1)) = (Int.tmod (wrap64 (t108 * t108)) (Go.bits .or .i64 (Int.tmod (wrap64 (a1)) 2147483647) 1)) then (galoislaw04_ResidueRoots.j1 kj5 a0 (Go.bits .or .i64 (Int.tmod (wrap64 (a1)) 2147483647) 1) t104 t106 t107 ((t107 == 0) != (decide (t104 ≥ 0)))) else (galoislaw04_ResidueRoots.j1 kj5 a0 (Go.bits .or .i64 (Int.tmod (wrap64 (a1)) 2147483647) 1) t104 t106 t107 true)))) else (galoislaw04_ResidueRoots.j1 kj5 a0 (Go.bits .or .i64 (Int.tmod (wrap64 (a1)) 2147483647) 1) t104 t106 t107 true)) else (galoislaw04_ResidueRoots.j1 kj5 a0 (Go.bits .or .i64 (Int.tmod (wrap64 (a1)) 2147483647) 1) t104 t106 t107 true))))) = some r := H
          have A12 := Aside0.mk A120
          clear A120
          replace H := Option.bind_eq_some_iff.mp H
          obtain ⟨t108, A130, H⟩ := H
          replace H : (if (Go.bits .or .i64 (Int.tmod (wrap64 (a1)) 2147483647) 1) = 0 then (none) else ((residue_SquareRoot.f kj5 (Int.tmod (wrap64 (t108 * t108)) (Go.bits .or .i64 (Int.tmod (wrap64 (a1)) 2147483647) 1)) (Go.bits .or .i64 (Int.tmod (wrap64 (a1)) 2147483647) 1)).bind fun bt109 => (if t105 = 0 then (if bt109.2 = 0 then (if bt109.1 < 0 then (galoislaw04_ResidueRoots.j1 kj5 a0 (Go.bits .or .i64 (Int.tmod (wrap64 (a1)) 2147483647) 1) t104 t106 t107 true) else (if bt109.1 > (wrap64 (Int.tdiv (wrap64 ((Go.bits .or .i64 (Int.tmod (wrap64 (a1)) 2147483647) 1) - 1)) 2)) then (galoislaw04_ResidueRoots.j1 kj5 a0 (Go.bits .or .i64 (Int.tmod (wrap64 (a1)) 2147483647) 1) t104 t106 t107 true) else (if (Int.tmod (wrap64 (bt109.1 * bt109.1)) (Go.bits .or .i64 (Int.tmod (wrap64 (a1)) 2147483647) 1)) = (Int.tmod (wrap64 (t108 * t108)) (Go.bits .or .i64 (Int.tmod (wrap64 (a1)) 2147483647) 1)) then (galoislaw04_ResidueRoots.j1 kj5 a0 (Go.bits .or .i64 (Int.tmod (wrap64 (a1)) 2147483647) 1) t104 t106 t107 ((t107 == 0) != (decide (t104 ≥ 0)))) else (galoislaw04_ResidueRoots.j1 kj5 a0 (Go.bits .or .i64 (Int.tmod (wrap64 (a1)) 2147483647) 1) t104 t106 t107 true)))) else (galoislaw04_ResidueRoots.j1 kj5 a0 (Go.bits .or .i64 (Int.tmod (wrap64 (a1)) 2147483647) 1) t104 t106 t107 true)) else (galoislaw04_ResidueRoots.j1 kj5 a0 (Go.bits .or .i64 (Int.tmod (wrap64 (a1)) 2147483647) 1) t104 t106 t107 true)))) = some r := H
          have A13 := Aside0.mk A130
          clear A130
          by_cases c14 : (Go.bits .or .i64 (Int.tmod (wrap64 (a1)) 2147483647) 1) = 0
          · rw [if_pos c14] at H
            exact absurd H (by simp)
          · rw [if_neg c14] at H
            have c14b0 : ((Go.bits .or .i64 (Int.tmod (wrap64 (a1)) 2147483647) 1) == 0) = false := beq_eq_false_iff_ne.mpr c14
            have c14b1 : ((Go.bits .or .i64 (Int.tmod (wrap64 (a1)) 2147483647) 1) != 0) = true := bne_iff_ne.mpr c14
            replace H := Option.bind_eq_some_iff.mp H
            obtain ⟨⟨t109, t110⟩, A150, H⟩ := H
            replace H : (if t105 = 0 then (if t110 = 0 then (if t109 < 0 then (galoislaw04_ResidueRoots.j1 kj5 a0 (Go.bits .or .i64 (Int.tmod (wrap64 (a1)) 2147483647) 1) t104 t106 t107 true) else (if t109 > (wrap64 (Int.tdiv (wrap64 ((Go.bits .or .i64 (Int.tmod (wrap64 (a1)) 2147483647) 1) - 1)) 2)) then (galoislaw04_ResidueRoots.j1 kj5 a0 (Go.bits .or .i64 (Int.tmod (wrap64 (a1)) 2147483647) 1) t104 t106 t107 true) else (if (Int.tmod (wrap64 (t109 * t109)) (Go.bits .or .i64 (Int.tmod (wrap64 (a1)) 2147483647) 1)) = (Int.tmod (wrap64 (t108 * t108)) (Go.bits .or .i64 (Int.tmod (wrap64 (a1)) 2147483647) 1)) then (galoislaw04_ResidueRoots.j1 kj5 a0 (Go.bits .or .i64 (Int.tmod (wrap64 (a1)) 2147483647) 1) t104 t106 t107 ((t107 == 0) != (decide (t104 ≥ 0)))) else (galoislaw04_ResidueRoots.j1 kj5 a0 (Go.bits .or .i64 (Int.tmod (wrap64 (a1)) 2147483647) 1) t104 t106 t107 true)))) else (galoislaw04_ResidueRoots.j1 kj5 a0 (Go.bits .or .i64 (Int.tmod (wrap64 (a1)) 2147483647) 1) t104 t106 t107 true)) else (galoislaw04_ResidueRoots.j1 kj5 a0 (Go.bits .or .i64 (Int.tmod (wrap64 (a1)) 2147483647) 1) t104 t106 t107 true)) = some r := H
            have A15 := Aside0.mk A150
            clear A150
            have HC16 := Aside0.mk H
            clear H
            go_upto_region 11 with (first | (go_at_call 27; (with_reducible refine (residue_Legendre.calls kj5 a0 (Go.bits .or .i64 (Int.tmod (wrap64 (a1)) 2147483647) 1) t104 t105 _ A11.out).mono ?_); rintro e w17 ⟨rfl, hb⟩; have n0_ := Aside0.mk (below_step (by repeat (first | (with_reducible first | exact HB.out | apply below_alloc | apply pw_below_drewN | apply below_drew1) | exact HB.out)) hb); clear HB; have HB := n0_; clear n0_; (try clear hb); (try clear hb2); (try clear hk); (try clear hi)) | (go_at_call 28; (with_reducible refine (residue_SquareRoot.calls kj5 a0 (Go.bits .or .i64 (Int.tmod (wrap64 (a1)) 2147483647) 1) t106 t107 _ A12.out).mono ?_); rintro e w18 ⟨rfl, hb⟩; have n0_ := Aside0.mk (below_step (by repeat (first | (with_reducible first | exact HB.out | apply below_alloc | apply pw_below_drewN | apply below_drew1) | exact HB.out)) hb); clear HB; have HB := n0_; clear n0_; (try clear hb); (try clear hb2); (try clear hk); (try clear hi)) | (go_at_call 26; (with_reducible refine (galoisref04_Mod.calls a0 (Go.bits .or .i64 (Int.tmod (wrap64 (a1)) 2147483647) 1) t108 _ A13.out).mono ?_); rintro e w' ⟨rfl, ⟨nd, rfl⟩⟩; (try first | exact ⟨rfl, _, World.drewN_drewN _ _ _⟩ | exact ⟨rfl, _, Eq.trans (World.drewN_drewN _ _ _) (congrArg (World.drewN _) (Nat.add_assoc _ _ _))⟩)) | (go_at_call 28; (with_reducible refine (residue_SquareRoot.calls kj5 (Int.tmod (wrap64 (t108 * t108)) (Go.bits .or .i64 (Int.tmod (wrap64 (a1)) 2147483647) 1)) (Go.bits .or .i64 (Int.tmod (wrap64 (a1)) 2147483647) 1) t109 t110 _ A15.out).mono ?_); rintro e w19 ⟨rfl, hb⟩; have n0_ := Aside0.mk (below_step (by repeat (first | (with_reducible first | exact HB.out | apply below_alloc | apply pw_below_drewN | apply below_drew1) | exact HB.out)) hb); clear HB; have HB := n0_; clear n0_; (try clear hb); (try clear hb2); (try clear hk); (try clear hi)))
            repeat (go_quiet (first | (go_at_call 27; (with_reducible refine (residue_Legendre.calls kj5 a0 (Go.bits .or .i64 (Int.tmod (wrap64 (a1)) 2147483647) 1) t104 t105 _ A11.out).mono ?_); rintro e w17 ⟨rfl, hb⟩; have n0_ := Aside0.mk (below_step (by repeat (first | (with_reducible first | exact HB.out | apply below_alloc | apply pw_below_drewN | apply below_drew1) | exact HB.out)) hb); clear HB; have HB := n0_; clear n0_; (try clear hb); (try clear hb2); (try clear hk); (try clear hi)) | (go_at_call 28; (with_reducible refine (residue_SquareRoot.calls kj5 a0 (Go.bits .or .i64 (Int.tmod (wrap64 (a1)) 2147483647) 1) t106 t107 _ A12.out).mono ?_); rintro e w18 ⟨rfl, hb⟩; have n0_ := Aside0.mk (below_step (by repeat (first | (with_reducible first | exact HB.out | apply below_alloc | apply pw_below_drewN | apply below_drew1) | exact HB.out)) hb); clear HB; have HB := n0_; clear n0_; (try clear hb); (try clear hb2); (try clear hk); (try clear hi)) | (go_at_call 26; (with_reducible refine (galoisref04_Mod.calls a0 (Go.bits .or .i64 (Int.tmod (wrap64 (a1)) 2147483647) 1) t108 _ A13.out).mono ?_); rintro e w' ⟨rfl, ⟨nd, rfl⟩⟩; (try first | exact ⟨rfl, _, World.drewN_drewN _ _ _⟩ | exact ⟨rfl, _, Eq.trans (World.drewN_drewN _ _ _) (congrArg (World.drewN _) (Nat.add_assoc _ _ _))⟩)) | (go_at_call 28; (with_reducible refine (residue_SquareRoot.calls kj5 (Int.tmod (wrap64 (t108 * t108)) (Go.bits .or .i64 (Int.tmod (wrap64 (a1)) 2147483647) 1)) (Go.bits .or .i64 (Int.tmod (wrap64 (a1)) 2147483647) 1) t109 t110 _ A15.out).mono ?_); rintro e w19 ⟨rfl, hb⟩; have n0_ := Aside0.mk (below_step (by repeat (first | (with_reducible first | exact HB.out | apply below_alloc | apply pw_below_drewN | apply below_drew1) | exact HB.out)) hb); clear HB; have HB := n0_; clear n0_; (try clear hb); (try clear hb2); (try clear hk); (try clear hi))); go_upto_region 11 with (first | (go_at_call 27; (with_reducible refine (residue_Legendre.calls kj5 a0 (Go.bits .or .i64 (Int.tmod (wrap64 (a1)) 2147483647) 1) t104 t105 _ A11.out).mono ?_); rintro e w17 ⟨rfl, hb⟩; have n0_ := Aside0.mk (below_step (by repeat (first | (with_reducible first | exact HB.out | apply below_alloc | apply pw_below_drewN | apply below_drew1) | exact HB.out)) hb); clear HB; have HB := n0_; clear n0_; (try clear hb); (try clear hb2); (try clear hk); (try clear hi)) | (go_at_call 28; (with_reducible refine (residue_SquareRoot.calls kj5 a0 (Go.bits .or .i64 (Int.tmod (wrap64 (a1)) 2147483647) 1) t106 t107 _ A12.out).mono ?_); rintro e w18 ⟨rfl, hb⟩; have n0_ := Aside0.mk (below_step (by repeat (first | (with_reducible first | exact HB.out | apply below_alloc | apply pw_below_drewN | apply below_drew1) | exact HB.out)) hb); clear HB; have HB := n0_; clear n0_; (try clear hb); (try clear hb2); (try clear hk); (try clear hi)) | (go_at_call 26; (with_reducible refine (galoisref04_Mod.calls a0 (Go.bits .or .i64 (Int.tmod (wrap64 (a1)) 2147483647) 1) t108 _ A13.out).mono ?_); rintro e w' ⟨rfl, ⟨nd, rfl⟩⟩; (try first | exact ⟨rfl, _, World.drewN_drewN _ _ _⟩ | exact ⟨rfl, _, Eq.trans (World.drewN_drewN _ _ _) (congrArg (World.drewN _) (Nat.add_assoc _ _ _))⟩)) | (go_at_call 28; (with_reducible refine (residue_SquareRoot.calls kj5 (Int.tmod (wrap64 (t108 * t108)) (Go.bits .or .i64 (Int.tmod (wrap64 (a1)) 2147483647) 1)) (Go.bits .or .i64 (Int.tmod (wrap64 (a1)) 2147483647) 1) t109 t110 _ A15.out).mono ?_); rintro e w19 ⟨rfl, hb⟩; have n0_ := Aside0.mk (below_step (by repeat (first | (with_reducible first | exact HB.out | apply below_alloc | apply pw_below_drewN | apply below_drew1) | exact HB.out)) hb); clear HB; have HB := n0_; clear n0_; (try clear hb); (try clear hb2); (try clear hk); (try clear hi))))
            (try simp only [Act.put, List.setIfInBounds_toArray, List.set_cons_zero, List.set_cons_succ])
            go_cut [92] (fun v92 wc => ∃ (kq : Nat) (x92_15 : Bool), v92 = .bool x92_15 ∧ Aside0 (galoislaw04_ResidueRoots.j1 kq a0 (Go.bits .or .i64 (Int.tmod (wrap64 (a1)) 2147483647) 1) t104 t106 t107 x92_15 = some r) ∧ Aside0 (kq ≤ kj5) ∧ Aside0 (Below w.heap.size w wc))
            case first =>
              have H := HC16.out
              clear HC16
              by_cases c20 : t105 = 0
              · rw [if_pos c20] at H
                have c20b0 : (t105 == 0) = true := beq_iff_eq.mpr c20
                have c20b1 : (t105 != 0) = false := bne_eq_false_iff_eq.mpr c20
                clear c20
                (first | rw [c20b0] | (simp only [i64_w, i32_w]; rw [c20b0]) | skip)
                by_cases c21 : t110 = 0
                · rw [if_pos c21] at H
                  have c21b0 : (t110 == 0) = true := beq_iff_eq.mpr c21
                  have c21b1 : (t110 != 0) = false := bne_eq_false_iff_eq.mpr c21
                  clear c21
                  by_cases c22 : t109 < 0
                  · rw [if_pos c22] at H
                    have c22b0 : decide (t109 < 0) = true := decide_eq_true c22
                    clear c22
                    have H' := Aside0.mk H
                    clear H
                    go_wp2
                    repeat (go_quiet (fail); try go_wp2)
                    go_meet
                    case rel => exact ⟨_, (true), (by first | rfl | (simp; done) | (simp [*]; done)), H', ⟨by have := HJ5.out; first | omega | exact Nat.le_refl _⟩, ⟨by repeat (first | (with_reducible first | exact HB.out | apply below_alloc | apply pw_below_drewN | apply below_drew1) | exact HB.out)⟩⟩
                  · rw [if_neg c22] at H
                    have c22b0 : decide (t109 < 0) = false := decide_eq_false c22
                    clear c22
                    by_cases c23 : t109 > (wrap64 (Int.tdiv (wrap64 ((Go.bits .or .i64 (Int.tmod (wrap64 (a1)) 2147483647) 1) - 1)) 2))
                    · rw [if_pos c23] at H
                      have c23b0 : decide ((wrap64 (Int.tdiv (wrap64 ((Go.bits .or .i64 (Int.tmod (wrap64 (a1)) 2147483647) 1) - 1)) 2)) < t109) = true := decide_eq_true c23
                      clear c23
                      have H' := Aside0.mk H
                      clear H
                      go_wp2
                      repeat (go_quiet (fail); try go_wp2)
                      go_meet
                      case rel => exact ⟨_, (true), (by first | rfl | (simp; done) | (simp [*]; done)), H', ⟨by have := HJ5.out; first | omega | exact Nat.le_refl _⟩, ⟨by repeat (first | (with_reducible first | exact HB.out | apply below_alloc | apply pw_below_drewN | apply below_drew1) | exact HB.out)⟩⟩
                    · rw [if_neg c23] at H
                      have c23b0 : decide ((wrap64 (Int.tdiv (wrap64 ((Go.bits .or .i64 (Int.tmod (wrap64 (a1)) 2147483647) 1) - 1)) 2)) < t109) = false := decide_eq_false c23
                      clear c23
                      by_cases c24 : (Int.tmod (wrap64 (t109 * t109)) (Go.bits .or .i64 (Int.tmod (wrap64 (a1)) 2147483647) 1)) = (Int.tmod (wrap64 (t108 * t108)) (Go.bits .or .i64 (Int.tmod (wrap64 (a1)) 2147483647) 1))
                      · rw [if_pos c24] at H
                        have c24b0 : ((Int.tmod (wrap64 (t109 * t109)) (Go.bits .or .i64 (Int.tmod (wrap64 (a1)) 2147483647) 1)) == (Int.tmod (wrap64 (t108 * t108)) (Go.bits .or .i64 (Int.tmod (wrap64 (a1)) 2147483647) 1))) = true := beq_iff_eq.mpr c24
                        have c24b1 : ((Int.tmod (wrap64 (t109 * t109)) (Go.bits .or .i64 (Int.tmod (wrap64 (a1)) 2147483647) 1)) != (Int.tmod (wrap64 (t108 * t108)) (Go.bits .or .i64 (Int.tmod (wrap64 (a1)) 2147483647) 1))) = false := bne_eq_false_iff_eq.mpr c24
                        clear c24
                        have H' := Aside0.mk H
                        clear H
                        go_wp2
                        repeat (go_quiet (fail); try go_wp2)
                        go_meet
                        case rel => exact ⟨_, (((t107 == 0) != (decide (t104 ≥ 0)))), (by first | rfl | (simp; done) | (simp [*]; done)), H', ⟨by have := HJ5.out; first | omega | exact Nat.le_refl _⟩, ⟨by repeat (first | (with_reducible first | exact HB.out | apply below_alloc | apply pw_below_drewN | apply below_drew1) | exact HB.out)⟩⟩
                      · rw [if_neg c24] at H
                        have c24b0 : ((Int.tmod (wrap64 (t109 * t109)) (Go.bits .or .i64 (Int.tmod (wrap64 (a1)) 2147483647) 1)) == (Int.tmod (wrap64 (t108 * t108)) (Go.bits .or .i64 (Int.tmod (wrap64 (a1)) 2147483647) 1))) = false := beq_eq_false_iff_ne.mpr c24
                        have c24b1 : ((Int.tmod (wrap64 (t109 * t109)) (Go.bits .or .i64 (Int.tmod (wrap64 (a1)) 2147483647) 1)) != (Int.tmod (wrap64 (t108 * t108)) (Go.bits .or .i64 (Int.tmod (wrap64 (a1)) 2147483647) 1))) = true := bne_iff_ne.mpr c24
                        have H' := Aside0.mk H
                        clear H
                        go_wp2
                        repeat (go_quiet (fail); try go_wp2)
                        go_meet
                        case rel => exact ⟨_, (true), (by first | rfl | (simp; done) | (simp [*]; done)), H', ⟨by have := HJ5.out; first | omega | exact Nat.le_refl _⟩, ⟨by repeat (first | (with_reducible first | exact HB.out | apply below_alloc | apply pw_below_drewN | apply below_drew1) | exact HB.out)⟩⟩
                · rw [if_neg c21] at H
                  have c21b0 : (t110 == 0) = false := beq_eq_false_iff_ne.mpr c21
                  have c21b1 : (t110 != 0) = true := bne_iff_ne.mpr c21
                  have H' := Aside0.mk H
                  clear H
                  go_wp2
                  repeat (go_quiet (fail); try go_wp2)
                  go_meet
                  case rel => exact ⟨_, (true), (by first | rfl | (simp; done) | (simp [*]; done)), H', ⟨by have := HJ5.out; first | omega | exact Nat.le_refl _⟩, ⟨by repeat (first | (with_reducible first | exact HB.out | apply below_alloc | apply pw_below_drewN | apply below_drew1) | exact HB.out)⟩⟩
              · rw [if_neg c20] at H
                have c20b0 : (t105 == 0) = false := beq_eq_false_iff_ne.mpr c20
                have c20b1 : (t105 != 0) = true := bne_iff_ne.mpr c20
                (first | rw [c20b0] | (simp only [i64_w, i32_w]; rw [c20b0]) | skip)
                have H' := Aside0.mk H
                clear H
                go_wp2
                repeat (go_quiet (fail); try go_wp2)
                go_meet
                case rel => exact ⟨_, (true), (by first | rfl | (simp; done) | (simp [*]; done)), H', ⟨by have := HJ5.out; first | omega | exact Nat.le_refl _⟩, ⟨by repeat (first | (with_reducible first | exact HB.out | apply below_alloc | apply pw_below_drewN | apply below_drew1) | exact HB.out)⟩⟩
            case rest =>
              clear HC16
              try clear c1
              try clear c2
              try clear p2
              try clear c4
              try clear p6
              try clear c9
              try clear c9b0
              try clear c9b1
              try clear c10
              try clear c14
              try clear c14b0
              try clear c14b1
              try clear c20
              try clear c20b0
              try clear c20b1
              try clear c21
              try clear c21b0
              try clear c21b1
              try clear c22
              try clear c22b0
              try clear c23
              try clear c23b0
              try clear c24
              try clear c24b0
              try clear c24b1
              try clear p2
              try clear p6
              obtain ⟨kq, x92_15, rfl, HA, HJ15, HB⟩ := hcut
              cases kq with
              | zero => exact absurd HA.out (by simp [galoislaw04_ResidueRoots.j1])
              | succ kj15 =>
                have H := HA.out
                clear HA
                simp only [galoislaw04_ResidueRoots.j1] at H
                by_cases c25 : x92_15 = true
                · subst c25
                  have H1 : (none) = some r := by rw [if_pos rfl] at H; exact H
                  clear H
                  have H := H1
                  clear H1
                  exact absurd H (by simp)
                · replace c25 := Bool.eq_false_iff.mpr c25
                  subst c25
                  have H1 : (if t104 < 0 then (if t106 = 0 then (some (t107 == 26)) else (none)) else (if t106 ≥ 0 then (if t106 ≤ (wrap64 (Int.tdiv (wrap64 ((Go.bits .or .i64 (Int.tmod (wrap64 (a1)) 2147483647) 1) - 1)) 2)) then (if (Go.bits .or .i64 (Int.tmod (wrap64 (a1)) 2147483647) 1) = 0 then (none) else ((galoisref04_Mod.f a0 (Go.bits .or .i64 (Int.tmod (wrap64 (a1)) 2147483647) 1)).bind fun t111 => (some ((Int.tmod (wrap64 (t106 * t106)) (Go.bits .or .i64 (Int.tmod (wrap64 (a1)) 2147483647) 1)) == t111)))) else (none)) else (none))) = some r := by rw [if_neg (show ¬ (false = true) by decide)] at H; exact H
                  clear H
                  have H := H1
                  clear H1
                  by_cases c26 : t104 < 0
                  · rw [if_pos c26] at H
                    have c26b0 : decide (t104 < 0) = true := decide_eq_true c26
                    clear c26
                    by_cases c27 : t106 = 0
                    · rw [if_pos c27] at H
                      have c27b0 : (t106 == 0) = true := beq_iff_eq.mpr c27
                      have c27b1 : (t106 != 0) = false := bne_eq_false_iff_eq.mpr c27
                      clear c27
                      obtain rfl := Option.some.inj H
                      go_wp2
                      repeat (go_quiet (fail); try go_wp2)
                      go_ret
                      exact ⟨by first | rfl | (simp [errW_none, errW_some] <;> rfl) | (simp [*, errW_none, errW_some] <;> rfl), by repeat (first | (with_reducible first | exact HB.out | apply below_alloc | apply pw_below_drewN | apply below_drew1) | exact HB.out)⟩
                    · rw [if_neg c27] at H
                      exact absurd H (by simp)
                  · rw [if_neg c26] at H
                    have c26b0 : decide (t104 < 0) = false := decide_eq_false c26
                    clear c26
                    by_cases c28 : t106 ≥ 0
                    · rw [if_pos c28] at H
                      have c28b0 : decide (0 ≤ t106) = true := decide_eq_true c28
                      clear c28
                      by_cases c29 : t106 ≤ (wrap64 (Int.tdiv (wrap64 ((Go.bits .or .i64 (Int.tmod (wrap64 (a1)) 2147483647) 1) - 1)) 2))
                      · rw [if_pos c29] at H
                        have c29b0 : decide (t106 ≤ (wrap64 (Int.tdiv (wrap64 ((Go.bits .or .i64 (Int.tmod (wrap64 (a1)) 2147483647) 1) - 1)) 2))) = true := decide_eq_true c29
                        clear c29
                        by_cases c30 : (Go.bits .or .i64 (Int.tmod (wrap64 (a1)) 2147483647) 1) = 0
                        · rw [if_pos c30] at H
                          exact absurd H (by simp)
                        · rw [if_neg c30] at H
                          have c30b0 : ((Go.bits .or .i64 (Int.tmod (wrap64 (a1)) 2147483647) 1) == 0) = false := beq_eq_false_iff_ne.mpr c30
                          have c30b1 : ((Go.bits .or .i64 (Int.tmod (wrap64 (a1)) 2147483647) 1) != 0) = true := bne_iff_ne.mpr c30
                          replace H := Option.bind_eq_some_iff.mp H
                          obtain ⟨t111, A310, H⟩ := H
                          replace H : (some ((Int.tmod (wrap64 (t106 * t106)) (Go.bits .or .i64 (Int.tmod (wrap64 (a1)) 2147483647) 1)) == t111)) = some r := H
                          have A31 := Aside0.mk A310
                          clear A310
                          obtain rfl := Option.some.inj H
                          go_wp2_with (first | (go_at_call 26; (with_reducible refine (galoisref04_Mod.calls a0 (Go.bits .or .i64 (Int.tmod (wrap64 (a1)) 2147483647) 1) t111 _ A31.out).mono ?_); rintro e w' ⟨rfl, ⟨nd, rfl⟩⟩; (try first | exact ⟨rfl, _, World.drewN_drewN _ _ _⟩ | exact ⟨rfl, _, Eq.trans (World.drewN_drewN _ _ _) (congrArg (World.drewN _) (Nat.add_assoc _ _ _))⟩)))
                          repeat (go_quiet (first | (go_at_call 26; (with_reducible refine (galoisref04_Mod.calls a0 (Go.bits .or .i64 (Int.tmod (wrap64 (a1)) 2147483647) 1) t111 _ A31.out).mono ?_); rintro e w' ⟨rfl, ⟨nd, rfl⟩⟩; (try first | exact ⟨rfl, _, World.drewN_drewN _ _ _⟩ | exact ⟨rfl, _, Eq.trans (World.drewN_drewN _ _ _) (congrArg (World.drewN _) (Nat.add_assoc _ _ _))⟩))); try go_wp2_with (first | (go_at_call 26; (with_reducible refine (galoisref04_Mod.calls a0 (Go.bits .or .i64 (Int.tmod (wrap64 (a1)) 2147483647) 1) t111 _ A31.out).mono ?_); rintro e w' ⟨rfl, ⟨nd, rfl⟩⟩; (try first | exact ⟨rfl, _, World.drewN_drewN _ _ _⟩ | exact ⟨rfl, _, Eq.trans (World.drewN_drewN _ _ _) (congrArg (World.drewN _) (Nat.add_assoc _ _ _))⟩))))
                          go_ret
                          exact ⟨by first | rfl | (simp [errW_none, errW_some] <;> rfl) | (simp [*, errW_none, errW_some] <;> rfl), by repeat (first | (with_reducible first | exact HB.out | apply below_alloc | apply pw_below_drewN | apply below_drew1) | exact HB.out)⟩
                      · rw [if_neg c29] at H
                        exact absurd H (by simp)
                    · rw [if_neg c28] at H
                      exact absurd H (by simp)
  · replace c4 := Bool.eq_false_iff.mpr c4
    subst c4
    have H1 : (none) = some r := by rw [if_neg (show ¬ (false = true) by decide)] at H; exact H
    clear H
    have H := H1
    clear H1
    exact absurd H (by simp)

/-- THE ONE PURE STATEMENT of galoislaw04_ResidueRoots: yours. -/
def galoislaw04_ResidueRoots.Pure : Prop := ∀ (a0 : Int) (a1 : Int), (Lit.int .i64 a0).wf = true → (Lit.int .u32 a1).wf = true → ∃ k, galoislaw04_ResidueRoots.f k a0 a1 = some true
theorem galoislaw04_ResidueRoots.walk (P : galoislaw04_ResidueRoots.Pure) (a0 : Int) (a1 : Int) (w : World) (w0 : (Lit.int .i64 a0).wf = true) (w1 : (Lit.int .u32 a1).wf = true) :
    Calls Try.prog 10 #[.int .i64 a0, .int .u32 a1] w fun e w' => e = .returned (.bool true) ∧ Below w.heap.size w w' := by
  obtain ⟨k, h⟩ := P a0 a1 w0 w1
  refine (galoislaw04_ResidueRoots.calls k a0 a1 true w h).mono ?_
  rintro e w' ⟨rfl, hd⟩
  exact ⟨rfl, hd⟩

end Go.Proofs.Ytmedflaejnbkoaa.Q

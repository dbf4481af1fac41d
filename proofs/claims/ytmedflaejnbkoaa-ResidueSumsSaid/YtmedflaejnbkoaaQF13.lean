/- Machine side: a program of the session wrote this text (the kit's print.py and the session's own contracts). Conditions: none of its own. -/
import Derived.Test.YtmedflaejnbkoaaQ0
import Derived.Test.YtmedflaejnbkoaaQG2
import Derived.Test.YtmedflaejnbkoaaQG3
namespace Go.Proofs.Ytmedflaejnbkoaa.Q
open Go.RowKit Go.Proofs.YtmedflaejnbkoaaW.PrintWords Go.Proofs.YtmedflaejnbkoaaW.PrintLast Go.Proofs.YtmedflaejnbkoaaW.PrintMore
attribute [local go_sem] max2_int min2_int max_two min_two max_three min_three max_four min_four   -- for this text's walks alone
set_option linter.unusedVariables false
set_option linter.unusedSimpArgs false

/-! ### galoislaw04_ResidueSums: function 13 -/
mutual
def galoislaw04_ResidueSums.j0 : Nat → Int → List Int → List (S53) → Bool → Option (Bool)
  | 0, _, _, _, _ => none
  | k + 1, x3, x4, x6, x41 => if x41 = true then (none) else (galoislaw04_ResidueSums.l0 k x3 x4 x6 1 0)
def galoislaw04_ResidueSums.l0 : Nat → Int → List Int → List (S53) → Int → Int → Option (Bool)
  | 0, _, _, _, _, _ => none
  | k + 1, x3, x4, x6, x8, x9 => if x9 < (x6.length : Int) then (if 0 ≤ x9 then ((residue_IsPrime.f k ((rd_T53 x6 x9).f0)).bind fun bt111 => (if bt111.2 = 0 then (if bt111.1 = true then (if ((rd_T53 x6 x9).f1) < 1 then (galoislaw04_ResidueSums.j2 k x3 x4 x6 x8 x9 true) else (if ((rd_T53 x6 x9).f1) > 20 then (galoislaw04_ResidueSums.j2 k x3 x4 x6 x8 x9 true) else (if x9 > 0 then (if 0 ≤ (wrap64 (x9 - 1)) then (if (wrap64 (x9 - 1)) < (x6.length : Int) then (galoislaw04_ResidueSums.j2 k x3 x4 x6 x8 x9 (decide (((rd_T53 x6 (wrap64 (x9 - 1))).f0) ≥ ((rd_T53 x6 x9).f0)))) else (none)) else (none)) else (galoislaw04_ResidueSums.j2 k x3 x4 x6 x8 x9 false)))) else (galoislaw04_ResidueSums.j2 k x3 x4 x6 x8 x9 true)) else (galoislaw04_ResidueSums.j2 k x3 x4 x6 x8 x9 true))) else (none)) else (galoislaw04_ResidueSums.l2 k x3 x4 x8 0 0 0)
def galoislaw04_ResidueSums.j2 : Nat → Int → List Int → List (S53) → Int → Int → Bool → Option (Bool)
  | 0, _, _, _, _, _, _ => none
  | k + 1, x3, x4, x6, x8, x9, x96 => if x96 = true then (none) else (galoislaw04_ResidueSums.l1 k x3 x4 x6 x8 x9 0)
def galoislaw04_ResidueSums.l1 : Nat → Int → List Int → List (S53) → Int → Int → Int → Option (Bool)
  | 0, _, _, _, _, _, _ => none
  | k + 1, x3, x4, x6, x8, x9, x12 => if 0 ≤ x9 then (if x9 < (x6.length : Int) then (if x12 < ((rd_T53 x6 x9).f1) then (if x8 ≤ x3 then (galoislaw04_ResidueSums.l1 k x3 x4 x6 (wrap64 (x8 * ((rd_T53 x6 x9).f0))) x9 (wrap64 (x12 + 1))) else (galoislaw04_ResidueSums.l0 k x3 x4 x6 x8 (wrap64 (x9 + 1)))) else (galoislaw04_ResidueSums.l0 k x3 x4 x6 x8 (wrap64 (x9 + 1)))) else (none)) else (none)
def galoislaw04_ResidueSums.l2 : Nat → Int → List Int → Int → Int → Int → Int → Option (Bool)
  | 0, _, _, _, _, _, _ => none
  | k + 1, x3, x4, x8, x13, x14, x15 => if x15 < (x4.length : Int) then (if 0 ≤ x15 then ((residue_Totient.f k (rd x4 x15)).bind fun bt120 => ((residue_Moebius.f k (rd x4 x15)).bind fun bt123 => (if bt120.2 = 0 then (if bt123.2 = 0 then (if x15 > 0 then (if 0 ≤ (wrap64 (x15 - 1)) then (if (wrap64 (x15 - 1)) < (x4.length : Int) then (if (rd x4 (wrap64 (x15 - 1))) ≥ (rd x4 x15) then (none) else (if (mx 1 (rd x4 x15)) = 0 then (none) else (if (Int.tmod x3 (mx 1 (rd x4 x15))) = 0 then (galoislaw04_ResidueSums.l2 k x3 x4 x8 (wrap64 (x13 + bt120.1)) (wrap64 (x14 + bt123.1)) (wrap64 (x15 + 1))) else (none)))) else (none)) else (none)) else (if (mx 1 (rd x4 x15)) = 0 then (none) else (if (Int.tmod x3 (mx 1 (rd x4 x15))) = 0 then (galoislaw04_ResidueSums.l2 k x3 x4 x8 (wrap64 (x13 + bt120.1)) (wrap64 (x14 + bt123.1)) (wrap64 (x15 + 1))) else (none)))) else (none)) else (none)))) else (none)) else (if x8 = x3 then (if x13 = x3 then (if ((x14 == 1) == (x3 == 1)) = true then (some ((x14 == 0) == (decide (x3 > 1)))) else (none)) else (none)) else (none))
end
def galoislaw04_ResidueSums.f (k : Nat) (a0 : Int) : Option (Bool) := (galoislaw04_awake.f k).bind fun t101 => (if t101 = true then ((residue_Divisors.f k (wrap64 (1 + (Int.tmod (wrap64 (a0)) 100000)))).bind fun bt102 => ((residue_Factor.f k (wrap64 (1 + (Int.tmod (wrap64 (a0)) 100000)))).bind fun bt106 => (if bt102.2 = 0 then (galoislaw04_ResidueSums.j0 k (wrap64 (1 + (Int.tmod (wrap64 (a0)) 100000))) bt102.1 bt106.1 (bt106.2 != 0)) else (galoislaw04_ResidueSums.j0 k (wrap64 (1 + (Int.tmod (wrap64 (a0)) 100000))) bt102.1 bt106.1 true)))) else (none))
theorem galoislaw04_ResidueSums.mono_l : ∀ k, (∀ y0 y1 y2 y3, LeO (galoislaw04_ResidueSums.j0 k y0 y1 y2 y3) (galoislaw04_ResidueSums.j0 (k + 1) y0 y1 y2 y3)) ∧ (∀ y0 y1 y2 y3 y4, LeO (galoislaw04_ResidueSums.l0 k y0 y1 y2 y3 y4) (galoislaw04_ResidueSums.l0 (k + 1) y0 y1 y2 y3 y4)) ∧ (∀ y0 y1 y2 y3 y4 y5, LeO (galoislaw04_ResidueSums.j2 k y0 y1 y2 y3 y4 y5) (galoislaw04_ResidueSums.j2 (k + 1) y0 y1 y2 y3 y4 y5)) ∧ (∀ y0 y1 y2 y3 y4 y5, LeO (galoislaw04_ResidueSums.l1 k y0 y1 y2 y3 y4 y5) (galoislaw04_ResidueSums.l1 (k + 1) y0 y1 y2 y3 y4 y5)) ∧ (∀ y0 y1 y2 y3 y4 y5, LeO (galoislaw04_ResidueSums.l2 k y0 y1 y2 y3 y4 y5) (galoislaw04_ResidueSums.l2 (k + 1) y0 y1 y2 y3 y4 y5))
  | 0 => ⟨fun _ _ _ _ r h => by simp [galoislaw04_ResidueSums.j0] at h, fun _ _ _ _ _ r h => by simp [galoislaw04_ResidueSums.l0] at h, fun _ _ _ _ _ _ r h => by simp [galoislaw04_ResidueSums.j2] at h, fun _ _ _ _ _ _ r h => by simp [galoislaw04_ResidueSums.l1] at h, fun _ _ _ _ _ _ r h => by simp [galoislaw04_ResidueSums.l2] at h⟩
  | k + 1 => by
    obtain ⟨ih0, ih1, ih2, ih3, ih4⟩ := galoislaw04_ResidueSums.mono_l k
    refine ⟨?_, ?_, ?_, ?_, ?_⟩
    · intro y0 y1 y2 y3
      unfold galoislaw04_ResidueSums.j0
      repeat' first
      | (with_reducible exact ih0 _ _ _ _)
      | (with_reducible exact ih1 _ _ _ _ _)
      | (with_reducible exact ih2 _ _ _ _ _ _)
      | (with_reducible exact ih3 _ _ _ _ _ _)
      | (with_reducible exact ih4 _ _ _ _ _ _)
      | (with_reducible exact galoislaw04_awake.mono _)
      | (with_reducible exact residue_Divisors.mono _ _)
      | (with_reducible exact residue_Factor.mono _ _)
      | (with_reducible exact residue_IsPrime.mono _ _)
      | (with_reducible exact residue_Moebius.mono _ _)
      | (with_reducible exact residue_Totient.mono _ _)
      | (with_reducible exact LeO.refl _)
      | (with_reducible exact LeO.none _)
      | (with_reducible refine LeO.ite ?_ ?_)
      | (with_reducible refine LeO.bind ?_ (fun _ => ?_))
      | exact ih0 _ _ _ _
      | exact ih1 _ _ _ _ _
      | exact ih2 _ _ _ _ _ _
      | exact ih3 _ _ _ _ _ _
      | exact ih4 _ _ _ _ _ _
      | exact galoislaw04_awake.mono _
      | exact residue_Divisors.mono _ _
      | exact residue_Factor.mono _ _
      | exact residue_IsPrime.mono _ _
      | exact residue_Moebius.mono _ _
      | exact residue_Totient.mono _ _
      | exact LeO.none _
      | refine LeO.ite ?_ ?_
      | refine LeO.bind ?_ (fun _ => ?_)
    · intro y0 y1 y2 y3 y4
      unfold galoislaw04_ResidueSums.l0
      repeat' first
      | (with_reducible exact ih0 _ _ _ _)
      | (with_reducible exact ih1 _ _ _ _ _)
      | (with_reducible exact ih2 _ _ _ _ _ _)
      | (with_reducible exact ih3 _ _ _ _ _ _)
      | (with_reducible exact ih4 _ _ _ _ _ _)
      | (with_reducible exact galoislaw04_awake.mono _)
      | (with_reducible exact residue_Divisors.mono _ _)
      | (with_reducible exact residue_Factor.mono _ _)
      | (with_reducible exact residue_IsPrime.mono _ _)
      | (with_reducible exact residue_Moebius.mono _ _)
      | (with_reducible exact residue_Totient.mono _ _)
      | (with_reducible exact LeO.refl _)
      | (with_reducible exact LeO.none _)
      | (with_reducible refine LeO.ite ?_ ?_)
      | (with_reducible refine LeO.bind ?_ (fun _ => ?_))
      | exact ih0 _ _ _ _
      | exact ih1 _ _ _ _ _
      | exact ih2 _ _ _ _ _ _
      | exact ih3 _ _ _ _ _ _
      | exact ih4 _ _ _ _ _ _
      | exact galoislaw04_awake.mono _
      | exact residue_Divisors.mono _ _
      | exact residue_Factor.mono _ _
      | exact residue_IsPrime.mono _ _
      | exact residue_Moebius.mono _ _
      | exact residue_Totient.mono _ _
      | exact LeO.none _
      | refine LeO.ite ?_ ?_
      | refine LeO.bind ?_ (fun _ => ?_)
    · intro y0 y1 y2 y3 y4 y5
      unfold galoislaw04_ResidueSums.j2
      repeat' first
      | (with_reducible exact ih0 _ _ _ _)
      | (with_reducible exact ih1 _ _ _ _ _)
      | (with_reducible exact ih2 _ _ _ _ _ _)
      | (with_reducible exact ih3 _ _ _ _ _ _)
      | (with_reducible exact ih4 _ _ _ _ _ _)
      | (with_reducible exact galoislaw04_awake.mono _)
      | (with_reducible exact residue_Divisors.mono _ _)
      | (with_reducible exact residue_Factor.mono _ _)
      | (with_reducible exact residue_IsPrime.mono _ _)
      | (with_reducible exact residue_Moebius.mono _ _)
      | (with_reducible exact residue_Totient.mono _ _)
      | (with_reducible exact LeO.refl _)
      | (with_reducible exact LeO.none _)
      | (with_reducible refine LeO.ite ?_ ?_)
      | (with_reducible refine LeO.bind ?_ (fun _ => ?_))
      | exact ih0 _ _ _ _
      | exact ih1 _ _ _ _ _
      | exact ih2 _ _ _ _ _ _
      | exact ih3 _ _ _ _ _ _
      | exact ih4 _ _ _ _ _ _
      | exact galoislaw04_awake.mono _
      | exact residue_Divisors.mono _ _
      | exact residue_Factor.mono _ _
      | exact residue_IsPrime.mono _ _
      | exact residue_Moebius.mono _ _
      | exact residue_Totient.mono _ _
      | exact LeO.none _
      | refine LeO.ite ?_ ?_
      | refine LeO.bind ?_ (fun _ => ?_)
    · intro y0 y1 y2 y3 y4 y5
      unfold galoislaw04_ResidueSums.l1
      repeat' first
      | (with_reducible exact ih0 _ _ _ _)
      | (with_reducible exact ih1 _ _ _ _ _)
      | (with_reducible exact ih2 _ _ _ _ _ _)
      | (with_reducible exact ih3 _ _ _ _ _ _)
      | (with_reducible exact ih4 _ _ _ _ _ _)
      | (with_reducible exact galoislaw04_awake.mono _)
      | (with_reducible exact residue_Divisors.mono _ _)
      | (with_reducible exact residue_Factor.mono _ _)
      | (with_reducible exact residue_IsPrime.mono _ _)
      | (with_reducible exact residue_Moebius.mono _ _)
      | (with_reducible exact residue_Totient.mono _ _)
      | (with_reducible exact LeO.refl _)
      | (with_reducible exact LeO.none _)
      | (with_reducible refine LeO.ite ?_ ?_)
      | (with_reducible refine LeO.bind ?_ (fun _ => ?_))
      | exact ih0 _ _ _ _
      | exact ih1 _ _ _ _ _
      | exact ih2 _ _ _ _ _ _
      | exact ih3 _ _ _ _ _ _
      | exact ih4 _ _ _ _ _ _
      | exact galoislaw04_awake.mono _
      | exact residue_Divisors.mono _ _
      | exact residue_Factor.mono _ _
      | exact residue_IsPrime.mono _ _
      | exact residue_Moebius.mono _ _
      | exact residue_Totient.mono _ _
      | exact LeO.none _
      | refine LeO.ite ?_ ?_
      | refine LeO.bind ?_ (fun _ => ?_)
    · intro y0 y1 y2 y3 y4 y5
      unfold galoislaw04_ResidueSums.l2
      repeat' first
      | (with_reducible exact ih0 _ _ _ _)
      | (with_reducible exact ih1 _ _ _ _ _)
      | (with_reducible exact ih2 _ _ _ _ _ _)
      | (with_reducible exact ih3 _ _ _ _ _ _)
      | (with_reducible exact ih4 _ _ _ _ _ _)
      | (with_reducible exact galoislaw04_awake.mono _)
      | (with_reducible exact residue_Divisors.mono _ _)
      | (with_reducible exact residue_Factor.mono _ _)
      | (with_reducible exact residue_IsPrime.mono _ _)
      | (with_reducible exact residue_Moebius.mono _ _)
      | (with_reducible exact residue_Totient.mono _ _)
      | (with_reducible exact LeO.refl _)
      | (with_reducible exact LeO.none _)
      | (with_reducible refine LeO.ite ?_ ?_)
      | (with_reducible refine LeO.bind ?_ (fun _ => ?_))
      | exact ih0 _ _ _ _
      | exact ih1 _ _ _ _ _
      | exact ih2 _ _ _ _ _ _
      | exact ih3 _ _ _ _ _ _
      | exact ih4 _ _ _ _ _ _
      | exact galoislaw04_awake.mono _
      | exact residue_Divisors.mono _ _
      | exact residue_Factor.mono _ _
      | exact residue_IsPrime.mono _ _
      | exact residue_Moebius.mono _ _
      | exact residue_Totient.mono _ _
      | exact LeO.none _
      | refine LeO.ite ?_ ?_
      | refine LeO.bind ?_ (fun _ => ?_)
theorem galoislaw04_ResidueSums.mono : ∀ a0 k, LeO (galoislaw04_ResidueSums.f k a0) (galoislaw04_ResidueSums.f (k + 1) a0) := by
  intro a0 k
  obtain ⟨ih0, ih1, ih2, ih3, ih4⟩ := galoislaw04_ResidueSums.mono_l k
  unfold galoislaw04_ResidueSums.f
  repeat' first
      | (with_reducible exact ih0 _ _ _ _)
      | (with_reducible exact ih1 _ _ _ _ _)
      | (with_reducible exact ih2 _ _ _ _ _ _)
      | (with_reducible exact ih3 _ _ _ _ _ _)
      | (with_reducible exact ih4 _ _ _ _ _ _)
      | (with_reducible exact galoislaw04_awake.mono _)
      | (with_reducible exact residue_Divisors.mono _ _)
      | (with_reducible exact residue_Factor.mono _ _)
      | (with_reducible exact residue_IsPrime.mono _ _)
      | (with_reducible exact residue_Moebius.mono _ _)
      | (with_reducible exact residue_Totient.mono _ _)
      | (with_reducible exact LeO.refl _)
      | (with_reducible exact LeO.none _)
      | (with_reducible refine LeO.ite ?_ ?_)
      | (with_reducible refine LeO.bind ?_ (fun _ => ?_))
      | exact ih0 _ _ _ _
      | exact ih1 _ _ _ _ _
      | exact ih2 _ _ _ _ _ _
      | exact ih3 _ _ _ _ _ _
      | exact ih4 _ _ _ _ _ _
      | exact galoislaw04_awake.mono _
      | exact residue_Divisors.mono _ _
      | exact residue_Factor.mono _ _
      | exact residue_IsPrime.mono _ _
      | exact residue_Moebius.mono _ _
      | exact residue_Totient.mono _ _
      | exact LeO.none _
      | refine LeO.ite ?_ ?_
      | refine LeO.bind ?_ (fun _ => ?_)
set_option maxHeartbeats 8000000 in
set_option maxRecDepth 100000 in
theorem galoislaw04_ResidueSums.calls (k : Nat) (a0 : Int) (r : Bool) (w : World) (h : galoislaw04_ResidueSums.f k a0 = some r) :
    Calls Try.prog 13 #[.int .u32 a0] w fun e w' => e = .returned (.bool r) ∧ Below w.heap.size w w' := by
  have HB := Aside0.mk (Below.refl w.heap.size w)
  have H : ((galoislaw04_awake.f k).bind fun t101 => (if t101 = true then ((residue_Divisors.f k (wrap64 (1 + (Int.tmod (wrap64 (a0)) 100000)))).bind fun bt102 => ((residue_Factor.f k (wrap64 (1 + (Int.tmod (wrap64 (a0)) 100000)))).bind fun bt106 => (if bt102.2 = 0 then (galoislaw04_ResidueSums.j0 k (wrap64 (1 + (Int.tmod (wrap64 (a0)) 100000))) bt102.1 bt106.1 (bt106.2 != 0)) else (galoislaw04_ResidueSums.j0 k (wrap64 (1 + (Int.tmod (wrap64 (a0)) 100000))) bt102.1 bt106.1 true)))) else (none))) = some r := h
  clear h
  replace H := Option.bind_eq_some_iff.mp H
  obtain ⟨t101, A20, H⟩ := H
  replace H : (if t101 = true then ((residue_Divisors.f k (wrap64 (1 + (Int.tmod (wrap64 (a0)) 100000)))).bind fun bt102 => ((residue_Factor.f k (wrap64 (1 + (Int.tmod (wrap64 (a0)) 100000)))).bind fun bt106 => (if bt102.2 = 0 then (galoislaw04_ResidueSums.j0 k (wrap64 (1 + (Int.tmod (wrap64 (a0)) 100000))) bt102.1 bt106.1 (bt106.2 != 0)) else (galoislaw04_ResidueSums.j0 k (wrap64 (1 + (Int.tmod (wrap64 (a0)) 100000))) bt102.1 bt106.1 true)))) else (none)) = some r := H
  have A2 := Aside0.mk A20
  clear A20
  by_cases c3 : t101 = true
  · subst c3
    have H1 : ((residue_Divisors.f k (wrap64 (1 + (Int.tmod (wrap64 (a0)) 100000)))).bind fun bt102 => ((residue_Factor.f k (wrap64 (1 + (Int.tmod (wrap64 (a0)) 100000)))).bind fun bt106 => (if bt102.2 = 0 then (galoislaw04_ResidueSums.j0 k (wrap64 (1 + (Int.tmod (wrap64 (a0)) 100000))) bt102.1 bt106.1 (bt106.2 != 0)) else (galoislaw04_ResidueSums.j0 k (wrap64 (1 + (Int.tmod (wrap64 (a0)) 100000))) bt102.1 bt106.1 true)))) = some r := by rw [if_pos rfl] at H; exact H
    clear H
    have H := H1
    clear H1
    replace H := Option.bind_eq_some_iff.mp H
    obtain ⟨⟨t102, t103⟩, A40, H⟩ := H
    replace H : ((residue_Factor.f k (wrap64 (1 + (Int.tmod (wrap64 (a0)) 100000)))).bind fun bt106 => (if t103 = 0 then (galoislaw04_ResidueSums.j0 k (wrap64 (1 + (Int.tmod (wrap64 (a0)) 100000))) t102 bt106.1 (bt106.2 != 0)) else (galoislaw04_ResidueSums.j0 k (wrap64 (1 + (Int.tmod (wrap64 (a0)) 100000))) t102 bt106.1 true))) = some r := H
    have A4 := Aside0.mk A40
    clear A40
    replace H := Option.bind_eq_some_iff.mp H
    obtain ⟨⟨t106, t107⟩, A50, H⟩ := H
    replace H : (if t103 = 0 then (galoislaw04_ResidueSums.j0 k (wrap64 (1 + (Int.tmod (wrap64 (a0)) 100000))) t102 t106 (t107 != 0)) else (galoislaw04_ResidueSums.j0 k (wrap64 (1 + (Int.tmod (wrap64 (a0)) 100000))) t102 t106 true)) = some r := H
    have A5 := Aside0.mk A50
    clear A50
    have HC6 := Aside0.mk H
    clear H
    go_enter Try.func13, Try.ntmps13
    go_upto_region 6 with (first | (go_at_call 14; (with_reducible refine (galoislaw04_awake.calls k  true _ A2.out).mono ?_); rintro e w7 ⟨rfl, hb⟩; have n0_ := Aside0.mk (below_step (by repeat (first | (with_reducible first | exact HB.out | apply below_alloc | apply pw_below_drewN | apply below_drew1) | exact HB.out)) hb); clear HB; have HB := n0_; clear n0_; (try clear hb); (try clear hb2); (try clear hk); (try clear hi)) | (go_at_call 46; (with_reducible refine (residue_Divisors.calls k (wrap64 (1 + (Int.tmod (wrap64 (a0)) 100000))) t102 t103 _ A4.out).mono ?_); rintro e w8 ⟨v104, rfl, ho0, hb⟩; have n0_ := Aside0.mk (Kd.R_lower ho0 (below_size (by repeat (first | (with_reducible first | exact HB.out | apply below_alloc | apply pw_below_drewN | apply below_drew1) | exact HB.out)))); have n1_ := Aside0.mk (below_step (by repeat (first | (with_reducible first | exact HB.out | apply below_alloc | apply pw_below_drewN | apply below_drew1) | exact HB.out)) hb); clear HB; have HO105 := n0_; have HB := n1_; clear n0_ n1_; (try clear hb); (try clear hb2); (try clear hk); (try clear hi); (try clear ho0)) | (go_at_call 38; (with_reducible refine (residue_Factor.calls k (wrap64 (1 + (Int.tmod (wrap64 (a0)) 100000))) t106 t107 _ A5.out).mono ?_); rintro e w9 ⟨v108, rfl, ho0, hb⟩; have n0_ := Aside0.mk (Kd.R_below (by (with_reducible repeat (first | apply Kd.R_alloc | apply Kd.R_drewN | apply Kd.R_drew)); exact HO105.out) hb); have n1_ := Aside0.mk (Kd.R_lower ho0 (below_size (by repeat (first | (with_reducible first | exact HB.out | apply below_alloc | apply pw_below_drewN | apply below_drew1) | exact HB.out)))); have n2_ := Aside0.mk (below_step (by repeat (first | (with_reducible first | exact HB.out | apply below_alloc | apply pw_below_drewN | apply below_drew1) | exact HB.out)) hb); clear HO105; clear HB; have HO105 := n0_; have HO109 := n1_; have HB := n2_; clear n0_ n1_ n2_; (try clear hb); (try clear hb2); (try clear hk); (try clear hi); (try clear ho0)))
    repeat (go_quiet (first | (go_at_call 14; (with_reducible refine (galoislaw04_awake.calls k  true _ A2.out).mono ?_); rintro e w7 ⟨rfl, hb⟩; have n0_ := Aside0.mk (below_step (by repeat (first | (with_reducible first | exact HB.out | apply below_alloc | apply pw_below_drewN | apply below_drew1) | exact HB.out)) hb); clear HB; have HB := n0_; clear n0_; (try clear hb); (try clear hb2); (try clear hk); (try clear hi)) | (go_at_call 46; (with_reducible refine (residue_Divisors.calls k (wrap64 (1 + (Int.tmod (wrap64 (a0)) 100000))) t102 t103 _ A4.out).mono ?_); rintro e w8 ⟨v104, rfl, ho0, hb⟩; have n0_ := Aside0.mk (Kd.R_lower ho0 (below_size (by repeat (first | (with_reducible first | exact HB.out | apply below_alloc | apply pw_below_drewN | apply below_drew1) | exact HB.out)))); have n1_ := Aside0.mk (below_step (by repeat (first | (with_reducible first | exact HB.out | apply below_alloc | apply pw_below_drewN | apply below_drew1) | exact HB.out)) hb); clear HB; have HO105 := n0_; have HB := n1_; clear n0_ n1_; (try clear hb); (try clear hb2); (try clear hk); (try clear hi); (try clear ho0)) | (go_at_call 38; (with_reducible refine (residue_Factor.calls k (wrap64 (1 + (Int.tmod (wrap64 (a0)) 100000))) t106 t107 _ A5.out).mono ?_); rintro e w9 ⟨v108, rfl, ho0, hb⟩; have n0_ := Aside0.mk (Kd.R_below (by (with_reducible repeat (first | apply Kd.R_alloc | apply Kd.R_drewN | apply Kd.R_drew)); exact HO105.out) hb); have n1_ := Aside0.mk (Kd.R_lower ho0 (below_size (by repeat (first | (with_reducible first | exact HB.out | apply below_alloc | apply pw_below_drewN | apply below_drew1) | exact HB.out)))); have n2_ := Aside0.mk (below_step (by repeat (first | (with_reducible first | exact HB.out | apply below_alloc | apply pw_below_drewN | apply below_drew1) | exact HB.out)) hb); clear HO105; clear HB; have HO105 := n0_; have HO109 := n1_; have HB := n2_; clear n0_ n1_ n2_; (try clear hb); (try clear hb2); (try clear hk); (try clear hi); (try clear ho0))); go_upto_region 6 with (first | (go_at_call 14; (with_reducible refine (galoislaw04_awake.calls k  true _ A2.out).mono ?_); rintro e w7 ⟨rfl, hb⟩; have n0_ := Aside0.mk (below_step (by repeat (first | (with_reducible first | exact HB.out | apply below_alloc | apply pw_below_drewN | apply below_drew1) | exact HB.out)) hb); clear HB; have HB := n0_; clear n0_; (try clear hb); (try clear hb2); (try clear hk); (try clear hi)) | (go_at_call 46; (with_reducible refine (residue_Divisors.calls k (wrap64 (1 + (Int.tmod (wrap64 (a0)) 100000))) t102 t103 _ A4.out).mono ?_); rintro e w8 ⟨v104, rfl, ho0, hb⟩; have n0_ := Aside0.mk (Kd.R_lower ho0 (below_size (by repeat (first | (with_reducible first | exact HB.out | apply below_alloc | apply pw_below_drewN | apply below_drew1) | exact HB.out)))); have n1_ := Aside0.mk (below_step (by repeat (first | (with_reducible first | exact HB.out | apply below_alloc | apply pw_below_drewN | apply below_drew1) | exact HB.out)) hb); clear HB; have HO105 := n0_; have HB := n1_; clear n0_ n1_; (try clear hb); (try clear hb2); (try clear hk); (try clear hi); (try clear ho0)) | (go_at_call 38; (with_reducible refine (residue_Factor.calls k (wrap64 (1 + (Int.tmod (wrap64 (a0)) 100000))) t106 t107 _ A5.out).mono ?_); rintro e w9 ⟨v108, rfl, ho0, hb⟩; have n0_ := Aside0.mk (Kd.R_below (by (with_reducible repeat (first | apply Kd.R_alloc | apply Kd.R_drewN | apply Kd.R_drew)); exact HO105.out) hb); have n1_ := Aside0.mk (Kd.R_lower ho0 (below_size (by repeat (first | (with_reducible first | exact HB.out | apply below_alloc | apply pw_below_drewN | apply below_drew1) | exact HB.out)))); have n2_ := Aside0.mk (below_step (by repeat (first | (with_reducible first | exact HB.out | apply below_alloc | apply pw_below_drewN | apply below_drew1) | exact HB.out)) hb); clear HO105; clear HB; have HO105 := n0_; have HO109 := n1_; have HB := n2_; clear n0_ n1_ n2_; (try clear hb); (try clear hb2); (try clear hk); (try clear hi); (try clear ho0))))
    (try simp only [Act.put, List.setIfInBounds_toArray, List.set_cons_zero, List.set_cons_succ])
    go_cut [41] (fun v41 wc => ∃ (kq : Nat) (x41_5 : Bool), v41 = .bool x41_5 ∧ Aside0 (galoislaw04_ResidueSums.j0 kq (wrap64 (1 + (Int.tmod (wrap64 (a0)) 100000))) t102 t106 x41_5 = some r) ∧ Aside0 (kq ≤ k) ∧ Aside0 (Kd.R (Kd.int .i64) 3 wc w.heap.size (fun _ => True) v104 t102) ∧ Aside0 (Kd.R k53 53 wc w.heap.size (fun _ => True) v108 t106) ∧ Aside0 (Below w.heap.size w wc))
    case first =>
      have H := HC6.out
      clear HC6
      by_cases c10 : t103 = 0
      · rw [if_pos c10] at H
        have c10b0 : (t103 == 0) = true := beq_iff_eq.mpr c10
        have c10b1 : (t103 != 0) = false := bne_eq_false_iff_eq.mpr c10
        clear c10
        (first | rw [c10b0] | (simp only [i64_w, i32_w]; rw [c10b0]) | skip)
        have H' := Aside0.mk H
        clear H
        go_wp2
        repeat (go_quiet (fail); try go_wp2)
        go_meet
        case rel => exact ⟨_, ((t107 != 0)), (by first | rfl | (simp; done) | (simp [*]; done)), H', ⟨by first | omega | exact Nat.le_refl _⟩, ⟨by (with_reducible repeat (first | apply Kd.R_alloc | apply Kd.R_drewN | apply Kd.R_drew)); exact HO105.out⟩, ⟨by (with_reducible repeat (first | apply Kd.R_alloc | apply Kd.R_drewN | apply Kd.R_drew)); exact HO109.out⟩, ⟨by repeat (first | (with_reducible first | exact HB.out | apply below_alloc | apply pw_below_drewN | apply below_drew1) | exact HB.out)⟩⟩
      · rw [if_neg c10] at H
        have c10b0 : (t103 == 0) = false := beq_eq_false_iff_ne.mpr c10
        have c10b1 : (t103 != 0) = true := bne_iff_ne.mpr c10
        (first | rw [c10b0] | (simp only [i64_w, i32_w]; rw [c10b0]) | skip)
        have H' := Aside0.mk H
        clear H
        go_wp2
        repeat (go_quiet (fail); try go_wp2)
        go_meet
        case rel => exact ⟨_, (true), (by first | rfl | (simp; done) | (simp [*]; done)), H', ⟨by first | omega | exact Nat.le_refl _⟩, ⟨by (with_reducible repeat (first | apply Kd.R_alloc | apply Kd.R_drewN | apply Kd.R_drew)); exact HO105.out⟩, ⟨by (with_reducible repeat (first | apply Kd.R_alloc | apply Kd.R_drewN | apply Kd.R_drew)); exact HO109.out⟩, ⟨by repeat (first | (with_reducible first | exact HB.out | apply below_alloc | apply pw_below_drewN | apply below_drew1) | exact HB.out)⟩⟩
    case rest =>
      clear HC6
      try clear c1
      try clear p2
      try clear c3
      try clear p6
      try clear c10
      try clear c10b0
      try clear c10b1
      obtain ⟨kq, x41_5, rfl, HA, HJ5, HO_4, HO_6, HB⟩ := hcut
      cases kq with
      | zero => exact absurd HA.out (by simp [galoislaw04_ResidueSums.j0])
      | succ kj5 =>
        have H := HA.out
        clear HA
        simp only [galoislaw04_ResidueSums.j0] at H
        by_cases c11 : x41_5 = true
        · subst c11
          have H1 : (none) = some r := by rw [if_pos rfl] at H; exact H
          clear H
          have H := H1
          clear H1
          exact absurd H (by simp)
        · replace c11 := Bool.eq_false_iff.mpr c11
          subst c11
          have H1 : (galoislaw04_ResidueSums.l0 kj5 (wrap64 (1 + (Int.tmod (wrap64 (a0)) 100000))) t102 t106 1 0) = some r := by rw [if_neg (show ¬ (false = true) by decide)] at H; exact H
          clear H
          have H := H1
          clear H1
          have H' := Aside0.mk H
          clear H
          go_wp2
          repeat (go_quiet (fail); try go_wp2)
          go_loopg [8, 9] kj5 (fun kq v8 v9 w' => ∃ (x8_2 : Int) (x9_2 : Int), v8 = .int .i64 x8_2 ∧ v9 = .int .i64 x9_2 ∧ Aside0 (galoislaw04_ResidueSums.l0 kq (wrap64 (1 + (Int.tmod (wrap64 (a0)) 100000))) t102 t106 x8_2 x9_2 = some r) ∧ Aside0 (kq ≤ kj5) ∧ Aside0 (Kd.R (Kd.int .i64) 3 w' w.heap.size (fun _ => True) v104 t102) ∧ Aside0 (Kd.R k53 53 w' w.heap.size (fun _ => True) v108 t106) ∧ Aside0 (Below w.heap.size w w'))
          case atStart => exact ⟨(1), (0), (by first | rfl | (simp; done) | (simp [*]; done)), (by first | rfl | (simp; done) | (simp [*]; done)), H', ⟨Nat.le_refl _⟩, ⟨by (with_reducible repeat (first | apply Kd.R_alloc | apply Kd.R_drewN | apply Kd.R_drew)); exact HO_4.out⟩, ⟨by (with_reducible repeat (first | apply Kd.R_alloc | apply Kd.R_drewN | apply Kd.R_drew)); exact HO_6.out⟩, ⟨by repeat (first | (with_reducible first | exact HB.out | apply below_alloc | apply pw_below_drewN | apply below_drew1) | exact HB.out)⟩⟩
          case round =>
            clear H'
            try clear c1
            try clear p2
            try clear c3
            try clear p6
            try clear c10
            try clear c10b0
            try clear c10b1
            try clear c11
            try clear p2
            try clear p6
            obtain ⟨x8_2, x9_2, rfl, rfl, HA, HK2, HO_4, HO_6, HB⟩ := hrel
            cases gk with
            | zero => exact absurd HA.out (by simp [galoislaw04_ResidueSums.l0])
            | succ k2 =>
              have H := HA.out
              clear HA
              simp only [galoislaw04_ResidueSums.l0] at H
              by_cases c12 : x9_2 < (t106.length : Int)
              · rw [if_pos c12] at H
                have c12b0 : decide (x9_2 < (t106.length : Int)) = true := decide_eq_true c12
                clear c12
                by_cases c13 : 0 ≤ x9_2
                · rw [if_pos c13] at H
                  have c13b0 : decide (0 ≤ x9_2) = true := decide_eq_true c13
                  clear c13
                  replace H := Option.bind_eq_some_iff.mp H
                  obtain ⟨⟨t111, t112⟩, A140, H⟩ := H
                  replace H : (if t112 = 0 then (if t111 = true then (if ((rd_T53 t106 x9_2).f1) < 1 then (galoislaw04_ResidueSums.j2 k2 (wrap64 (1 + (Int.tmod (wrap64 (a0)) 100000))) t102 t106 x8_2 x9_2 true) else (if ((rd_T53 t106 x9_2).f1) > 20 then (galoislaw04_ResidueSums.j2 k2 (wrap64 (1 + (Int.tmod (wrap64 (a0)) 100000))) t102 t106 x8_2 x9_2 true) else (if x9_2 > 0 then (if 0 ≤ (wrap64 (x9_2 - 1)) then (if (wrap64 (x9_2 - 1)) < (t106.length : Int) then (galoislaw04_ResidueSums.j2 k2 (wrap64 (1 + (Int.tmod (wrap64 (a0)) 100000))) t102 t106 x8_2 x9_2 (decide (((rd_T53 t106 (wrap64 (x9_2 - 1))).f0) ≥ ((rd_T53 t106 x9_2).f0)))) else (none)) else (none)) else (galoislaw04_ResidueSums.j2 k2 (wrap64 (1 + (Int.tmod (wrap64 (a0)) 100000))) t102 t106 x8_2 x9_2 false)))) else (galoislaw04_ResidueSums.j2 k2 (wrap64 (1 + (Int.tmod (wrap64 (a0)) 100000))) t102 t106 x8_2 x9_2 true)) else (galoislaw04_ResidueSums.j2 k2 (wrap64 (1 + (Int.tmod (wrap64 (a0)) 100000))) t102 t106 x8_2 x9_2 true)) = some r := H
                  have A14 := Aside0.mk A140
                  clear A140
                  have HC15 := Aside0.mk H
                  clear H
                  obtain ⟨Ao16, co16, eo16⟩ := Kd.R_slice HO_6.out
                  subst eo16
                  have p110 : 0 ≤ (x9_2 : Int) := of_decide_eq_true (by first | (with_reducible assumption) | assumption)
                  have q110 : x9_2 < (t106.length : Int) := of_decide_eq_true (by first | (with_reducible assumption) | assumption)
                  obtain ⟨ad110, e110, hx110_0, hx110_1⟩ := at_T53 (Kd.R_reads' HO_6.out).2.2 x9_2 p110 q110
                  cases e110
                  replace p110 := eq_true p110
                  replace q110 := eq_true q110
                  go_upto_region 13 with (first | (go_at_call 39; (with_reducible refine (residue_IsPrime.calls k2 ((rd_T53 t106 x9_2).f0) t111 t112 _ A14.out).mono ?_); rintro e w17 ⟨rfl, hb⟩; have n0_ := Aside0.mk (Kd.R_below (by (with_reducible repeat (first | apply Kd.R_alloc | apply Kd.R_drewN | apply Kd.R_drew)); exact HO_4.out) hb); have n1_ := Aside0.mk (Kd.R_below (by (with_reducible repeat (first | apply Kd.R_alloc | apply Kd.R_drewN | apply Kd.R_drew)); exact HO_6.out) hb); have n2_ := Aside0.mk (below_step (by repeat (first | (with_reducible first | exact HB.out | apply below_alloc | apply pw_below_drewN | apply below_drew1) | exact HB.out)) hb); clear HO_4; clear HO_6; clear HB; have HO_4 := n0_; have HO_6 := n1_; have HB := n2_; clear n0_ n1_ n2_; (try clear hb); (try clear hb2); (try clear hk); (try clear hi)))
                  repeat (go_quiet (first | (go_at_call 39; (with_reducible refine (residue_IsPrime.calls k2 ((rd_T53 t106 x9_2).f0) t111 t112 _ A14.out).mono ?_); rintro e w17 ⟨rfl, hb⟩; have n0_ := Aside0.mk (Kd.R_below (by (with_reducible repeat (first | apply Kd.R_alloc | apply Kd.R_drewN | apply Kd.R_drew)); exact HO_4.out) hb); have n1_ := Aside0.mk (Kd.R_below (by (with_reducible repeat (first | apply Kd.R_alloc | apply Kd.R_drewN | apply Kd.R_drew)); exact HO_6.out) hb); have n2_ := Aside0.mk (below_step (by repeat (first | (with_reducible first | exact HB.out | apply below_alloc | apply pw_below_drewN | apply below_drew1) | exact HB.out)) hb); clear HO_4; clear HO_6; clear HB; have HO_4 := n0_; have HO_6 := n1_; have HB := n2_; clear n0_ n1_ n2_; (try clear hb); (try clear hb2); (try clear hk); (try clear hi))); go_upto_region 13 with (first | (go_at_call 39; (with_reducible refine (residue_IsPrime.calls k2 ((rd_T53 t106 x9_2).f0) t111 t112 _ A14.out).mono ?_); rintro e w17 ⟨rfl, hb⟩; have n0_ := Aside0.mk (Kd.R_below (by (with_reducible repeat (first | apply Kd.R_alloc | apply Kd.R_drewN | apply Kd.R_drew)); exact HO_4.out) hb); have n1_ := Aside0.mk (Kd.R_below (by (with_reducible repeat (first | apply Kd.R_alloc | apply Kd.R_drewN | apply Kd.R_drew)); exact HO_6.out) hb); have n2_ := Aside0.mk (below_step (by repeat (first | (with_reducible first | exact HB.out | apply below_alloc | apply pw_below_drewN | apply below_drew1) | exact HB.out)) hb); clear HO_4; clear HO_6; clear HB; have HO_4 := n0_; have HO_6 := n1_; have HB := n2_; clear n0_ n1_ n2_; (try clear hb); (try clear hb2); (try clear hk); (try clear hi))))
                  (try simp only [Act.put, List.setIfInBounds_toArray, List.set_cons_zero, List.set_cons_succ])
                  go_cut [96] (fun v96 wc => ∃ (kq : Nat) (x96_14 : Bool), v96 = .bool x96_14 ∧ Aside0 (galoislaw04_ResidueSums.j2 kq (wrap64 (1 + (Int.tmod (wrap64 (a0)) 100000))) t102 t106 x8_2 x9_2 x96_14 = some r) ∧ Aside0 (kq ≤ k2) ∧ Aside0 (Kd.R (Kd.int .i64) 3 wc w.heap.size (fun _ => True) v104 t102) ∧ Aside0 (Kd.R k53 53 wc w.heap.size (fun _ => True) (.slice (some ad110) t106.length co16) t106) ∧ Aside0 (Below w.heap.size w wc))
                  case first =>
                    have H := HC15.out
                    clear HC15
                    by_cases c18 : t112 = 0
                    · rw [if_pos c18] at H
                      have c18b0 : (t112 == 0) = true := beq_iff_eq.mpr c18
                      have c18b1 : (t112 != 0) = false := bne_eq_false_iff_eq.mpr c18
                      clear c18
                      (first | rw [c18b0] | (simp only [i64_w, i32_w]; rw [c18b0]) | skip)
                      by_cases c19 : t111 = true
                      · subst c19
                        have H1 : (if ((rd_T53 t106 x9_2).f1) < 1 then (galoislaw04_ResidueSums.j2 k2 (wrap64 (1 + (Int.tmod (wrap64 (a0)) 100000))) t102 t106 x8_2 x9_2 true) else (if ((rd_T53 t106 x9_2).f1) > 20 then (galoislaw04_ResidueSums.j2 k2 (wrap64 (1 + (Int.tmod (wrap64 (a0)) 100000))) t102 t106 x8_2 x9_2 true) else (if x9_2 > 0 then (if 0 ≤ (wrap64 (x9_2 - 1)) then (if (wrap64 (x9_2 - 1)) < (t106.length : Int) then (galoislaw04_ResidueSums.j2 k2 (wrap64 (1 + (Int.tmod (wrap64 (a0)) 100000))) t102 t106 x8_2 x9_2 (decide (((rd_T53 t106 (wrap64 (x9_2 - 1))).f0) ≥ ((rd_T53 t106 x9_2).f0)))) else (none)) else (none)) else (galoislaw04_ResidueSums.j2 k2 (wrap64 (1 + (Int.tmod (wrap64 (a0)) 100000))) t102 t106 x8_2 x9_2 false)))) = some r := by rw [if_pos rfl] at H; exact H
                        clear H
                        have H := H1
                        clear H1
                        by_cases c20 : ((rd_T53 t106 x9_2).f1) < 1
                        · rw [if_pos c20] at H
                          have c20b0 : decide (((rd_T53 t106 x9_2).f1) < 1) = true := decide_eq_true c20
                          clear c20
                          have H' := Aside0.mk H
                          clear H
                          have p113 : 0 ≤ (x9_2 : Int) := of_decide_eq_true (by first | (with_reducible assumption) | assumption)
                          have q113 : x9_2 < (t106.length : Int) := of_decide_eq_true (by first | (with_reducible assumption) | assumption)
                          obtain ⟨ad113, e113, hx113_0, hx113_1⟩ := at_T53 (Kd.R_reads' HO_6.out).2.2 x9_2 p113 q113
                          obtain rfl : ad110 = ad113 := (by injection e113)
                          replace p113 := eq_true p113
                          replace q113 := eq_true q113
                          go_wp2
                          repeat (go_quiet (fail); try go_wp2)
                          go_meet
                          case rel => exact ⟨_, (true), (by first | rfl | (simp; done) | (simp [*]; done)), H', ⟨by have := HJ5.out; have := HK2.out; first | omega | exact Nat.le_refl _⟩, ⟨by (with_reducible repeat (first | apply Kd.R_alloc | apply Kd.R_drewN | apply Kd.R_drew)); exact HO_4.out⟩, ⟨by (with_reducible repeat (first | apply Kd.R_alloc | apply Kd.R_drewN | apply Kd.R_drew)); exact HO_6.out⟩, ⟨by repeat (first | (with_reducible first | exact HB.out | apply below_alloc | apply pw_below_drewN | apply below_drew1) | exact HB.out)⟩⟩
                        · rw [if_neg c20] at H
                          have c20b0 : decide (((rd_T53 t106 x9_2).f1) < 1) = false := decide_eq_false c20
                          clear c20
                          by_cases c21 : ((rd_T53 t106 x9_2).f1) > 20
                          · rw [if_pos c21] at H
                            have c21b0 : decide (20 < ((rd_T53 t106 x9_2).f1)) = true := decide_eq_true c21
                            clear c21
                            have H' := Aside0.mk H
                            clear H
                            have p113 : 0 ≤ (x9_2 : Int) := of_decide_eq_true (by first | (with_reducible assumption) | assumption)
                            have q113 : x9_2 < (t106.length : Int) := of_decide_eq_true (by first | (with_reducible assumption) | assumption)
                            obtain ⟨ad113, e113, hx113_0, hx113_1⟩ := at_T53 (Kd.R_reads' HO_6.out).2.2 x9_2 p113 q113
                            obtain rfl : ad110 = ad113 := (by injection e113)
                            replace p113 := eq_true p113
                            replace q113 := eq_true q113
                            have p114 : 0 ≤ (x9_2 : Int) := of_decide_eq_true (by first | (with_reducible assumption) | assumption)
                            have q114 : x9_2 < (t106.length : Int) := of_decide_eq_true (by first | (with_reducible assumption) | assumption)
                            obtain ⟨ad114, e114, hx114_0, hx114_1⟩ := at_T53 (Kd.R_reads' HO_6.out).2.2 x9_2 p114 q114
                            obtain rfl : ad110 = ad114 := (by injection e114)
                            replace p114 := eq_true p114
                            replace q114 := eq_true q114
                            go_wp2
                            repeat (go_quiet (fail); try go_wp2)
                            go_meet
                            case rel => exact ⟨_, (true), (by first | rfl | (simp; done) | (simp [*]; done)), H', ⟨by have := HJ5.out; have := HK2.out; first | omega | exact Nat.le_refl _⟩, ⟨by (with_reducible repeat (first | apply Kd.R_alloc | apply Kd.R_drewN | apply Kd.R_drew)); exact HO_4.out⟩, ⟨by (with_reducible repeat (first | apply Kd.R_alloc | apply Kd.R_drewN | apply Kd.R_drew)); exact HO_6.out⟩, ⟨by repeat (first | (with_reducible first | exact HB.out | apply below_alloc | apply pw_below_drewN | apply below_drew1) | exact HB.out)⟩⟩
                          · rw [if_neg c21] at H
                            have c21b0 : decide (20 < ((rd_T53 t106 x9_2).f1)) = false := decide_eq_false c21
                            clear c21
                            by_cases c22 : x9_2 > 0
                            · rw [if_pos c22] at H
                              have c22b0 : decide (0 < x9_2) = true := decide_eq_true c22
                              clear c22
                              obtain ⟨ji23, hji23⟩ : ∃ j_ : Int, (wrap64 (x9_2 - 1)) = j_ := ⟨_, rfl⟩
                              replace H : (if 0 ≤ (ji23) then (if (ji23) < (t106.length : Int) then (galoislaw04_ResidueSums.j2 k2 (wrap64 (1 + (Int.tmod (wrap64 (a0)) 100000))) t102 t106 x8_2 x9_2 (decide (((rd_T53 t106 (ji23)).f0) ≥ ((rd_T53 t106 x9_2).f0)))) else (none)) else (none)) = some r := by first | (rw [hji23] at H; exact H) | (simp only [hji23] at H ⊢; exact H)
                              have hji23w : (IntKind.i64.wrap (x9_2 - 1)) = ji23 := (i64_w _).trans hji23
                              by_cases c24 : 0 ≤ (ji23)
                              · rw [if_pos c24] at H
                                have c24b0 : decide (0 ≤ (ji23)) = true := decide_eq_true c24
                                clear c24
                                by_cases c25 : (ji23) < (t106.length : Int)
                                · rw [if_pos c25] at H
                                  have c25b0 : decide ((ji23) < (t106.length : Int)) = true := decide_eq_true c25
                                  clear c25
                                  have H' := Aside0.mk H
                                  clear H
                                  have p113 : 0 ≤ (x9_2 : Int) := of_decide_eq_true (by first | (with_reducible assumption) | assumption)
                                  have q113 : x9_2 < (t106.length : Int) := of_decide_eq_true (by first | (with_reducible assumption) | assumption)
                                  obtain ⟨ad113, e113, hx113_0, hx113_1⟩ := at_T53 (Kd.R_reads' HO_6.out).2.2 x9_2 p113 q113
                                  obtain rfl : ad110 = ad113 := (by injection e113)
                                  replace p113 := eq_true p113
                                  replace q113 := eq_true q113
                                  have p114 : 0 ≤ (x9_2 : Int) := of_decide_eq_true (by first | (with_reducible assumption) | assumption)
                                  have q114 : x9_2 < (t106.length : Int) := of_decide_eq_true (by first | (with_reducible assumption) | assumption)
                                  obtain ⟨ad114, e114, hx114_0, hx114_1⟩ := at_T53 (Kd.R_reads' HO_6.out).2.2 x9_2 p114 q114
                                  obtain rfl : ad110 = ad114 := (by injection e114)
                                  replace p114 := eq_true p114
                                  replace q114 := eq_true q114
                                  have p115 : 0 ≤ ((ji23) : Int) := of_decide_eq_true (by first | (with_reducible assumption) | assumption)
                                  have q115 : (ji23) < (t106.length : Int) := of_decide_eq_true (by first | (with_reducible assumption) | assumption)
                                  obtain ⟨ad115, e115, hx115_0, hx115_1⟩ := at_T53 (Kd.R_reads' HO_6.out).2.2 (ji23) p115 q115
                                  obtain rfl : ad110 = ad115 := (by injection e115)
                                  replace p115 := eq_true p115
                                  replace q115 := eq_true q115
                                  have p116 : 0 ≤ (x9_2 : Int) := of_decide_eq_true (by first | (with_reducible assumption) | assumption)
                                  have q116 : x9_2 < (t106.length : Int) := of_decide_eq_true (by first | (with_reducible assumption) | assumption)
                                  obtain ⟨ad116, e116, hx116_0, hx116_1⟩ := at_T53 (Kd.R_reads' HO_6.out).2.2 x9_2 p116 q116
                                  obtain rfl : ad110 = ad116 := (by injection e116)
                                  replace p116 := eq_true p116
                                  replace q116 := eq_true q116
                                  go_wp2
                                  repeat (go_quiet (fail); try go_wp2)
                                  go_meet
                                  case rel => exact ⟨_, (decide (((rd_T53 t106 (ji23)).f0) ≥ ((rd_T53 t106 x9_2).f0))), (by first | rfl | (simp; done) | (simp only [← hji23] <;> (first | rfl | simp)) | (simp [*]; done)), H', ⟨by have := HJ5.out; have := HK2.out; first | omega | exact Nat.le_refl _⟩, ⟨by (with_reducible repeat (first | apply Kd.R_alloc | apply Kd.R_drewN | apply Kd.R_drew)); exact HO_4.out⟩, ⟨by (with_reducible repeat (first | apply Kd.R_alloc | apply Kd.R_drewN | apply Kd.R_drew)); exact HO_6.out⟩, ⟨by repeat (first | (with_reducible first | exact HB.out | apply below_alloc | apply pw_below_drewN | apply below_drew1) | exact HB.out)⟩⟩
                                · rw [if_neg c25] at H
                                  exact absurd H (by simp)
                              · rw [if_neg c24] at H
                                exact absurd H (by simp)
                            · rw [if_neg c22] at H
                              have c22b0 : decide (0 < x9_2) = false := decide_eq_false c22
                              clear c22
                              have H' := Aside0.mk H
                              clear H
                              have p113 : 0 ≤ (x9_2 : Int) := of_decide_eq_true (by first | (with_reducible assumption) | assumption)
                              have q113 : x9_2 < (t106.length : Int) := of_decide_eq_true (by first | (with_reducible assumption) | assumption)
                              obtain ⟨ad113, e113, hx113_0, hx113_1⟩ := at_T53 (Kd.R_reads' HO_6.out).2.2 x9_2 p113 q113
                              obtain rfl : ad110 = ad113 := (by injection e113)
                              replace p113 := eq_true p113
                              replace q113 := eq_true q113
                              have p114 : 0 ≤ (x9_2 : Int) := of_decide_eq_true (by first | (with_reducible assumption) | assumption)
                              have q114 : x9_2 < (t106.length : Int) := of_decide_eq_true (by first | (with_reducible assumption) | assumption)
                              obtain ⟨ad114, e114, hx114_0, hx114_1⟩ := at_T53 (Kd.R_reads' HO_6.out).2.2 x9_2 p114 q114
                              obtain rfl : ad110 = ad114 := (by injection e114)
                              replace p114 := eq_true p114
                              replace q114 := eq_true q114
                              go_wp2
                              repeat (go_quiet (fail); try go_wp2)
                              go_meet
                              case rel => exact ⟨_, (false), (by first | rfl | (simp; done) | (simp [*]; done)), H', ⟨by have := HJ5.out; have := HK2.out; first | omega | exact Nat.le_refl _⟩, ⟨by (with_reducible repeat (first | apply Kd.R_alloc | apply Kd.R_drewN | apply Kd.R_drew)); exact HO_4.out⟩, ⟨by (with_reducible repeat (first | apply Kd.R_alloc | apply Kd.R_drewN | apply Kd.R_drew)); exact HO_6.out⟩, ⟨by repeat (first | (with_reducible first | exact HB.out | apply below_alloc | apply pw_below_drewN | apply below_drew1) | exact HB.out)⟩⟩
                      · replace c19 := Bool.eq_false_iff.mpr c19
                        subst c19
                        have H1 : (galoislaw04_ResidueSums.j2 k2 (wrap64 (1 + (Int.tmod (wrap64 (a0)) 100000))) t102 t106 x8_2 x9_2 true) = some r := by rw [if_neg (show ¬ (false = true) by decide)] at H; exact H
                        clear H
                        have H := H1
                        clear H1
                        have H' := Aside0.mk H
                        clear H
                        go_wp2
                        repeat (go_quiet (fail); try go_wp2)
                        go_meet
                        case rel => exact ⟨_, (true), (by first | rfl | (simp; done) | (simp [*]; done)), H', ⟨by have := HJ5.out; have := HK2.out; first | omega | exact Nat.le_refl _⟩, ⟨by (with_reducible repeat (first | apply Kd.R_alloc | apply Kd.R_drewN | apply Kd.R_drew)); exact HO_4.out⟩, ⟨by (with_reducible repeat (first | apply Kd.R_alloc | apply Kd.R_drewN | apply Kd.R_drew)); exact HO_6.out⟩, ⟨by repeat (first | (with_reducible first | exact HB.out | apply below_alloc | apply pw_below_drewN | apply below_drew1) | exact HB.out)⟩⟩
                    · rw [if_neg c18] at H
                      have c18b0 : (t112 == 0) = false := beq_eq_false_iff_ne.mpr c18
                      have c18b1 : (t112 != 0) = true := bne_iff_ne.mpr c18
                      (first | rw [c18b0] | (simp only [i64_w, i32_w]; rw [c18b0]) | skip)
                      have H' := Aside0.mk H
                      clear H
                      go_wp2
                      repeat (go_quiet (fail); try go_wp2)
                      go_meet
                      case rel => exact ⟨_, (true), (by first | rfl | (simp; done) | (simp [*]; done)), H', ⟨by have := HJ5.out; have := HK2.out; first | omega | exact Nat.le_refl _⟩, ⟨by (with_reducible repeat (first | apply Kd.R_alloc | apply Kd.R_drewN | apply Kd.R_drew)); exact HO_4.out⟩, ⟨by (with_reducible repeat (first | apply Kd.R_alloc | apply Kd.R_drewN | apply Kd.R_drew)); exact HO_6.out⟩, ⟨by repeat (first | (with_reducible first | exact HB.out | apply below_alloc | apply pw_below_drewN | apply below_drew1) | exact HB.out)⟩⟩
                  case rest =>
                    clear HC15
                    try clear c1
                    try clear p1
                    try clear q1
                    try clear hx1
                    try clear c2
                    try clear p2
                    try clear c3
                    try clear p6
                    try clear c10
                    try clear c10b0
                    try clear c10b1
                    try clear c11
                    try clear p11
                    try clear q11
                    try clear hx11
                    try clear c12
                    try clear c12b0
                    try clear c13
                    try clear c13b0
                    try clear c18
                    try clear c18b0
                    try clear c18b1
                    try clear c19
                    try clear c20
                    try clear c20b0
                    try clear c21
                    try clear c21b0
                    try clear c22
                    try clear c22b0
                    try clear c24
                    try clear c24b0
                    try clear c25
                    try clear c25b0
                    try clear hx110_0
                    try clear hx110_1
                    try clear hx113_0
                    try clear hx113_1
                    try clear hx114_0
                    try clear hx114_1
                    try clear hx115_0
                    try clear hx115_1
                    try clear hx116_0
                    try clear hx116_1
                    try clear p110
                    try clear p113
                    try clear p114
                    try clear p115
                    try clear p116
                    try clear p2
                    try clear p6
                    try clear q110
                    try clear q113
                    try clear q114
                    try clear q115
                    try clear q116
                    obtain ⟨kq, x96_14, rfl, HA, HJ14, HO_4, HO_6, HB⟩ := hcut
                    cases kq with
                    | zero => exact absurd HA.out (by simp [galoislaw04_ResidueSums.j2])
                    | succ kj14 =>
                      have H := HA.out
                      clear HA
                      simp only [galoislaw04_ResidueSums.j2] at H
                      by_cases c26 : x96_14 = true
                      · subst c26
                        have H1 : (none) = some r := by rw [if_pos rfl] at H; exact H
                        clear H
                        have H := H1
                        clear H1
                        exact absurd H (by simp)
                      · replace c26 := Bool.eq_false_iff.mpr c26
                        subst c26
                        have H1 : (galoislaw04_ResidueSums.l1 kj14 (wrap64 (1 + (Int.tmod (wrap64 (a0)) 100000))) t102 t106 x8_2 x9_2 0) = some r := by rw [if_neg (show ¬ (false = true) by decide)] at H; exact H
                        clear H
                        have H := H1
                        clear H1
                        have H' := Aside0.mk H
                        clear H
                        go_wp2
                        repeat (go_quiet (fail); try go_wp2)
                        go_loopg [8, 12] kj14 (fun kq v8 v12 w' => ∃ (x8_4 : Int) (x12_4 : Int), v8 = .int .i64 x8_4 ∧ v12 = .int .i64 x12_4 ∧ Aside0 (galoislaw04_ResidueSums.l1 kq (wrap64 (1 + (Int.tmod (wrap64 (a0)) 100000))) t102 t106 x8_4 x9_2 x12_4 = some r) ∧ Aside0 (kq ≤ kj14) ∧ Aside0 (Kd.R (Kd.int .i64) 3 w' w.heap.size (fun _ => True) v104 t102) ∧ Aside0 (Kd.R k53 53 w' w.heap.size (fun _ => True) (.slice (some ad110) t106.length co16) t106) ∧ Aside0 (Below w.heap.size w w'))
                        case atStart => exact ⟨(x8_2), (0), (by first | rfl | (simp; done) | (simp [*]; done)), (by first | rfl | (simp; done) | (simp [*]; done)), H', ⟨Nat.le_refl _⟩, ⟨by (with_reducible repeat (first | apply Kd.R_alloc | apply Kd.R_drewN | apply Kd.R_drew)); exact HO_4.out⟩, ⟨by (with_reducible repeat (first | apply Kd.R_alloc | apply Kd.R_drewN | apply Kd.R_drew)); exact HO_6.out⟩, ⟨by repeat (first | (with_reducible first | exact HB.out | apply below_alloc | apply pw_below_drewN | apply below_drew1) | exact HB.out)⟩⟩
                        case round =>
                          clear H'
                          try clear c1
                          try clear p1
                          try clear q1
                          try clear hx1
                          try clear c2
                          try clear p2
                          try clear c3
                          try clear p6
                          try clear c10
                          try clear c10b0
                          try clear c10b1
                          try clear c11
                          try clear p11
                          try clear q11
                          try clear hx11
                          try clear c12
                          try clear c12b0
                          try clear c13
                          try clear c13b0
                          try clear c18
                          try clear c18b0
                          try clear c18b1
                          try clear c19
                          try clear c20
                          try clear c20b0
                          try clear c21
                          try clear c21b0
                          try clear c22
                          try clear c22b0
                          try clear c24
                          try clear c24b0
                          try clear c25
                          try clear c25b0
                          try clear c26
                          try clear hx110_0
                          try clear hx110_1
                          try clear hx113_0
                          try clear hx113_1
                          try clear hx114_0
                          try clear hx114_1
                          try clear hx115_0
                          try clear hx115_1
                          try clear hx116_0
                          try clear hx116_1
                          try clear p1
                          try clear p11
                          try clear p110
                          try clear p113
                          try clear p114
                          try clear p115
                          try clear p116
                          try clear p2
                          try clear p6
                          try clear q1
                          try clear q11
                          try clear q110
                          try clear q113
                          try clear q114
                          try clear q115
                          try clear q116
                          obtain ⟨x8_4, x12_4, rfl, rfl, HA, HK4, HO_4, HO_6, HB⟩ := hrel
                          cases gk with
                          | zero => exact absurd HA.out (by simp [galoislaw04_ResidueSums.l1])
                          | succ k4 =>
                            have H := HA.out
                            clear HA
                            simp only [galoislaw04_ResidueSums.l1] at H
                            by_cases c27 : 0 ≤ x9_2
                            · rw [if_pos c27] at H
                              have c27b0 : decide (0 ≤ x9_2) = true := decide_eq_true c27
                              clear c27
                              by_cases c28 : x9_2 < (t106.length : Int)
                              · rw [if_pos c28] at H
                                have c28b0 : decide (x9_2 < (t106.length : Int)) = true := decide_eq_true c28
                                clear c28
                                by_cases c29 : x12_4 < ((rd_T53 t106 x9_2).f1)
                                · rw [if_pos c29] at H
                                  have c29b0 : decide (x12_4 < ((rd_T53 t106 x9_2).f1)) = true := decide_eq_true c29
                                  clear c29
                                  by_cases c30 : x8_4 ≤ (wrap64 (1 + (Int.tmod (wrap64 (a0)) 100000)))
                                  · rw [if_pos c30] at H
                                    have c30b0 : decide (x8_4 ≤ (wrap64 (1 + (Int.tmod (wrap64 (a0)) 100000)))) = true := decide_eq_true c30
                                    clear c30
                                    have H' := Aside0.mk H
                                    clear H
                                    have p117 : 0 ≤ (x9_2 : Int) := of_decide_eq_true (by first | (with_reducible assumption) | assumption)
                                    have q117 : x9_2 < (t106.length : Int) := of_decide_eq_true (by first | (with_reducible assumption) | assumption)
                                    obtain ⟨ad117, e117, hx117_0, hx117_1⟩ := at_T53 (Kd.R_reads' HO_6.out).2.2 x9_2 p117 q117
                                    obtain rfl : ad110 = ad117 := (by injection e117)
                                    replace p117 := eq_true p117
                                    replace q117 := eq_true q117
                                    have p118 : 0 ≤ (x9_2 : Int) := of_decide_eq_true (by first | (with_reducible assumption) | assumption)
                                    have q118 : x9_2 < (t106.length : Int) := of_decide_eq_true (by first | (with_reducible assumption) | assumption)
                                    obtain ⟨ad118, e118, hx118_0, hx118_1⟩ := at_T53 (Kd.R_reads' HO_6.out).2.2 x9_2 p118 q118
                                    obtain rfl : ad110 = ad118 := (by injection e118)
                                    replace p118 := eq_true p118
                                    replace q118 := eq_true q118
                                    go_wp2
                                    repeat (go_quiet (fail); try go_wp2)
                                    go_roundg k4
                                    case measure => have := HJ5.out; have := HK2.out; have := HJ14.out; have := HK4.out; omega
                                    case rel => exact ⟨(wrap64 (x8_4 * ((rd_T53 t106 x9_2).f0))), (wrap64 (x12_4 + 1)), (by first | rfl | (simp; done) | (simp [*]; done)), (by first | rfl | (simp; done) | (simp [*]; done)), H', ⟨by have := HJ5.out; have := HK2.out; have := HJ14.out; have := HK4.out; omega⟩, ⟨by (with_reducible repeat (first | apply Kd.R_alloc | apply Kd.R_drewN | apply Kd.R_drew)); exact HO_4.out⟩, ⟨by (with_reducible repeat (first | apply Kd.R_alloc | apply Kd.R_drewN | apply Kd.R_drew)); exact HO_6.out⟩, ⟨by repeat (first | (with_reducible first | exact HB.out | apply below_alloc | apply pw_below_drewN | apply below_drew1) | exact HB.out)⟩⟩
                                  · rw [if_neg c30] at H
                                    have c30b0 : decide (x8_4 ≤ (wrap64 (1 + (Int.tmod (wrap64 (a0)) 100000)))) = false := decide_eq_false c30
                                    clear c30
                                    have H' := Aside0.mk H
                                    clear H
                                    have p117 : 0 ≤ (x9_2 : Int) := of_decide_eq_true (by first | (with_reducible assumption) | assumption)
                                    have q117 : x9_2 < (t106.length : Int) := of_decide_eq_true (by first | (with_reducible assumption) | assumption)
                                    obtain ⟨ad117, e117, hx117_0, hx117_1⟩ := at_T53 (Kd.R_reads' HO_6.out).2.2 x9_2 p117 q117
                                    obtain rfl : ad110 = ad117 := (by injection e117)
                                    replace p117 := eq_true p117
                                    replace q117 := eq_true q117
                                    go_wp2
                                    repeat (go_quiet (fail); try go_wp2)
                                    go_roundg k4
                                    case measure => have := HJ5.out; have := HK2.out; have := HJ14.out; have := HK4.out; omega
                                    case rel => exact ⟨(x8_4), (wrap64 (x9_2 + 1)), (by first | rfl | (simp; done) | (simp [*]; done)), (by first | rfl | (simp; done) | (simp [*]; done)), H', ⟨by have := HJ5.out; have := HK2.out; have := HJ14.out; have := HK4.out; omega⟩, ⟨by (with_reducible repeat (first | apply Kd.R_alloc | apply Kd.R_drewN | apply Kd.R_drew)); exact HO_4.out⟩, ⟨by (with_reducible repeat (first | apply Kd.R_alloc | apply Kd.R_drewN | apply Kd.R_drew)); exact HO_6.out⟩, ⟨by repeat (first | (with_reducible first | exact HB.out | apply below_alloc | apply pw_below_drewN | apply below_drew1) | exact HB.out)⟩⟩
                                · rw [if_neg c29] at H
                                  have c29b0 : decide (x12_4 < ((rd_T53 t106 x9_2).f1)) = false := decide_eq_false c29
                                  clear c29
                                  have H' := Aside0.mk H
                                  clear H
                                  have p117 : 0 ≤ (x9_2 : Int) := of_decide_eq_true (by first | (with_reducible assumption) | assumption)
                                  have q117 : x9_2 < (t106.length : Int) := of_decide_eq_true (by first | (with_reducible assumption) | assumption)
                                  obtain ⟨ad117, e117, hx117_0, hx117_1⟩ := at_T53 (Kd.R_reads' HO_6.out).2.2 x9_2 p117 q117
                                  obtain rfl : ad110 = ad117 := (by injection e117)
                                  replace p117 := eq_true p117
                                  replace q117 := eq_true q117
                                  go_wp2
                                  repeat (go_quiet (fail); try go_wp2)
                                  go_roundg k4
                                  case measure => have := HJ5.out; have := HK2.out; have := HJ14.out; have := HK4.out; omega
                                  case rel => exact ⟨(x8_4), (wrap64 (x9_2 + 1)), (by first | rfl | (simp; done) | (simp [*]; done)), (by first | rfl | (simp; done) | (simp [*]; done)), H', ⟨by have := HJ5.out; have := HK2.out; have := HJ14.out; have := HK4.out; omega⟩, ⟨by (with_reducible repeat (first | apply Kd.R_alloc | apply Kd.R_drewN | apply Kd.R_drew)); exact HO_4.out⟩, ⟨by (with_reducible repeat (first | apply Kd.R_alloc | apply Kd.R_drewN | apply Kd.R_drew)); exact HO_6.out⟩, ⟨by repeat (first | (with_reducible first | exact HB.out | apply below_alloc | apply pw_below_drewN | apply below_drew1) | exact HB.out)⟩⟩
                              · rw [if_neg c28] at H
                                exact absurd H (by simp)
                            · rw [if_neg c27] at H
                              exact absurd H (by simp)
                · rw [if_neg c13] at H
                  exact absurd H (by simp)
              · rw [if_neg c12] at H
                have c12b0 : decide (x9_2 < (t106.length : Int)) = false := decide_eq_false c12
                clear c12
                have H' := Aside0.mk H
                clear H
                obtain ⟨Ao31, co31, eo31⟩ := Kd.R_slice HO_6.out
                subst eo31
                go_wp2
                repeat (go_quiet (fail); try go_wp2)
                go_loopg [13, 14, 15] k2 (fun kq v13 v14 v15 w' => ∃ (x13_3 : Int) (x14_3 : Int) (x15_3 : Int), v13 = .int .i64 x13_3 ∧ v14 = .int .i64 x14_3 ∧ v15 = .int .i64 x15_3 ∧ Aside0 (galoislaw04_ResidueSums.l2 kq (wrap64 (1 + (Int.tmod (wrap64 (a0)) 100000))) t102 x8_2 x13_3 x14_3 x15_3 = some r) ∧ Aside0 (kq ≤ k2) ∧ Aside0 (Kd.R (Kd.int .i64) 3 w' w.heap.size (fun _ => True) v104 t102) ∧ Aside0 (Below w.heap.size w w'))
                case atStart => exact ⟨(0), (0), (0), (by first | rfl | (simp; done) | (simp [*]; done)), (by first | rfl | (simp; done) | (simp [*]; done)), (by first | rfl | (simp; done) | (simp [*]; done)), H', ⟨Nat.le_refl _⟩, ⟨by (with_reducible repeat (first | apply Kd.R_alloc | apply Kd.R_drewN | apply Kd.R_drew)); exact HO_4.out⟩, ⟨by repeat (first | (with_reducible first | exact HB.out | apply below_alloc | apply pw_below_drewN | apply below_drew1) | exact HB.out)⟩⟩
                case round =>
                  clear H'
                  try clear c1
                  try clear p1
                  try clear q1
                  try clear hx1
                  try clear c2
                  try clear p2
                  try clear c3
                  try clear p6
                  try clear c10
                  try clear c10b0
                  try clear c10b1
                  try clear c11
                  try clear p11
                  try clear q11
                  try clear hx11
                  try clear c12
                  try clear c12b0
                  try clear c13
                  try clear c13b0
                  try clear c18
                  try clear c18b0
                  try clear c18b1
                  try clear c19
                  try clear c20
                  try clear c20b0
                  try clear c21
                  try clear c21b0
                  try clear c22
                  try clear c22b0
                  try clear c24
                  try clear c24b0
                  try clear c25
                  try clear c25b0
                  try clear c26
                  try clear c27
                  try clear c27b0
                  try clear c28
                  try clear c28b0
                  try clear c29
                  try clear c29b0
                  try clear c30
                  try clear c30b0
                  try clear hx110_0
                  try clear hx110_1
                  try clear hx113_0
                  try clear hx113_1
                  try clear hx114_0
                  try clear hx114_1
                  try clear hx115_0
                  try clear hx115_1
                  try clear hx116_0
                  try clear hx116_1
                  try clear hx117_0
                  try clear hx117_1
                  try clear hx118_0
                  try clear hx118_1
                  try clear p1
                  try clear p11
                  try clear p110
                  try clear p113
                  try clear p114
                  try clear p115
                  try clear p116
                  try clear p117
                  try clear p118
                  try clear p2
                  try clear p6
                  try clear q1
                  try clear q11
                  try clear q110
                  try clear q113
                  try clear q114
                  try clear q115
                  try clear q116
                  try clear q117
                  try clear q118
                  obtain ⟨x13_3, x14_3, x15_3, rfl, rfl, rfl, HA, HK3, HO_4, HB⟩ := hrel
                  cases gk with
                  | zero => exact absurd HA.out (by simp [galoislaw04_ResidueSums.l2])
                  | succ k3 =>
                    have H := HA.out
                    clear HA
                    simp only [galoislaw04_ResidueSums.l2] at H
                    by_cases c32 : x15_3 < (t102.length : Int)
                    · rw [if_pos c32] at H
                      have c32b0 : decide (x15_3 < (t102.length : Int)) = true := decide_eq_true c32
                      clear c32
                      by_cases c33 : 0 ≤ x15_3
                      · rw [if_pos c33] at H
                        have c33b0 : decide (0 ≤ x15_3) = true := decide_eq_true c33
                        clear c33
                        replace H := Option.bind_eq_some_iff.mp H
                        obtain ⟨⟨t120, t121⟩, A340, H⟩ := H
                        replace H : ((residue_Moebius.f k3 (rd t102 x15_3)).bind fun bt123 => (if t121 = 0 then (if bt123.2 = 0 then (if x15_3 > 0 then (if 0 ≤ (wrap64 (x15_3 - 1)) then (if (wrap64 (x15_3 - 1)) < (t102.length : Int) then (if (rd t102 (wrap64 (x15_3 - 1))) ≥ (rd t102 x15_3) then (none) else (if (mx 1 (rd t102 x15_3)) = 0 then (none) else (if (Int.tmod (wrap64 (1 + (Int.tmod (wrap64 (a0)) 100000))) (mx 1 (rd t102 x15_3))) = 0 then (galoislaw04_ResidueSums.l2 k3 (wrap64 (1 + (Int.tmod (wrap64 (a0)) 100000))) t102 x8_2 (wrap64 (x13_3 + t120)) (wrap64 (x14_3 + bt123.1)) (wrap64 (x15_3 + 1))) else (none)))) else (none)) else (none)) else (if (mx 1 (rd t102 x15_3)) = 0 then (none) else (if (Int.tmod (wrap64 (1 + (Int.tmod (wrap64 (a0)) 100000))) (mx 1 (rd t102 x15_3))) = 0 then (galoislaw04_ResidueSums.l2 k3 (wrap64 (1 + (Int.tmod (wrap64 (a0)) 100000))) t102 x8_2 (wrap64 (x13_3 + t120)) (wrap64 (x14_3 + bt123.1)) (wrap64 (x15_3 + 1))) else (none)))) else (none)) else (none))) = some r := H
                        have A34 := Aside0.mk A340
                        clear A340
                        replace H := Option.bind_eq_some_iff.mp H
                        obtain ⟨⟨t123, t124⟩, A350, H⟩ := H
                        replace H : (if t121 = 0 then (if t124 = 0 then (if x15_3 > 0 then (if 0 ≤ (wrap64 (x15_3 - 1)) then (if (wrap64 (x15_3 - 1)) < (t102.length : Int) then (if (rd t102 (wrap64 (x15_3 - 1))) ≥ (rd t102 x15_3) then (none) else (if (mx 1 (rd t102 x15_3)) = 0 then (none) else (if (Int.tmod (wrap64 (1 + (Int.tmod (wrap64 (a0)) 100000))) (mx 1 (rd t102 x15_3))) = 0 then (galoislaw04_ResidueSums.l2 k3 (wrap64 (1 + (Int.tmod (wrap64 (a0)) 100000))) t102 x8_2 (wrap64 (x13_3 + t120)) (wrap64 (x14_3 + t123)) (wrap64 (x15_3 + 1))) else (none)))) else (none)) else (none)) else (if (mx 1 (rd t102 x15_3)) = 0 then (none) else (if (Int.tmod (wrap64 (1 + (Int.tmod (wrap64 (a0)) 100000))) (mx 1 (rd t102 x15_3))) = 0 then (galoislaw04_ResidueSums.l2 k3 (wrap64 (1 + (Int.tmod (wrap64 (a0)) 100000))) t102 x8_2 (wrap64 (x13_3 + t120)) (wrap64 (x14_3 + t123)) (wrap64 (x15_3 + 1))) else (none)))) else (none)) else (none)) = some r := H
                        have A35 := Aside0.mk A350
                        clear A350
                        by_cases c36 : t121 = 0
                        · rw [if_pos c36] at H
                          have c36b0 : (t121 == 0) = true := beq_iff_eq.mpr c36
                          have c36b1 : (t121 != 0) = false := bne_eq_false_iff_eq.mpr c36
                          clear c36
                          by_cases c37 : t124 = 0
                          · rw [if_pos c37] at H
                            have c37b0 : (t124 == 0) = true := beq_iff_eq.mpr c37
                            have c37b1 : (t124 != 0) = false := bne_eq_false_iff_eq.mpr c37
                            clear c37
                            by_cases c38 : x15_3 > 0
                            · rw [if_pos c38] at H
                              have c38b0 : decide (0 < x15_3) = true := decide_eq_true c38
                              clear c38
                              obtain ⟨ji39, hji39⟩ : ∃ j_ : Int, (wrap64 (x15_3 - 1)) = j_ := ⟨_, rfl⟩
                              replace H : (if 0 ≤ (ji39) then (if (ji39) < (t102.length : Int) then (if (rd t102 (ji39)) ≥ (rd t102 x15_3) then (none) else (if (mx 1 (rd t102 x15_3)) = 0 then (none) else (if (Int.tmod (wrap64 (1 + (Int.tmod (wrap64 (a0)) 100000))) (mx 1 (rd t102 x15_3))) = 0 then (galoislaw04_ResidueSums.l2 k3 (wrap64 (1 + (Int.tmod (wrap64 (a0)) 100000))) t102 x8_2 (wrap64 (x13_3 + t120)) (wrap64 (x14_3 + t123)) (wrap64 (x15_3 + 1))) else (none)))) else (none)) else (none)) = some r := by first | (rw [hji39] at H; exact H) | (simp only [hji39] at H ⊢; exact H)
                              (try rw [hji39] at A34)
                              (try rw [hji39] at A35)
                              have hji39w : (IntKind.i64.wrap (x15_3 - 1)) = ji39 := (i64_w _).trans hji39
                              by_cases c40 : 0 ≤ (ji39)
                              · rw [if_pos c40] at H
                                have c40b0 : decide (0 ≤ (ji39)) = true := decide_eq_true c40
                                clear c40
                                by_cases c41 : (ji39) < (t102.length : Int)
                                · rw [if_pos c41] at H
                                  have c41b0 : decide ((ji39) < (t102.length : Int)) = true := decide_eq_true c41
                                  clear c41
                                  by_cases c42 : (rd t102 (ji39)) ≥ (rd t102 x15_3)
                                  · rw [if_pos c42] at H
                                    exact absurd H (by simp)
                                  · rw [if_neg c42] at H
                                    have c42b0 : decide ((rd t102 x15_3) ≤ (rd t102 (ji39))) = false := decide_eq_false c42
                                    clear c42
                                    obtain ⟨ji43, hji43⟩ : ∃ j_ : Int, (mx 1 (rd t102 x15_3)) = j_ := ⟨_, rfl⟩
                                    replace H : (if (ji43) = 0 then (none) else (if (Int.tmod (wrap64 (1 + (Int.tmod (wrap64 (a0)) 100000))) (ji43)) = 0 then (galoislaw04_ResidueSums.l2 k3 (wrap64 (1 + (Int.tmod (wrap64 (a0)) 100000))) t102 x8_2 (wrap64 (x13_3 + t120)) (wrap64 (x14_3 + t123)) (wrap64 (x15_3 + 1))) else (none))) = some r := by first | (rw [hji43] at H; exact H) | (simp only [hji43] at H ⊢; exact H)
                                    (try rw [hji43] at A34)
                                    (try rw [hji43] at A35)
                                    have hji43_ : (if 1 < (rd t102 x15_3) then (rd t102 x15_3) else 1) = ji43 := hji43
                                    by_cases c44 : (ji43) = 0
                                    · rw [if_pos c44] at H
                                      exact absurd H (by simp)
                                    · rw [if_neg c44] at H
                                      have c44b0 : ((ji43) == 0) = false := beq_eq_false_iff_ne.mpr c44
                                      have c44b1 : ((ji43) != 0) = true := bne_iff_ne.mpr c44
                                      by_cases c45 : (Int.tmod (wrap64 (1 + (Int.tmod (wrap64 (a0)) 100000))) (ji43)) = 0
                                      · rw [if_pos c45] at H
                                        have c45b0 : ((Int.tmod (wrap64 (1 + (Int.tmod (wrap64 (a0)) 100000))) (ji43)) == 0) = true := beq_iff_eq.mpr c45
                                        have c45b1 : ((Int.tmod (wrap64 (1 + (Int.tmod (wrap64 (a0)) 100000))) (ji43)) != 0) = false := bne_eq_false_iff_eq.mpr c45
                                        clear c45
                                        have H' := Aside0.mk H
                                        clear H
                                        obtain ⟨Ao46, co46, eo46⟩ := Kd.R_slice HO_4.out
                                        subst eo46
                                        have p119 : 0 ≤ (x15_3 : Int) := of_decide_eq_true (by first | (with_reducible assumption) | assumption)
                                        have q119 : x15_3 < (t102.length : Int) := of_decide_eq_true (by first | (with_reducible assumption) | assumption)
                                        obtain ⟨ad119, e119, hx119_0⟩ := Kd.at_int (Kd.R_reads' HO_4.out).2.2 x15_3 p119 q119
                                        cases e119
                                        replace p119 := eq_true p119
                                        replace q119 := eq_true q119
                                        go_wp2_with (first | (go_at_call 37; (with_reducible refine (residue_Totient.calls k3 (rd t102 x15_3) t120 t121 _ A34.out).mono ?_); rintro e w47 ⟨rfl, hb⟩; have n0_ := Aside0.mk (Kd.R_below (by (with_reducible repeat (first | apply Kd.R_alloc | apply Kd.R_drewN | apply Kd.R_drew)); exact HO_4.out) hb); have n1_ := Aside0.mk (below_step (by repeat (first | (with_reducible first | exact HB.out | apply below_alloc | apply pw_below_drewN | apply below_drew1) | exact HB.out)) hb); clear HO_4; clear HB; have HO_4 := n0_; have HB := n1_; clear n0_ n1_; (try clear hb); (try clear hb2); (try clear hk); (try clear hi); have p122 : 0 ≤ (x15_3 : Int) := of_decide_eq_true (by first | (with_reducible assumption) | assumption); have q122 : x15_3 < (t102.length : Int) := of_decide_eq_true (by first | (with_reducible assumption) | assumption); obtain ⟨ad122, e122, hx122_0⟩ := Kd.at_int (Kd.R_reads' HO_4.out).2.2 x15_3 p122 q122; obtain rfl : ad119 = ad122 := (by injection e122); replace p122 := eq_true p122; replace q122 := eq_true q122) | (go_at_call 47; (with_reducible refine (residue_Moebius.calls k3 (rd t102 x15_3) t123 t124 _ A35.out).mono ?_); rintro e w48 ⟨rfl, hb⟩; have n0_ := Aside0.mk (Kd.R_below (by (with_reducible repeat (first | apply Kd.R_alloc | apply Kd.R_drewN | apply Kd.R_drew)); exact HO_4.out) hb); have n1_ := Aside0.mk (below_step (by repeat (first | (with_reducible first | exact HB.out | apply below_alloc | apply pw_below_drewN | apply below_drew1) | exact HB.out)) hb); clear HO_4; clear HB; have HO_4 := n0_; have HB := n1_; clear n0_ n1_; (try clear hb); (try clear hb2); (try clear hk); (try clear hi); have p125 : 0 ≤ ((ji39) : Int) := of_decide_eq_true (by first | (with_reducible assumption) | assumption); have q125 : (ji39) < (t102.length : Int) := of_decide_eq_true (by first | (with_reducible assumption) | assumption); obtain ⟨ad125, e125, hx125_0⟩ := Kd.at_int (Kd.R_reads' HO_4.out).2.2 (ji39) p125 q125; obtain rfl : ad119 = ad125 := (by injection e125); replace p125 := eq_true p125; replace q125 := eq_true q125; have p126 : 0 ≤ (x15_3 : Int) := of_decide_eq_true (by first | (with_reducible assumption) | assumption); have q126 : x15_3 < (t102.length : Int) := of_decide_eq_true (by first | (with_reducible assumption) | assumption); obtain ⟨ad126, e126, hx126_0⟩ := Kd.at_int (Kd.R_reads' HO_4.out).2.2 x15_3 p126 q126; obtain rfl : ad119 = ad126 := (by injection e126); replace p126 := eq_true p126; replace q126 := eq_true q126; have p127 : 0 ≤ (x15_3 : Int) := of_decide_eq_true (by first | (with_reducible assumption) | assumption); have q127 : x15_3 < (t102.length : Int) := of_decide_eq_true (by first | (with_reducible assumption) | assumption); obtain ⟨ad127, e127, hx127_0⟩ := Kd.at_int (Kd.R_reads' HO_4.out).2.2 x15_3 p127 q127; obtain rfl : ad119 = ad127 := (by injection e127); replace p127 := eq_true p127; replace q127 := eq_true q127))
                                        repeat (go_quiet (first | (go_at_call 37; (with_reducible refine (residue_Totient.calls k3 (rd t102 x15_3) t120 t121 _ A34.out).mono ?_); rintro e w47 ⟨rfl, hb⟩; have n0_ := Aside0.mk (Kd.R_below (by (with_reducible repeat (first | apply Kd.R_alloc | apply Kd.R_drewN | apply Kd.R_drew)); exact HO_4.out) hb); have n1_ := Aside0.mk (below_step (by repeat (first | (with_reducible first | exact HB.out | apply below_alloc | apply pw_below_drewN | apply below_drew1) | exact HB.out)) hb); clear HO_4; clear HB; have HO_4 := n0_; have HB := n1_; clear n0_ n1_; (try clear hb); (try clear hb2); (try clear hk); (try clear hi); have p122 : 0 ≤ (x15_3 : Int) := of_decide_eq_true (by first | (with_reducible assumption) | assumption); have q122 : x15_3 < (t102.length : Int) := of_decide_eq_true (by first | (with_reducible assumption) | assumption); obtain ⟨ad122, e122, hx122_0⟩ := Kd.at_int (Kd.R_reads' HO_4.out).2.2 x15_3 p122 q122; obtain rfl : ad119 = ad122 := (by injection e122); replace p122 := eq_true p122; replace q122 := eq_true q122) | (go_at_call 47; (with_reducible refine (residue_Moebius.calls k3 (rd t102 x15_3) t123 t124 _ A35.out).mono ?_); rintro e w48 ⟨rfl, hb⟩; have n0_ := Aside0.mk (Kd.R_below (by (with_reducible repeat (first | apply Kd.R_alloc | apply Kd.R_drewN | apply Kd.R_drew)); exact HO_4.out) hb); have n1_ := Aside0.mk (below_step (by repeat (first | (with_reducible first | exact HB.out | apply below_alloc | apply pw_below_drewN | apply below_drew1) | exact HB.out)) hb); clear HO_4; clear HB; have HO_4 := n0_; have HB := n1_; clear n0_ n1_; (try clear hb); (try clear hb2); (try clear hk); (try clear hi); have p125 : 0 ≤ ((ji39) : Int) := of_decide_eq_true (by first | (with_reducible assumption) | assumption); have q125 : (ji39) < (t102.length : Int) := of_decide_eq_true (by first | (with_reducible assumption) | assumption); obtain ⟨ad125, e125, hx125_0⟩ := Kd.at_int (Kd.R_reads' HO_4.out).2.2 (ji39) p125 q125; obtain rfl : ad119 = ad125 := (by injection e125); replace p125 := eq_true p125; replace q125 := eq_true q125; have p126 : 0 ≤ (x15_3 : Int) := of_decide_eq_true (by first | (with_reducible assumption) | assumption); have q126 : x15_3 < (t102.length : Int) := of_decide_eq_true (by first | (with_reducible assumption) | assumption); obtain ⟨ad126, e126, hx126_0⟩ := Kd.at_int (Kd.R_reads' HO_4.out).2.2 x15_3 p126 q126; obtain rfl : ad119 = ad126 := (by injection e126); replace p126 := eq_true p126; replace q126 := eq_true q126; have p127 : 0 ≤ (x15_3 : Int) := of_decide_eq_true (by first | (with_reducible assumption) | assumption); have q127 : x15_3 < (t102.length : Int) := of_decide_eq_true (by first | (with_reducible assumption) | assumption); obtain ⟨ad127, e127, hx127_0⟩ := Kd.at_int (Kd.R_reads' HO_4.out).2.2 x15_3 p127 q127; obtain rfl : ad119 = ad127 := (by injection e127); replace p127 := eq_true p127; replace q127 := eq_true q127)); try go_wp2_with (first | (go_at_call 37; (with_reducible refine (residue_Totient.calls k3 (rd t102 x15_3) t120 t121 _ A34.out).mono ?_); rintro e w47 ⟨rfl, hb⟩; have n0_ := Aside0.mk (Kd.R_below (by (with_reducible repeat (first | apply Kd.R_alloc | apply Kd.R_drewN | apply Kd.R_drew)); exact HO_4.out) hb); have n1_ := Aside0.mk (below_step (by repeat (first | (with_reducible first | exact HB.out | apply below_alloc | apply pw_below_drewN | apply below_drew1) | exact HB.out)) hb); clear HO_4; clear HB; have HO_4 := n0_; have HB := n1_; clear n0_ n1_; (try clear hb); (try clear hb2); (try clear hk); (try clear hi); have p122 : 0 ≤ (x15_3 : Int) := of_decide_eq_true (by first | (with_reducible assumption) | assumption); have q122 : x15_3 < (t102.length : Int) := of_decide_eq_true (by first | (with_reducible assumption) | assumption); obtain ⟨ad122, e122, hx122_0⟩ := Kd.at_int (Kd.R_reads' HO_4.out).2.2 x15_3 p122 q122; obtain rfl : ad119 = ad122 := (by injection e122); replace p122 := eq_true p122; replace q122 := eq_true q122) | (go_at_call 47; (with_reducible refine (residue_Moebius.calls k3 (rd t102 x15_3) t123 t124 _ A35.out).mono ?_); rintro e w48 ⟨rfl, hb⟩; have n0_ := Aside0.mk (Kd.R_below (by (with_reducible repeat (first | apply Kd.R_alloc | apply Kd.R_drewN | apply Kd.R_drew)); exact HO_4.out) hb); have n1_ := Aside0.mk (below_step (by repeat (first | (with_reducible first | exact HB.out | apply below_alloc | apply pw_below_drewN | apply below_drew1) | exact HB.out)) hb); clear HO_4; clear HB; have HO_4 := n0_; have HB := n1_; clear n0_ n1_; (try clear hb); (try clear hb2); (try clear hk); (try clear hi); have p125 : 0 ≤ ((ji39) : Int) := of_decide_eq_true (by first | (with_reducible assumption) | assumption); have q125 : (ji39) < (t102.length : Int) := of_decide_eq_true (by first | (with_reducible assumption) | assumption); obtain ⟨ad125, e125, hx125_0⟩ := Kd.at_int (Kd.R_reads' HO_4.out).2.2 (ji39) p125 q125; obtain rfl : ad119 = ad125 := (by injection e125); replace p125 := eq_true p125; replace q125 := eq_true q125; have p126 : 0 ≤ (x15_3 : Int) := of_decide_eq_true (by first | (with_reducible assumption) | assumption); have q126 : x15_3 < (t102.length : Int) := of_decide_eq_true (by first | (with_reducible assumption) | assumption); obtain ⟨ad126, e126, hx126_0⟩ := Kd.at_int (Kd.R_reads' HO_4.out).2.2 x15_3 p126 q126; obtain rfl : ad119 = ad126 := (by injection e126); replace p126 := eq_true p126; replace q126 := eq_true q126; have p127 : 0 ≤ (x15_3 : Int) := of_decide_eq_true (by first | (with_reducible assumption) | assumption); have q127 : x15_3 < (t102.length : Int) := of_decide_eq_true (by first | (with_reducible assumption) | assumption); obtain ⟨ad127, e127, hx127_0⟩ := Kd.at_int (Kd.R_reads' HO_4.out).2.2 x15_3 p127 q127; obtain rfl : ad119 = ad127 := (by injection e127); replace p127 := eq_true p127; replace q127 := eq_true q127)))
                                        go_roundg k3
                                        case measure => have := HJ5.out; have := HK2.out; have := HK3.out; omega
                                        case rel => exact ⟨(wrap64 (x13_3 + t120)), (wrap64 (x14_3 + t123)), (wrap64 (x15_3 + 1)), (by first | rfl | (simp; done) | (simp [*]; done)), (by first | rfl | (simp; done) | (simp [*]; done)), (by first | rfl | (simp; done) | (simp [*]; done)), H', ⟨by have := HJ5.out; have := HK2.out; have := HK3.out; omega⟩, ⟨by (with_reducible repeat (first | apply Kd.R_alloc | apply Kd.R_drewN | apply Kd.R_drew)); exact HO_4.out⟩, ⟨by repeat (first | (with_reducible first | exact HB.out | apply below_alloc | apply pw_below_drewN | apply below_drew1) | exact HB.out)⟩⟩
                                      · rw [if_neg c45] at H
                                        exact absurd H (by simp)
                                · rw [if_neg c41] at H
                                  exact absurd H (by simp)
                              · rw [if_neg c40] at H
                                exact absurd H (by simp)
                            · rw [if_neg c38] at H
                              have c38b0 : decide (0 < x15_3) = false := decide_eq_false c38
                              clear c38
                              obtain ⟨ji49, hji49⟩ : ∃ j_ : Int, (mx 1 (rd t102 x15_3)) = j_ := ⟨_, rfl⟩
                              replace H : (if (ji49) = 0 then (none) else (if (Int.tmod (wrap64 (1 + (Int.tmod (wrap64 (a0)) 100000))) (ji49)) = 0 then (galoislaw04_ResidueSums.l2 k3 (wrap64 (1 + (Int.tmod (wrap64 (a0)) 100000))) t102 x8_2 (wrap64 (x13_3 + t120)) (wrap64 (x14_3 + t123)) (wrap64 (x15_3 + 1))) else (none))) = some r := by first | (rw [hji49] at H; exact H) | (simp only [hji49] at H ⊢; exact H)
                              (try rw [hji49] at A34)
                              (try rw [hji49] at A35)
                              have hji49_ : (if 1 < (rd t102 x15_3) then (rd t102 x15_3) else 1) = ji49 := hji49
                              by_cases c50 : (ji49) = 0
                              · rw [if_pos c50] at H
                                exact absurd H (by simp)
                              · rw [if_neg c50] at H
                                have c50b0 : ((ji49) == 0) = false := beq_eq_false_iff_ne.mpr c50
                                have c50b1 : ((ji49) != 0) = true := bne_iff_ne.mpr c50
                                by_cases c51 : (Int.tmod (wrap64 (1 + (Int.tmod (wrap64 (a0)) 100000))) (ji49)) = 0
                                · rw [if_pos c51] at H
                                  have c51b0 : ((Int.tmod (wrap64 (1 + (Int.tmod (wrap64 (a0)) 100000))) (ji49)) == 0) = true := beq_iff_eq.mpr c51
                                  have c51b1 : ((Int.tmod (wrap64 (1 + (Int.tmod (wrap64 (a0)) 100000))) (ji49)) != 0) = false := bne_eq_false_iff_eq.mpr c51
                                  clear c51
                                  have H' := Aside0.mk H
                                  clear H
                                  obtain ⟨Ao52, co52, eo52⟩ := Kd.R_slice HO_4.out
                                  subst eo52
                                  have p119 : 0 ≤ (x15_3 : Int) := of_decide_eq_true (by first | (with_reducible assumption) | assumption)
                                  have q119 : x15_3 < (t102.length : Int) := of_decide_eq_true (by first | (with_reducible assumption) | assumption)
                                  obtain ⟨ad119, e119, hx119_0⟩ := Kd.at_int (Kd.R_reads' HO_4.out).2.2 x15_3 p119 q119
                                  cases e119
                                  replace p119 := eq_true p119
                                  replace q119 := eq_true q119
                                  go_wp2_with (first | (go_at_call 37; (with_reducible refine (residue_Totient.calls k3 (rd t102 x15_3) t120 t121 _ A34.out).mono ?_); rintro e w53 ⟨rfl, hb⟩; have n0_ := Aside0.mk (Kd.R_below (by (with_reducible repeat (first | apply Kd.R_alloc | apply Kd.R_drewN | apply Kd.R_drew)); exact HO_4.out) hb); have n1_ := Aside0.mk (below_step (by repeat (first | (with_reducible first | exact HB.out | apply below_alloc | apply pw_below_drewN | apply below_drew1) | exact HB.out)) hb); clear HO_4; clear HB; have HO_4 := n0_; have HB := n1_; clear n0_ n1_; (try clear hb); (try clear hb2); (try clear hk); (try clear hi); have p122 : 0 ≤ (x15_3 : Int) := of_decide_eq_true (by first | (with_reducible assumption) | assumption); have q122 : x15_3 < (t102.length : Int) := of_decide_eq_true (by first | (with_reducible assumption) | assumption); obtain ⟨ad122, e122, hx122_0⟩ := Kd.at_int (Kd.R_reads' HO_4.out).2.2 x15_3 p122 q122; obtain rfl : ad119 = ad122 := (by injection e122); replace p122 := eq_true p122; replace q122 := eq_true q122) | (go_at_call 47; (with_reducible refine (residue_Moebius.calls k3 (rd t102 x15_3) t123 t124 _ A35.out).mono ?_); rintro e w54 ⟨rfl, hb⟩; have n0_ := Aside0.mk (Kd.R_below (by (with_reducible repeat (first | apply Kd.R_alloc | apply Kd.R_drewN | apply Kd.R_drew)); exact HO_4.out) hb); have n1_ := Aside0.mk (below_step (by repeat (first | (with_reducible first | exact HB.out | apply below_alloc | apply pw_below_drewN | apply below_drew1) | exact HB.out)) hb); clear HO_4; clear HB; have HO_4 := n0_; have HB := n1_; clear n0_ n1_; (try clear hb); (try clear hb2); (try clear hk); (try clear hi); have p128 : 0 ≤ (x15_3 : Int) := of_decide_eq_true (by first | (with_reducible assumption) | assumption); have q128 : x15_3 < (t102.length : Int) := of_decide_eq_true (by first | (with_reducible assumption) | assumption); obtain ⟨ad128, e128, hx128_0⟩ := Kd.at_int (Kd.R_reads' HO_4.out).2.2 x15_3 p128 q128; obtain rfl : ad119 = ad128 := (by injection e128); replace p128 := eq_true p128; replace q128 := eq_true q128))
                                  repeat (go_quiet (first | (go_at_call 37; (with_reducible refine (residue_Totient.calls k3 (rd t102 x15_3) t120 t121 _ A34.out).mono ?_); rintro e w53 ⟨rfl, hb⟩; have n0_ := Aside0.mk (Kd.R_below (by (with_reducible repeat (first | apply Kd.R_alloc | apply Kd.R_drewN | apply Kd.R_drew)); exact HO_4.out) hb); have n1_ := Aside0.mk (below_step (by repeat (first | (with_reducible first | exact HB.out | apply below_alloc | apply pw_below_drewN | apply below_drew1) | exact HB.out)) hb); clear HO_4; clear HB; have HO_4 := n0_; have HB := n1_; clear n0_ n1_; (try clear hb); (try clear hb2); (try clear hk); (try clear hi); have p122 : 0 ≤ (x15_3 : Int) := of_decide_eq_true (by first | (with_reducible assumption) | assumption); have q122 : x15_3 < (t102.length : Int) := of_decide_eq_true (by first | (with_reducible assumption) | assumption); obtain ⟨ad122, e122, hx122_0⟩ := Kd.at_int (Kd.R_reads' HO_4.out).2.2 x15_3 p122 q122; obtain rfl : ad119 = ad122 := (by injection e122); replace p122 := eq_true p122; replace q122 := eq_true q122) | (go_at_call 47; (with_reducible refine (residue_Moebius.calls k3 (rd t102 x15_3) t123 t124 _ A35.out).mono ?_); rintro e w54 ⟨rfl, hb⟩; have n0_ := Aside0.mk (Kd.R_below (by (with_reducible repeat (first | apply Kd.R_alloc | apply Kd.R_drewN | apply Kd.R_drew)); exact HO_4.out) hb); have n1_ := Aside0.mk (below_step (by repeat (first | (with_reducible first | exact HB.out | apply below_alloc | apply pw_below_drewN | apply below_drew1) | exact HB.out)) hb); clear HO_4; clear HB; have HO_4 := n0_; have HB := n1_; clear n0_ n1_; (try clear hb); (try clear hb2); (try clear hk); (try clear hi); have p128 : 0 ≤ (x15_3 : Int) := of_decide_eq_true (by first | (with_reducible assumption) | assumption); have q128 : x15_3 < (t102.length : Int) := of_decide_eq_true (by first | (with_reducible assumption) | assumption); obtain ⟨ad128, e128, hx128_0⟩ := Kd.at_int (Kd.R_reads' HO_4.out).2.2 x15_3 p128 q128; obtain rfl : ad119 = ad128 := (by injection e128); replace p128 := eq_true p128; replace q128 := eq_true q128)); try go_wp2_with (first | (go_at_call 37; (with_reducible refine (residue_Totient.calls k3 (rd t102 x15_3) t120 t121 _ A34.out).mono ?_); rintro e w53 ⟨rfl, hb⟩; have n0_ := Aside0.mk (Kd.R_below (by (with_reducible repeat (first | apply Kd.R_alloc | apply Kd.R_drewN | apply Kd.R_drew)); exact HO_4.out) hb); have n1_ := Aside0.mk (below_step (by repeat (first | (with_reducible first | exact HB.out | apply below_alloc | apply pw_below_drewN | apply below_drew1) | exact HB.out)) hb); clear HO_4; clear HB; have HO_4 := n0_; have HB := n1_; clear n0_ n1_; (try clear hb); (try clear hb2); (try clear hk); (try clear hi); have p122 : 0 ≤ (x15_3 : Int) := of_decide_eq_true (by first | (with_reducible assumption) | assumption); have q122 : x15_3 < (t102.length : Int) := of_decide_eq_true (by first | (with_reducible assumption) | assumption); obtain ⟨ad122, e122, hx122_0⟩ := Kd.at_int (Kd.R_reads' HO_4.out).2.2 x15_3 p122 q122; obtain rfl : ad119 = ad122 := (by injection e122); replace p122 := eq_true p122; replace q122 := eq_true q122) | (go_at_call 47; (with_reducible refine (residue_Moebius.calls k3 (rd t102 x15_3) t123 t124 _ A35.out).mono ?_); rintro e w54 ⟨rfl, hb⟩; have n0_ := Aside0.mk (Kd.R_below (by (with_reducible repeat (first | apply Kd.R_alloc | apply Kd.R_drewN | apply Kd.R_drew)); exact HO_4.out) hb); have n1_ := Aside0.mk (below_step (by repeat (first | (with_reducible first | exact HB.out | apply below_alloc | apply pw_below_drewN | apply below_drew1) | exact HB.out)) hb); clear HO_4; clear HB; have HO_4 := n0_; have HB := n1_; clear n0_ n1_; (try clear hb); (try clear hb2); (try clear hk); (try clear hi); have p128 : 0 ≤ (x15_3 : Int) := of_decide_eq_true (by first | (with_reducible assumption) | assumption); have q128 : x15_3 < (t102.length : Int) := of_decide_eq_true (by first | (with_reducible assumption) | assumption); obtain ⟨ad128, e128, hx128_0⟩ := Kd.at_int (Kd.R_reads' HO_4.out).2.2 x15_3 p128 q128; obtain rfl : ad119 = ad128 := (by injection e128); replace p128 := eq_true p128; replace q128 := eq_true q128)))
                                  go_roundg k3
                                  case measure => have := HJ5.out; have := HK2.out; have := HK3.out; omega
                                  case rel => exact ⟨(wrap64 (x13_3 + t120)), (wrap64 (x14_3 + t123)), (wrap64 (x15_3 + 1)), (by first | rfl | (simp; done) | (simp [*]; done)), (by first | rfl | (simp; done) | (simp [*]; done)), (by first | rfl | (simp; done) | (simp [*]; done)), H', ⟨by have := HJ5.out; have := HK2.out; have := HK3.out; omega⟩, ⟨by (with_reducible repeat (first | apply Kd.R_alloc | apply Kd.R_drewN | apply Kd.R_drew)); exact HO_4.out⟩, ⟨by repeat (first | (with_reducible first | exact HB.out | apply below_alloc | apply pw_below_drewN | apply below_drew1) | exact HB.out)⟩⟩
                                · rw [if_neg c51] at H
                                  exact absurd H (by simp)
                          · rw [if_neg c37] at H
                            exact absurd H (by simp)
                        · rw [if_neg c36] at H
                          exact absurd H (by simp)
                      · rw [if_neg c33] at H
                        exact absurd H (by simp)
                    · rw [if_neg c32] at H
                      have c32b0 : decide (x15_3 < (t102.length : Int)) = false := decide_eq_false c32
                      clear c32
                      by_cases c55 : x8_2 = (wrap64 (1 + (Int.tmod (wrap64 (a0)) 100000)))
                      · rw [if_pos c55] at H
                        have c55b0 : (x8_2 == (wrap64 (1 + (Int.tmod (wrap64 (a0)) 100000)))) = true := beq_iff_eq.mpr c55
                        have c55b1 : (x8_2 != (wrap64 (1 + (Int.tmod (wrap64 (a0)) 100000)))) = false := bne_eq_false_iff_eq.mpr c55
                        clear c55
                        by_cases c56 : x13_3 = (wrap64 (1 + (Int.tmod (wrap64 (a0)) 100000)))
                        · rw [if_pos c56] at H
                          have c56b0 : (x13_3 == (wrap64 (1 + (Int.tmod (wrap64 (a0)) 100000)))) = true := beq_iff_eq.mpr c56
                          have c56b1 : (x13_3 != (wrap64 (1 + (Int.tmod (wrap64 (a0)) 100000)))) = false := bne_eq_false_iff_eq.mpr c56
                          clear c56
                          by_cases c57 : ((x14_3 == 1) == ((wrap64 (1 + (Int.tmod (wrap64 (a0)) 100000))) == 1)) = true
                          · rw [if_pos c57] at H
                            have c57b0 : ((x14_3 == 1) == ((wrap64 (1 + (Int.tmod (wrap64 (a0)) 100000))) == 1)) = true := c57
                            (try (have c57b1 : decide ((x14_3 == 1) = ((wrap64 (1 + (Int.tmod (wrap64 (a0)) 100000))) == 1)) = true := by simpa using c57))
                            (try (have c57b2 : ((x14_3 == 1) == ((wrap64 (1 + (Int.tmod (wrap64 (a0)) 100000))) == 1)) = true := by simpa using c57))
                            clear c57
                            obtain rfl := Option.some.inj H
                            obtain ⟨Ao58, co58, eo58⟩ := Kd.R_slice HO_4.out
                            subst eo58
                            go_wp2
                            repeat (go_quiet (fail); try go_wp2)
                            go_ret
                            exact ⟨by first | rfl | (simp [errW_none, errW_some] <;> rfl) | (simp [*, errW_none, errW_some] <;> rfl), by repeat (first | (with_reducible first | exact HB.out | apply below_alloc | apply pw_below_drewN | apply below_drew1) | exact HB.out)⟩
                          · rw [if_neg c57] at H
                            exact absurd H (by simp)
                        · rw [if_neg c56] at H
                          exact absurd H (by simp)
                      · rw [if_neg c55] at H
                        exact absurd H (by simp)
  · replace c3 := Bool.eq_false_iff.mpr c3
    subst c3
    have H1 : (none) = some r := by rw [if_neg (show ¬ (false = true) by decide)] at H; exact H
    clear H
    have H := H1
    clear H1
    exact absurd H (by simp)

/-- THE ONE PURE STATEMENT of galoislaw04_ResidueSums: yours. -/
def galoislaw04_ResidueSums.Pure : Prop := ∀ (a0 : Int), (Lit.int .u32 a0).wf = true → ∃ k, galoislaw04_ResidueSums.f k a0 = some true
theorem galoislaw04_ResidueSums.walk (P : galoislaw04_ResidueSums.Pure) (a0 : Int) (w : World) (w0 : (Lit.int .u32 a0).wf = true) :
    Calls Try.prog 13 #[.int .u32 a0] w fun e w' => e = .returned (.bool true) ∧ Below w.heap.size w w' := by
  obtain ⟨k, h⟩ := P a0 w0
  refine (galoislaw04_ResidueSums.calls k a0 true w h).mono ?_
  rintro e w' ⟨rfl, hd⟩
  exact ⟨rfl, hd⟩

end Go.Proofs.Ytmedflaejnbkoaa.Q

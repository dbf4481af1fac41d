/- Machine side: a program of the session wrote this text (the kit's print.py and the session's own contracts). Conditions: none of its own. -/
import Derived.Test.YtmedflaejnbkoaaQ0
import Derived.Test.YtmedflaejnbkoaaQG0
import Derived.Test.YtmedflaejnbkoaaQG1
namespace Go.Proofs.Ytmedflaejnbkoaa.Q
open Go.RowKit Go.Proofs.YtmedflaejnbkoaaW.PrintWords Go.Proofs.YtmedflaejnbkoaaW.PrintLast Go.Proofs.YtmedflaejnbkoaaW.PrintMore
attribute [local go_sem] max2_int min2_int max_two min_two max_three min_three max_four min_four   -- for this text's walks alone
set_option linter.unusedVariables false
set_option linter.unusedSimpArgs false

/-! ### residue_SquareRoot: function 28 -/
mutual
def residue_SquareRoot.j0 : Nat → Int → Int → Bool → Option (Int × Int)
  | 0, _, _, _ => none
  | k + 1, x0, x1, x29 => if x29 = true then (some (x0, 0)) else ((residue_symbol.f k x0 x1).bind fun t107 => (if t107 = 1 then (residue_SquareRoot.l0 k x0 x1 (wrap64 (x1 - 1)) 0 2) else (some (0, 26))))
def residue_SquareRoot.l0 : Nat → Int → Int → Int → Int → Int → Option (Int × Int)
  | 0, _, _, _, _, _ => none
  | k + 1, x0, x1, x6, x7, x8 => if (Int.tmod x6 2) = 0 then (residue_SquareRoot.l0 k x0 x1 (wrap64 (Int.tdiv x6 2)) (wrap64 (x7 + 1)) x8) else (residue_SquareRoot.l1 k x0 x1 x6 x7 x8)
def residue_SquareRoot.l1 : Nat → Int → Int → Int → Int → Int → Option (Int × Int)
  | 0, _, _, _, _, _ => none
  | k + 1, x0, x1, x6, x7, x8 => (residue_symbol.f k x8 x1).bind fun t108 => (if t108 = (-1) then ((residue_power.f k x0 (wrap64 (Int.tdiv (wrap64 (x6 + 1)) 2)) x1).bind fun t109 => ((residue_power.f k x0 x6 x1).bind fun t110 => ((residue_power.f k x8 x6 x1).bind fun t111 => (residue_SquareRoot.l2 k x1 x7 t109 t110 t111)))) else (residue_SquareRoot.l1 k x0 x1 x6 x7 (wrap64 (x8 + 1))))
def residue_SquareRoot.l2 : Nat → Int → Int → Int → Int → Int → Option (Int × Int)
  | 0, _, _, _, _, _ => none
  | k + 1, x1, x7, x9, x10, x11 => if x10 = 1 then (some (mn x9 (wrap64 (x1 - x9)), 0)) else (residue_SquareRoot.l3 k x1 x7 x9 x10 x11 0 x10)
def residue_SquareRoot.l3 : Nat → Int → Int → Int → Int → Int → Int → Int → Option (Int × Int)
  | 0, _, _, _, _, _, _, _ => none
  | k + 1, x1, x7, x9, x10, x11, x12, x13 => if x13 = 1 then (if 0 ≤ (wrap64 ((wrap64 (x7 - x12)) - 1)) then ((residue_power.f k x11 (shl .i64 1 (wrap64 ((wrap64 (x7 - x12)) - 1))) x1).bind fun t112 => (if x1 = 0 then (none) else (residue_SquareRoot.l2 k x1 x12 (Int.tmod (wrap64 (x9 * t112)) x1) (Int.tmod (wrap64 (x10 * (Int.tmod (wrap64 (t112 * t112)) x1))) x1) (Int.tmod (wrap64 (t112 * t112)) x1)))) else (none)) else (if x1 = 0 then (none) else (residue_SquareRoot.l3 k x1 x7 x9 x10 x11 (wrap64 (x12 + 1)) (Int.tmod (wrap64 (x13 * x13)) x1)))
end
def residue_SquareRoot.f (k : Nat) (a0 : Int) (a1 : Int) : Option (Int × Int) := (residue_bad.f (([a1] : List Int))).bind fun t104 => (if t104 = true then (some (0, 3)) else ((residue_prime.f k a1).bind fun t105 => (if t105 = true then ((residue_mod.f a0 a1).bind fun t106 => (if a1 = 2 then (residue_SquareRoot.j0 k t106 a1 true) else (residue_SquareRoot.j0 k t106 a1 (t106 == 0)))) else (some (0, 7)))))
theorem residue_SquareRoot.mono_l : ∀ k, (∀ y0 y1 y2, LeO (residue_SquareRoot.j0 k y0 y1 y2) (residue_SquareRoot.j0 (k + 1) y0 y1 y2)) ∧ (∀ y0 y1 y2 y3 y4, LeO (residue_SquareRoot.l0 k y0 y1 y2 y3 y4) (residue_SquareRoot.l0 (k + 1) y0 y1 y2 y3 y4)) ∧ (∀ y0 y1 y2 y3 y4, LeO (residue_SquareRoot.l1 k y0 y1 y2 y3 y4) (residue_SquareRoot.l1 (k + 1) y0 y1 y2 y3 y4)) ∧ (∀ y0 y1 y2 y3 y4, LeO (residue_SquareRoot.l2 k y0 y1 y2 y3 y4) (residue_SquareRoot.l2 (k + 1) y0 y1 y2 y3 y4)) ∧ (∀ y0 y1 y2 y3 y4 y5 y6, LeO (residue_SquareRoot.l3 k y0 y1 y2 y3 y4 y5 y6) (residue_SquareRoot.l3 (k + 1) y0 y1 y2 y3 y4 y5 y6))
  | 0 => ⟨fun _ _ _ r h => by simp [residue_SquareRoot.j0] at h, fun _ _ _ _ _ r h => by simp [residue_SquareRoot.l0] at h, fun _ _ _ _ _ r h => by simp [residue_SquareRoot.l1] at h, fun _ _ _ _ _ r h => by simp [residue_SquareRoot.l2] at h, fun _ _ _ _ _ _ _ r h => by simp [residue_SquareRoot.l3] at h⟩
  | k + 1 => by
    obtain ⟨ih0, ih1, ih2, ih3, ih4⟩ := residue_SquareRoot.mono_l k
    refine ⟨?_, ?_, ?_, ?_, ?_⟩
    · intro y0 y1 y2
      unfold residue_SquareRoot.j0
      repeat' first
      | (with_reducible exact ih0 _ _ _)
      | (with_reducible exact ih1 _ _ _ _ _)
      | (with_reducible exact ih2 _ _ _ _ _)
      | (with_reducible exact ih3 _ _ _ _ _)
      | (with_reducible exact ih4 _ _ _ _ _ _ _)
      | (with_reducible exact residue_power.mono _ _ _ _)
      | (with_reducible exact residue_prime.mono _ _)
      | (with_reducible exact residue_symbol.mono _ _ _)
      | (with_reducible exact LeO.refl _)
      | (with_reducible exact LeO.none _)
      | (with_reducible refine LeO.ite ?_ ?_)
      | (with_reducible refine LeO.bind ?_ (fun _ => ?_))
      | exact ih0 _ _ _
      | exact ih1 _ _ _ _ _
      | exact ih2 _ _ _ _ _
      | exact ih3 _ _ _ _ _
      | exact ih4 _ _ _ _ _ _ _
      | exact residue_power.mono _ _ _ _
      | exact residue_prime.mono _ _
      | exact residue_symbol.mono _ _ _
      | exact LeO.none _
      | refine LeO.ite ?_ ?_
      | refine LeO.bind ?_ (fun _ => ?_)
    · intro y0 y1 y2 y3 y4
      unfold residue_SquareRoot.l0
      repeat' first
      | (with_reducible exact ih0 _ _ _)
      | (with_reducible exact ih1 _ _ _ _ _)
      | (with_reducible exact ih2 _ _ _ _ _)
      | (with_reducible exact ih3 _ _ _ _ _)
      | (with_reducible exact ih4 _ _ _ _ _ _ _)
      | (with_reducible exact residue_power.mono _ _ _ _)
      | (with_reducible exact residue_prime.mono _ _)
      | (with_reducible exact residue_symbol.mono _ _ _)
      | (with_reducible exact LeO.refl _)
      | (with_reducible exact LeO.none _)
      | (with_reducible refine LeO.ite ?_ ?_)
      | (with_reducible refine LeO.bind ?_ (fun _ => ?_))
      | exact ih0 _ _ _
      | exact ih1 _ _ _ _ _
      | exact ih2 _ _ _ _ _
      | exact ih3 _ _ _ _ _
      | exact ih4 _ _ _ _ _ _ _
      | exact residue_power.mono _ _ _ _
      | exact residue_prime.mono _ _
      | exact residue_symbol.mono _ _ _
      | exact LeO.none _
      | refine LeO.ite ?_ ?_
      | refine LeO.bind ?_ (fun _ => ?_)
    · intro y0 y1 y2 y3 y4
      unfold residue_SquareRoot.l1
      repeat' first
      | (with_reducible exact ih0 _ _ _)
      | (with_reducible exact ih1 _ _ _ _ _)
      | (with_reducible exact ih2 _ _ _ _ _)
      | (with_reducible exact ih3 _ _ _ _ _)
      | (with_reducible exact ih4 _ _ _ _ _ _ _)
      | (with_reducible exact residue_power.mono _ _ _ _)
      | (with_reducible exact residue_prime.mono _ _)
      | (with_reducible exact residue_symbol.mono _ _ _)
      | (with_reducible exact LeO.refl _)
      | (with_reducible exact LeO.none _)
      | (with_reducible refine LeO.ite ?_ ?_)
      | (with_reducible refine LeO.bind ?_ (fun _ => ?_))
      | exact ih0 _ _ _
      | exact ih1 _ _ _ _ _
      | exact ih2 _ _ _ _ _
      | exact ih3 _ _ _ _ _
      | exact ih4 _ _ _ _ _ _ _
      | exact residue_power.mono _ _ _ _
      | exact residue_prime.mono _ _
      | exact residue_symbol.mono _ _ _
      | exact LeO.none _
      | refine LeO.ite ?_ ?_
      | refine LeO.bind ?_ (fun _ => ?_)
    · intro y0 y1 y2 y3 y4
      unfold residue_SquareRoot.l2
      repeat' first
      | (with_reducible exact ih0 _ _ _)
      | (with_reducible exact ih1 _ _ _ _ _)
      | (with_reducible exact ih2 _ _ _ _ _)
      | (with_reducible exact ih3 _ _ _ _ _)
      | (with_reducible exact ih4 _ _ _ _ _ _ _)
      | (with_reducible exact residue_power.mono _ _ _ _)
      | (with_reducible exact residue_prime.mono _ _)
      | (with_reducible exact residue_symbol.mono _ _ _)
      | (with_reducible exact LeO.refl _)
      | (with_reducible exact LeO.none _)
      | (with_reducible refine LeO.ite ?_ ?_)
      | (with_reducible refine LeO.bind ?_ (fun _ => ?_))
      | exact ih0 _ _ _
      | exact ih1 _ _ _ _ _
      | exact ih2 _ _ _ _ _
      | exact ih3 _ _ _ _ _
      | exact ih4 _ _ _ _ _ _ _
      | exact residue_power.mono _ _ _ _
      | exact residue_prime.mono _ _
      | exact residue_symbol.mono _ _ _
      | exact LeO.none _
      | refine LeO.ite ?_ ?_
      | refine LeO.bind ?_ (fun _ => ?_)
    · intro y0 y1 y2 y3 y4 y5 y6
      unfold residue_SquareRoot.l3
      repeat' first
      | (with_reducible exact ih0 _ _ _)
      | (with_reducible exact ih1 _ _ _ _ _)
      | (with_reducible exact ih2 _ _ _ _ _)
      | (with_reducible exact ih3 _ _ _ _ _)
      | (with_reducible exact ih4 _ _ _ _ _ _ _)
      | (with_reducible exact residue_power.mono _ _ _ _)
      | (with_reducible exact residue_prime.mono _ _)
      | (with_reducible exact residue_symbol.mono _ _ _)
      | (with_reducible exact LeO.refl _)
      | (with_reducible exact LeO.none _)
      | (with_reducible refine LeO.ite ?_ ?_)
      | (with_reducible refine LeO.bind ?_ (fun _ => ?_))
      | exact ih0 _ _ _
      | exact ih1 _ _ _ _ _
      | exact ih2 _ _ _ _ _
      | exact ih3 _ _ _ _ _
      | exact ih4 _ _ _ _ _ _ _
      | exact residue_power.mono _ _ _ _
      | exact residue_prime.mono _ _
      | exact residue_symbol.mono _ _ _
      | exact LeO.none _
      | refine LeO.ite ?_ ?_
      | refine LeO.bind ?_ (fun _ => ?_)
theorem residue_SquareRoot.mono : ∀ a0 a1 k, LeO (residue_SquareRoot.f k a0 a1) (residue_SquareRoot.f (k + 1) a0 a1) := by
  intro a0 a1 k
  obtain ⟨ih0, ih1, ih2, ih3, ih4⟩ := residue_SquareRoot.mono_l k
  unfold residue_SquareRoot.f
  repeat' first
      | (with_reducible exact ih0 _ _ _)
      | (with_reducible exact ih1 _ _ _ _ _)
      | (with_reducible exact ih2 _ _ _ _ _)
      | (with_reducible exact ih3 _ _ _ _ _)
      | (with_reducible exact ih4 _ _ _ _ _ _ _)
      | (with_reducible exact residue_power.mono _ _ _ _)
      | (with_reducible exact residue_prime.mono _ _)
      | (with_reducible exact residue_symbol.mono _ _ _)
      | (with_reducible exact LeO.refl _)
      | (with_reducible exact LeO.none _)
      | (with_reducible refine LeO.ite ?_ ?_)
      | (with_reducible refine LeO.bind ?_ (fun _ => ?_))
      | exact ih0 _ _ _
      | exact ih1 _ _ _ _ _
      | exact ih2 _ _ _ _ _
      | exact ih3 _ _ _ _ _
      | exact ih4 _ _ _ _ _ _ _
      | exact residue_power.mono _ _ _ _
      | exact residue_prime.mono _ _
      | exact residue_symbol.mono _ _ _
      | exact LeO.none _
      | refine LeO.ite ?_ ?_
      | refine LeO.bind ?_ (fun _ => ?_)
set_option maxHeartbeats 8000000 in
set_option maxRecDepth 100000 in
theorem residue_SquareRoot.calls (k : Nat) (a0 : Int) (a1 : Int) (r1 : Int) (r2 : Int) (w : World) (h : residue_SquareRoot.f k a0 a1 = some (r1, r2)) :
    Calls Try.prog 28 #[.int .i64 a0, .int .i64 a1] w fun e w' => e = .returned (.tuple #[.int .i64 r1, .int .i64 r2]) ∧ Below w.heap.size w w' := by
  have HB := Aside0.mk (Below.refl w.heap.size w)
  have H : ((residue_bad.f (([a1] : List Int))).bind fun t104 => (if t104 = true then (some (0, 3)) else ((residue_prime.f k a1).bind fun t105 => (if t105 = true then ((residue_mod.f a0 a1).bind fun t106 => (if a1 = 2 then (residue_SquareRoot.j0 k t106 a1 true) else (residue_SquareRoot.j0 k t106 a1 (t106 == 0)))) else (some (0, 7)))))) = some (r1, r2) := h
  clear h
  obtain ⟨y101, hy101⟩ : ∃ y_ : List Int, y_ = (([a1] : List Int)) := ⟨_, rfl⟩
  replace H : ((residue_bad.f y101).bind fun t104 => (if t104 = true then (some (0, 3)) else ((residue_prime.f k a1).bind fun t105 => (if t105 = true then ((residue_mod.f a0 a1).bind fun t106 => (if a1 = 2 then (residue_SquareRoot.j0 k t106 a1 true) else (residue_SquareRoot.j0 k t106 a1 (t106 == 0)))) else (some (0, 7)))))) = some (r1, r2) := by first | (rw [hy101]; with_reducible exact H) | (have H2_ := (Option.bind_some _ _).symm.trans H; rw [hy101]; with_reducible exact H2_) | (have H2_ := (Option.bind_some _ _).symm.trans H; with_reducible exact H2_) | with_reducible exact H | (rw [hy101]; exact H) | exact H
  have Ny101 := Aside0.mk hy101
  clear hy101
  replace H := Option.bind_eq_some_iff.mp H
  obtain ⟨t104, A30, H⟩ := H
  replace H : (if t104 = true then (some (0, 3)) else ((residue_prime.f k a1).bind fun t105 => (if t105 = true then ((residue_mod.f a0 a1).bind fun t106 => (if a1 = 2 then (residue_SquareRoot.j0 k t106 a1 true) else (residue_SquareRoot.j0 k t106 a1 (t106 == 0)))) else (some (0, 7))))) = some (r1, r2) := H
  have A3 := Aside0.mk A30
  clear A30
  by_cases c4 : t104 = true
  · subst c4
    have H1 : (some (0, 3)) = some (r1, r2) := by rw [if_pos rfl] at H; exact H
    clear H
    have H := H1
    clear H1
    simp only [Option.some.injEq, Prod.mk.injEq] at H
    obtain ⟨rfl, rfl⟩ := H
    go_enter Try.func28, Try.ntmps28
    go_wp2_with (first | ((with_reducible refine gate_dst (N := 16) rfl ?_); refine Kd.R_lit (Kd.int .i64) _ 3 ?hg (N := 16) ?hd (xs := ([a1] : List Int)) (inner := [.int .i64 a1]) (ok := fun _ => True) (okp := fun _ => True) ?hr ?hp (fun _ hk => hk) trivial (Below.refl _ _) (Nat.le_refl _) (by simp) ?_; (case hd => rfl); (case hg => rfl); (case hr => first | (go_simp; done) | (go_simp; rfl)); (case hp => exact (Reps.one (show Kd.M (Kd.int .i64) _ _ _ a1 [.int .i64 a1] from rfl) (Reps.none _ _))); intro v102 w5 ho6 hb hg_ hnew_; clear hg_ hnew_; (first | rw [← Ny101.out] at ho6 | (simp only [Int.reduceToNat] at ho6; rw [← Ny101.out] at ho6)); have n0_ := Aside0.mk (Kd.R_lower ho6 (below_size (by repeat (first | (with_reducible first | exact HB.out | apply below_alloc | apply pw_below_drewN | apply below_drew1) | exact HB.out)))); have n1_ := Aside0.mk (below_step (by repeat (first | (with_reducible first | exact HB.out | apply below_alloc | apply pw_below_drewN | apply below_drew1) | exact HB.out)) hb); clear HB; have HO103 := n0_; have HB := n1_; clear n0_ n1_; clear hb ho6; obtain ⟨Ao7, co7, eo7⟩ := Kd.R_slice HO103.out; subst eo7) | (go_at_call 54; (with_reducible refine (residue_bad.calls _ _ y101 true _ ?side1 ?side2 A3.out).mono ?_); (case side1 => repeat (first | exact (Kd.R_reads' HO103.out).2.2 | (with_reducible refine Kd.C_alloc ?_ _) | (with_reducible refine Kd.C_drewN ?_ _) | (with_reducible refine Kd.C_drew ?_))); (case side2 => exact (Kd.R_reads' HO103.out).2.1); rintro e w' ⟨rfl, ⟨nd, rfl⟩⟩; (try first | exact ⟨rfl, _, World.drewN_drewN _ _ _⟩ | exact ⟨rfl, _, Eq.trans (World.drewN_drewN _ _ _) (congrArg (World.drewN _) (Nat.add_assoc _ _ _))⟩)))
    repeat (go_quiet (first | ((with_reducible refine gate_dst (N := 16) rfl ?_); refine Kd.R_lit (Kd.int .i64) _ 3 ?hg (N := 16) ?hd (xs := ([a1] : List Int)) (inner := [.int .i64 a1]) (ok := fun _ => True) (okp := fun _ => True) ?hr ?hp (fun _ hk => hk) trivial (Below.refl _ _) (Nat.le_refl _) (by simp) ?_; (case hd => rfl); (case hg => rfl); (case hr => first | (go_simp; done) | (go_simp; rfl)); (case hp => exact (Reps.one (show Kd.M (Kd.int .i64) _ _ _ a1 [.int .i64 a1] from rfl) (Reps.none _ _))); intro v102 w5 ho6 hb hg_ hnew_; clear hg_ hnew_; (first | rw [← Ny101.out] at ho6 | (simp only [Int.reduceToNat] at ho6; rw [← Ny101.out] at ho6)); have n0_ := Aside0.mk (Kd.R_lower ho6 (below_size (by repeat (first | (with_reducible first | exact HB.out | apply below_alloc | apply pw_below_drewN | apply below_drew1) | exact HB.out)))); have n1_ := Aside0.mk (below_step (by repeat (first | (with_reducible first | exact HB.out | apply below_alloc | apply pw_below_drewN | apply below_drew1) | exact HB.out)) hb); clear HB; have HO103 := n0_; have HB := n1_; clear n0_ n1_; clear hb ho6; obtain ⟨Ao7, co7, eo7⟩ := Kd.R_slice HO103.out; subst eo7) | (go_at_call 54; (with_reducible refine (residue_bad.calls _ _ y101 true _ ?side1 ?side2 A3.out).mono ?_); (case side1 => repeat (first | exact (Kd.R_reads' HO103.out).2.2 | (with_reducible refine Kd.C_alloc ?_ _) | (with_reducible refine Kd.C_drewN ?_ _) | (with_reducible refine Kd.C_drew ?_))); (case side2 => exact (Kd.R_reads' HO103.out).2.1); rintro e w' ⟨rfl, ⟨nd, rfl⟩⟩; (try first | exact ⟨rfl, _, World.drewN_drewN _ _ _⟩ | exact ⟨rfl, _, Eq.trans (World.drewN_drewN _ _ _) (congrArg (World.drewN _) (Nat.add_assoc _ _ _))⟩))); try go_wp2_with (first | ((with_reducible refine gate_dst (N := 16) rfl ?_); refine Kd.R_lit (Kd.int .i64) _ 3 ?hg (N := 16) ?hd (xs := ([a1] : List Int)) (inner := [.int .i64 a1]) (ok := fun _ => True) (okp := fun _ => True) ?hr ?hp (fun _ hk => hk) trivial (Below.refl _ _) (Nat.le_refl _) (by simp) ?_; (case hd => rfl); (case hg => rfl); (case hr => first | (go_simp; done) | (go_simp; rfl)); (case hp => exact (Reps.one (show Kd.M (Kd.int .i64) _ _ _ a1 [.int .i64 a1] from rfl) (Reps.none _ _))); intro v102 w5 ho6 hb hg_ hnew_; clear hg_ hnew_; (first | rw [← Ny101.out] at ho6 | (simp only [Int.reduceToNat] at ho6; rw [← Ny101.out] at ho6)); have n0_ := Aside0.mk (Kd.R_lower ho6 (below_size (by repeat (first | (with_reducible first | exact HB.out | apply below_alloc | apply pw_below_drewN | apply below_drew1) | exact HB.out)))); have n1_ := Aside0.mk (below_step (by repeat (first | (with_reducible first | exact HB.out | apply below_alloc | apply pw_below_drewN | apply below_drew1) | exact HB.out)) hb); clear HB; have HO103 := n0_; have HB := n1_; clear n0_ n1_; clear hb ho6; obtain ⟨Ao7, co7, eo7⟩ := Kd.R_slice HO103.out; subst eo7) | (go_at_call 54; (with_reducible refine (residue_bad.calls _ _ y101 true _ ?side1 ?side2 A3.out).mono ?_); (case side1 => repeat (first | exact (Kd.R_reads' HO103.out).2.2 | (with_reducible refine Kd.C_alloc ?_ _) | (with_reducible refine Kd.C_drewN ?_ _) | (with_reducible refine Kd.C_drew ?_))); (case side2 => exact (Kd.R_reads' HO103.out).2.1); rintro e w' ⟨rfl, ⟨nd, rfl⟩⟩; (try first | exact ⟨rfl, _, World.drewN_drewN _ _ _⟩ | exact ⟨rfl, _, Eq.trans (World.drewN_drewN _ _ _) (congrArg (World.drewN _) (Nat.add_assoc _ _ _))⟩))))
    go_ret2
    exact ⟨by first | rfl | (simp [errW_none, errW_some] <;> rfl) | (simp [*, errW_none, errW_some] <;> rfl), by repeat (first | (with_reducible first | exact HB.out | apply below_alloc | apply pw_below_drewN | apply below_drew1) | exact HB.out)⟩
  · replace c4 := Bool.eq_false_iff.mpr c4
    subst c4
    have H1 : ((residue_prime.f k a1).bind fun t105 => (if t105 = true then ((residue_mod.f a0 a1).bind fun t106 => (if a1 = 2 then (residue_SquareRoot.j0 k t106 a1 true) else (residue_SquareRoot.j0 k t106 a1 (t106 == 0)))) else (some (0, 7)))) = some (r1, r2) := by rw [if_neg (show ¬ (false = true) by decide)] at H; exact H
    clear H
    have H := H1
    clear H1
    replace H := Option.bind_eq_some_iff.mp H
    obtain ⟨t105, A80, H⟩ := H
    replace H : (if t105 = true then ((residue_mod.f a0 a1).bind fun t106 => (if a1 = 2 then (residue_SquareRoot.j0 k t106 a1 true) else (residue_SquareRoot.j0 k t106 a1 (t106 == 0)))) else (some (0, 7))) = some (r1, r2) := H
    have A8 := Aside0.mk A80
    clear A80
    by_cases c9 : t105 = true
    · subst c9
      have H1 : ((residue_mod.f a0 a1).bind fun t106 => (if a1 = 2 then (residue_SquareRoot.j0 k t106 a1 true) else (residue_SquareRoot.j0 k t106 a1 (t106 == 0)))) = some (r1, r2) := by rw [if_pos rfl] at H; exact H
      clear H
      have H := H1
      clear H1
      replace H := Option.bind_eq_some_iff.mp H
      obtain ⟨t106, A100, H⟩ := H
      replace H : (if a1 = 2 then (residue_SquareRoot.j0 k t106 a1 true) else (residue_SquareRoot.j0 k t106 a1 (t106 == 0))) = some (r1, r2) := H
      have A10 := Aside0.mk A100
      clear A100
      have HC11 := Aside0.mk H
      clear H
      go_enter Try.func28, Try.ntmps28
      go_upto_region 6 with (first | ((with_reducible refine gate_dst (N := 16) rfl ?_); refine Kd.R_lit (Kd.int .i64) _ 3 ?hg (N := 16) ?hd (xs := ([a1] : List Int)) (inner := [.int .i64 a1]) (ok := fun _ => True) (okp := fun _ => True) ?hr ?hp (fun _ hk => hk) trivial (Below.refl _ _) (Nat.le_refl _) (by simp) ?_; (case hd => rfl); (case hg => rfl); (case hr => first | (go_simp; done) | (go_simp; rfl)); (case hp => exact (Reps.one (show Kd.M (Kd.int .i64) _ _ _ a1 [.int .i64 a1] from rfl) (Reps.none _ _))); intro v102 w12 ho13 hb hg_ hnew_; clear hg_ hnew_; (first | rw [← Ny101.out] at ho13 | (simp only [Int.reduceToNat] at ho13; rw [← Ny101.out] at ho13)); have n0_ := Aside0.mk (Kd.R_lower ho13 (below_size (by repeat (first | (with_reducible first | exact HB.out | apply below_alloc | apply pw_below_drewN | apply below_drew1) | exact HB.out)))); have n1_ := Aside0.mk (below_step (by repeat (first | (with_reducible first | exact HB.out | apply below_alloc | apply pw_below_drewN | apply below_drew1) | exact HB.out)) hb); clear HB; have HO103 := n0_; have HB := n1_; clear n0_ n1_; clear hb ho13; obtain ⟨Ao14, co14, eo14⟩ := Kd.R_slice HO103.out; subst eo14) | (go_at_call 54; (with_reducible refine (residue_bad.calls _ _ y101 false _ ?side1 ?side2 A3.out).mono ?_); (case side1 => repeat (first | exact (Kd.R_reads' HO103.out).2.2 | (with_reducible refine Kd.C_alloc ?_ _) | (with_reducible refine Kd.C_drewN ?_ _) | (with_reducible refine Kd.C_drew ?_))); (case side2 => exact (Kd.R_reads' HO103.out).2.1); rintro e w' ⟨rfl, ⟨nd, rfl⟩⟩; (try first | exact ⟨rfl, _, World.drewN_drewN _ _ _⟩ | exact ⟨rfl, _, Eq.trans (World.drewN_drewN _ _ _) (congrArg (World.drewN _) (Nat.add_assoc _ _ _))⟩)) | (go_at_call 62; (with_reducible refine (residue_prime.calls k a1 true _ A8.out).mono ?_); rintro e w15 ⟨rfl, hb⟩; have n0_ := Aside0.mk (Kd.R_below (by (with_reducible repeat (first | apply Kd.R_alloc | apply Kd.R_drewN | apply Kd.R_drew)); exact HO103.out) hb); have n1_ := Aside0.mk (below_step (by repeat (first | (with_reducible first | exact HB.out | apply below_alloc | apply pw_below_drewN | apply below_drew1) | exact HB.out)) hb); clear HO103; clear HB; have HO103 := n0_; have HB := n1_; clear n0_ n1_; (try clear hb); (try clear hb2); (try clear hk); (try clear hi)) | (go_at_call 56; (with_reducible refine (residue_mod.calls a0 a1 t106 _ A10.out).mono ?_); rintro e w' ⟨rfl, ⟨nd, rfl⟩⟩; (try first | exact ⟨rfl, _, World.drewN_drewN _ _ _⟩ | exact ⟨rfl, _, Eq.trans (World.drewN_drewN _ _ _) (congrArg (World.drewN _) (Nat.add_assoc _ _ _))⟩)))
      repeat (go_quiet (first | ((with_reducible refine gate_dst (N := 16) rfl ?_); refine Kd.R_lit (Kd.int .i64) _ 3 ?hg (N := 16) ?hd (xs := ([a1] : List Int)) (inner := [.int .i64 a1]) (ok := fun _ => True) (okp := fun _ => True) ?hr ?hp (fun _ hk => hk) trivial (Below.refl _ _) (Nat.le_refl _) (by simp) ?_; (case hd => rfl); (case hg => rfl); (case hr => first | (go_simp; done) | (go_simp; rfl)); (case hp => exact (Reps.one (show Kd.M (Kd.int .i64) _ _ _ a1 [.int .i64 a1] from rfl) (Reps.none _ _))); intro v102 w12 ho13 hb hg_ hnew_; clear hg_ hnew_; (first | rw [← Ny101.out] at ho13 | (simp only [Int.reduceToNat] at ho13; rw [← Ny101.out] at ho13)); have n0_ := Aside0.mk (Kd.R_lower ho13 (below_size (by repeat (first | (with_reducible first | exact HB.out | apply below_alloc | apply pw_below_drewN | apply below_drew1) | exact HB.out)))); have n1_ := Aside0.mk (below_step (by repeat (first | (with_reducible first | exact HB.out | apply below_alloc | apply pw_below_drewN | apply below_drew1) | exact HB.out)) hb); clear HB; have HO103 := n0_; have HB := n1_; clear n0_ n1_; clear hb ho13; obtain ⟨Ao14, co14, eo14⟩ := Kd.R_slice HO103.out; subst eo14) | (go_at_call 54; (with_reducible refine (residue_bad.calls _ _ y101 false _ ?side1 ?side2 A3.out).mono ?_); (case side1 => repeat (first | exact (Kd.R_reads' HO103.out).2.2 | (with_reducible refine Kd.C_alloc ?_ _) | (with_reducible refine Kd.C_drewN ?_ _) | (with_reducible refine Kd.C_drew ?_))); (case side2 => exact (Kd.R_reads' HO103.out).2.1); rintro e w' ⟨rfl, ⟨nd, rfl⟩⟩; (try first | exact ⟨rfl, _, World.drewN_drewN _ _ _⟩ | exact ⟨rfl, _, Eq.trans (World.drewN_drewN _ _ _) (congrArg (World.drewN _) (Nat.add_assoc _ _ _))⟩)) | (go_at_call 62; (with_reducible refine (residue_prime.calls k a1 true _ A8.out).mono ?_); rintro e w15 ⟨rfl, hb⟩; have n0_ := Aside0.mk (Kd.R_below (by (with_reducible repeat (first | apply Kd.R_alloc | apply Kd.R_drewN | apply Kd.R_drew)); exact HO103.out) hb); have n1_ := Aside0.mk (below_step (by repeat (first | (with_reducible first | exact HB.out | apply below_alloc | apply pw_below_drewN | apply below_drew1) | exact HB.out)) hb); clear HO103; clear HB; have HO103 := n0_; have HB := n1_; clear n0_ n1_; (try clear hb); (try clear hb2); (try clear hk); (try clear hi)) | (go_at_call 56; (with_reducible refine (residue_mod.calls a0 a1 t106 _ A10.out).mono ?_); rintro e w' ⟨rfl, ⟨nd, rfl⟩⟩; (try first | exact ⟨rfl, _, World.drewN_drewN _ _ _⟩ | exact ⟨rfl, _, Eq.trans (World.drewN_drewN _ _ _) (congrArg (World.drewN _) (Nat.add_assoc _ _ _))⟩))); go_upto_region 6 with (first | ((with_reducible refine gate_dst (N := 16) rfl ?_); refine Kd.R_lit (Kd.int .i64) _ 3 ?hg (N := 16) ?hd (xs := ([a1] : List Int)) (inner := [.int .i64 a1]) (ok := fun _ => True) (okp := fun _ => True) ?hr ?hp (fun _ hk => hk) trivial (Below.refl _ _) (Nat.le_refl _) (by simp) ?_; (case hd => rfl); (case hg => rfl); (case hr => first | (go_simp; done) | (go_simp; rfl)); (case hp => exact (Reps.one (show Kd.M (Kd.int .i64) _ _ _ a1 [.int .i64 a1] from rfl) (Reps.none _ _))); intro v102 w12 ho13 hb hg_ hnew_; clear hg_ hnew_; (first | rw [← Ny101.out] at ho13 | (simp only [Int.reduceToNat] at ho13; rw [← Ny101.out] at ho13)); have n0_ := Aside0.mk (Kd.R_lower ho13 (below_size (by repeat (first | (with_reducible first | exact HB.out | apply below_alloc | apply pw_below_drewN | apply below_drew1) | exact HB.out)))); have n1_ := Aside0.mk (below_step (by repeat (first | (with_reducible first | exact HB.out | apply below_alloc | apply pw_below_drewN | apply below_drew1) | exact HB.out)) hb); clear HB; have HO103 := n0_; have HB := n1_; clear n0_ n1_; clear hb ho13; obtain ⟨Ao14, co14, eo14⟩ := Kd.R_slice HO103.out; subst eo14) | (go_at_call 54; (with_reducible refine (residue_bad.calls _ _ y101 false _ ?side1 ?side2 A3.out).mono ?_); (case side1 => repeat (first | exact (Kd.R_reads' HO103.out).2.2 | (with_reducible refine Kd.C_alloc ?_ _) | (with_reducible refine Kd.C_drewN ?_ _) | (with_reducible refine Kd.C_drew ?_))); (case side2 => exact (Kd.R_reads' HO103.out).2.1); rintro e w' ⟨rfl, ⟨nd, rfl⟩⟩; (try first | exact ⟨rfl, _, World.drewN_drewN _ _ _⟩ | exact ⟨rfl, _, Eq.trans (World.drewN_drewN _ _ _) (congrArg (World.drewN _) (Nat.add_assoc _ _ _))⟩)) | (go_at_call 62; (with_reducible refine (residue_prime.calls k a1 true _ A8.out).mono ?_); rintro e w15 ⟨rfl, hb⟩; have n0_ := Aside0.mk (Kd.R_below (by (with_reducible repeat (first | apply Kd.R_alloc | apply Kd.R_drewN | apply Kd.R_drew)); exact HO103.out) hb); have n1_ := Aside0.mk (below_step (by repeat (first | (with_reducible first | exact HB.out | apply below_alloc | apply pw_below_drewN | apply below_drew1) | exact HB.out)) hb); clear HO103; clear HB; have HO103 := n0_; have HB := n1_; clear n0_ n1_; (try clear hb); (try clear hb2); (try clear hk); (try clear hi)) | (go_at_call 56; (with_reducible refine (residue_mod.calls a0 a1 t106 _ A10.out).mono ?_); rintro e w' ⟨rfl, ⟨nd, rfl⟩⟩; (try first | exact ⟨rfl, _, World.drewN_drewN _ _ _⟩ | exact ⟨rfl, _, Eq.trans (World.drewN_drewN _ _ _) (congrArg (World.drewN _) (Nat.add_assoc _ _ _))⟩))))
      (try simp only [Act.put, List.setIfInBounds_toArray, List.set_cons_zero, List.set_cons_succ])
      go_cut [29] (fun v29 wc => ∃ (kq : Nat) (x29_10 : Bool), v29 = .bool x29_10 ∧ Aside0 (residue_SquareRoot.j0 kq t106 a1 x29_10 = some (r1, r2)) ∧ Aside0 (kq ≤ k) ∧ Aside0 (Below w.heap.size w wc))
      case first =>
        have H := HC11.out
        clear HC11
        by_cases c16 : a1 = 2
        · rw [if_pos c16] at H
          have c16b0 : (a1 == 2) = true := beq_iff_eq.mpr c16
          have c16b1 : (a1 != 2) = false := bne_eq_false_iff_eq.mpr c16
          clear c16
          (first | rw [c16b0] | (simp only [i64_w, i32_w]; rw [c16b0]) | skip)
          have H' := Aside0.mk H
          clear H
          go_wp2
          repeat (go_quiet (fail); try go_wp2)
          go_meet
          case rel => exact ⟨_, (true), (by first | rfl | (simp; done) | (simp [*]; done)), H', ⟨by first | omega | exact Nat.le_refl _⟩, ⟨by repeat (first | (with_reducible first | exact HB.out | apply below_alloc | apply pw_below_drewN | apply below_drew1) | exact HB.out)⟩⟩
        · rw [if_neg c16] at H
          have c16b0 : (a1 == 2) = false := beq_eq_false_iff_ne.mpr c16
          have c16b1 : (a1 != 2) = true := bne_iff_ne.mpr c16
          (first | rw [c16b0] | (simp only [i64_w, i32_w]; rw [c16b0]) | skip)
          have H' := Aside0.mk H
          clear H
          go_wp2
          repeat (go_quiet (fail); try go_wp2)
          go_meet
          case rel => exact ⟨_, ((t106 == 0)), (by first | rfl | (simp; done) | (simp [*]; done)), H', ⟨by first | omega | exact Nat.le_refl _⟩, ⟨by repeat (first | (with_reducible first | exact HB.out | apply below_alloc | apply pw_below_drewN | apply below_drew1) | exact HB.out)⟩⟩
      case rest =>
        clear HC11
        try clear c1
        try clear c2
        try clear p2
        try clear c4
        try clear c9
        try clear c16
        try clear c16b0
        try clear c16b1
        obtain ⟨kq, x29_10, rfl, HA, HJ10, HB⟩ := hcut
        cases kq with
        | zero => exact absurd HA.out (by simp [residue_SquareRoot.j0])
        | succ kj10 =>
          have H := HA.out
          clear HA
          simp only [residue_SquareRoot.j0] at H
          by_cases c17 : x29_10 = true
          · subst c17
            have H1 : (some (t106, 0)) = some (r1, r2) := by rw [if_pos rfl] at H; exact H
            clear H
            have H := H1
            clear H1
            simp only [Option.some.injEq, Prod.mk.injEq] at H
            obtain ⟨rfl, rfl⟩ := H
            go_wp2
            repeat (go_quiet (fail); try go_wp2)
            go_ret2
            exact ⟨by first | rfl | (simp [errW_none, errW_some] <;> rfl) | (simp [*, errW_none, errW_some] <;> rfl), by repeat (first | (with_reducible first | exact HB.out | apply below_alloc | apply pw_below_drewN | apply below_drew1) | exact HB.out)⟩
          · replace c17 := Bool.eq_false_iff.mpr c17
            subst c17
            have H1 : ((residue_symbol.f kj10 t106 a1).bind fun t107 => (if t107 = 1 then (residue_SquareRoot.l0 kj10 t106 a1 (wrap64 (a1 - 1)) 0 2) else (some (0, 26)))) = some (r1, r2) := by rw [if_neg (show ¬ (false = true) by decide)] at H; exact H
            clear H
            have H := H1
            clear H1
            replace H := Option.bind_eq_some_iff.mp H
            obtain ⟨t107, A180, H⟩ := H
            replace H : (if t107 = 1 then (residue_SquareRoot.l0 kj10 t106 a1 (wrap64 (a1 - 1)) 0 2) else (some (0, 26))) = some (r1, r2) := H
            have A18 := Aside0.mk A180
            clear A180
            by_cases c19 : t107 = 1
            · rw [if_pos c19] at H
              have c19b0 : (t107 == 1) = true := beq_iff_eq.mpr c19
              have c19b1 : (t107 != 1) = false := bne_eq_false_iff_eq.mpr c19
              clear c19
              have H' := Aside0.mk H
              clear H
              go_wp2_with (first | (go_at_call 63; (with_reducible refine (residue_symbol.calls kj10 t106 a1 t107 _ A18.out).mono ?_); rintro e w' ⟨rfl, ⟨nd, rfl⟩⟩; (try first | exact ⟨rfl, _, World.drewN_drewN _ _ _⟩ | exact ⟨rfl, _, Eq.trans (World.drewN_drewN _ _ _) (congrArg (World.drewN _) (Nat.add_assoc _ _ _))⟩)))
              repeat (go_quiet (first | (go_at_call 63; (with_reducible refine (residue_symbol.calls kj10 t106 a1 t107 _ A18.out).mono ?_); rintro e w' ⟨rfl, ⟨nd, rfl⟩⟩; (try first | exact ⟨rfl, _, World.drewN_drewN _ _ _⟩ | exact ⟨rfl, _, Eq.trans (World.drewN_drewN _ _ _) (congrArg (World.drewN _) (Nat.add_assoc _ _ _))⟩))); try go_wp2_with (first | (go_at_call 63; (with_reducible refine (residue_symbol.calls kj10 t106 a1 t107 _ A18.out).mono ?_); rintro e w' ⟨rfl, ⟨nd, rfl⟩⟩; (try first | exact ⟨rfl, _, World.drewN_drewN _ _ _⟩ | exact ⟨rfl, _, Eq.trans (World.drewN_drewN _ _ _) (congrArg (World.drewN _) (Nat.add_assoc _ _ _))⟩))))
              go_loopg [6, 7] kj10 (fun kq v6 v7 w' => ∃ (x6_2 : Int) (x7_2 : Int), v6 = .int .i64 x6_2 ∧ v7 = .int .i64 x7_2 ∧ Aside0 (residue_SquareRoot.l0 kq t106 a1 x6_2 x7_2 2 = some (r1, r2)) ∧ Aside0 (kq ≤ kj10) ∧ Aside0 (Below w.heap.size w w'))
              case atStart => exact ⟨(wrap64 (a1 - 1)), (0), (by first | rfl | (simp; done) | (simp [*]; done)), (by first | rfl | (simp; done) | (simp [*]; done)), H', ⟨Nat.le_refl _⟩, ⟨by repeat (first | (with_reducible first | exact HB.out | apply below_alloc | apply pw_below_drewN | apply below_drew1) | exact HB.out)⟩⟩
              case round =>
                clear H'
                try clear c1
                try clear c2
                try clear p2
                try clear c4
                try clear p6
                try clear c9
                try clear c16
                try clear c16b0
                try clear c16b1
                try clear c17
                try clear c19
                try clear c19b0
                try clear c19b1
                try clear p2
                obtain ⟨x6_2, x7_2, rfl, rfl, HA, HK2, HB⟩ := hrel
                cases gk with
                | zero => exact absurd HA.out (by simp [residue_SquareRoot.l0])
                | succ k2 =>
                  have H := HA.out
                  clear HA
                  simp only [residue_SquareRoot.l0] at H
                  by_cases c20 : (Int.tmod x6_2 2) = 0
                  · rw [if_pos c20] at H
                    have c20b0 : ((Int.tmod x6_2 2) == 0) = true := beq_iff_eq.mpr c20
                    have c20b1 : ((Int.tmod x6_2 2) != 0) = false := bne_eq_false_iff_eq.mpr c20
                    clear c20
                    have H' := Aside0.mk H
                    clear H
                    go_wp2
                    repeat (go_quiet (fail); try go_wp2)
                    go_roundg k2
                    case measure => have := HJ10.out; have := HK2.out; omega
                    case rel => exact ⟨(wrap64 (Int.tdiv x6_2 2)), (wrap64 (x7_2 + 1)), (by first | rfl | (simp; done) | (simp [*]; done)), (by first | rfl | (simp; done) | (simp [*]; done)), H', ⟨by have := HJ10.out; have := HK2.out; omega⟩, ⟨by repeat (first | (with_reducible first | exact HB.out | apply below_alloc | apply pw_below_drewN | apply below_drew1) | exact HB.out)⟩⟩
                  · rw [if_neg c20] at H
                    have c20b0 : ((Int.tmod x6_2 2) == 0) = false := beq_eq_false_iff_ne.mpr c20
                    have c20b1 : ((Int.tmod x6_2 2) != 0) = true := bne_iff_ne.mpr c20
                    have H' := Aside0.mk H
                    clear H
                    go_wp2
                    repeat (go_quiet (fail); try go_wp2)
                    go_loopg [8] k2 (fun kq v8 w' => ∃ (x8_3 : Int), v8 = .int .i64 x8_3 ∧ Aside0 (residue_SquareRoot.l1 kq t106 a1 x6_2 x7_2 x8_3 = some (r1, r2)) ∧ Aside0 (kq ≤ k2) ∧ Aside0 (Below w.heap.size w w'))
                    case atStart => exact ⟨(2), (by first | rfl | (simp; done) | (simp [*]; done)), H', ⟨Nat.le_refl _⟩, ⟨by repeat (first | (with_reducible first | exact HB.out | apply below_alloc | apply pw_below_drewN | apply below_drew1) | exact HB.out)⟩⟩
                    case round =>
                      clear H'
                      try clear c1
                      try clear c2
                      try clear p2
                      try clear c4
                      try clear p6
                      try clear c9
                      try clear c16
                      try clear c16b0
                      try clear c16b1
                      try clear c17
                      try clear c19
                      try clear c19b0
                      try clear c19b1
                      try clear c20
                      try clear c20b0
                      try clear c20b1
                      try clear p2
                      try clear p6
                      obtain ⟨x8_3, rfl, HA, HK3, HB⟩ := hrel
                      cases gk with
                      | zero => exact absurd HA.out (by simp [residue_SquareRoot.l1])
                      | succ k3 =>
                        have H := HA.out
                        clear HA
                        simp only [residue_SquareRoot.l1] at H
                        replace H := Option.bind_eq_some_iff.mp H
                        obtain ⟨t108, A210, H⟩ := H
                        replace H : (if t108 = (-1) then ((residue_power.f k3 t106 (wrap64 (Int.tdiv (wrap64 (x6_2 + 1)) 2)) a1).bind fun t109 => ((residue_power.f k3 t106 x6_2 a1).bind fun t110 => ((residue_power.f k3 x8_3 x6_2 a1).bind fun t111 => (residue_SquareRoot.l2 k3 a1 x7_2 t109 t110 t111)))) else (residue_SquareRoot.l1 k3 t106 a1 x6_2 x7_2 (wrap64 (x8_3 + 1)))) = some (r1, r2) := H
                        have A21 := Aside0.mk A210
                        clear A210
                        by_cases c22 : t108 = (-1)
                        · rw [if_pos c22] at H
                          have c22b0 : (t108 == (-1)) = true := beq_iff_eq.mpr c22
                          have c22b1 : (t108 != (-1)) = false := bne_eq_false_iff_eq.mpr c22
                          clear c22
                          replace H := Option.bind_eq_some_iff.mp H
                          obtain ⟨t109, A230, H⟩ := H
                          replace H : ((residue_power.f k3 t106 x6_2 a1).bind fun t110 => ((residue_power.f k3 x8_3 x6_2 a1).bind fun t111 => (residue_SquareRoot.l2 k3 a1 x7_2 t109 t110 t111))) = some (r1, r2) := H
                          have A23 := Aside0.mk A230
                          clear A230
                          replace H := Option.bind_eq_some_iff.mp H
                          obtain ⟨t110, A240, H⟩ := H
                          replace H : ((residue_power.f k3 x8_3 x6_2 a1).bind fun t111 => (residue_SquareRoot.l2 k3 a1 x7_2 t109 t110 t111)) = some (r1, r2) := H
                          have A24 := Aside0.mk A240
                          clear A240
                          replace H := Option.bind_eq_some_iff.mp H
                          obtain ⟨t111, A250, H⟩ := H
                          replace H : (residue_SquareRoot.l2 k3 a1 x7_2 t109 t110 t111) = some (r1, r2) := H
                          have A25 := Aside0.mk A250
                          clear A250
                          have H' := Aside0.mk H
                          clear H
                          go_wp2_with (first | (go_at_call 63; (with_reducible refine (residue_symbol.calls k3 x8_3 a1 t108 _ A21.out).mono ?_); rintro e w' ⟨rfl, ⟨nd, rfl⟩⟩; (try first | exact ⟨rfl, _, World.drewN_drewN _ _ _⟩ | exact ⟨rfl, _, Eq.trans (World.drewN_drewN _ _ _) (congrArg (World.drewN _) (Nat.add_assoc _ _ _))⟩)) | (go_at_call 59; (with_reducible refine (residue_power.calls k3 t106 (wrap64 (Int.tdiv (wrap64 (x6_2 + 1)) 2)) a1 t109 _ A23.out).mono ?_); rintro e w' ⟨rfl, ⟨nd, rfl⟩⟩; (try first | exact ⟨rfl, _, World.drewN_drewN _ _ _⟩ | exact ⟨rfl, _, Eq.trans (World.drewN_drewN _ _ _) (congrArg (World.drewN _) (Nat.add_assoc _ _ _))⟩)) | (go_at_call 59; (with_reducible refine (residue_power.calls k3 t106 x6_2 a1 t110 _ A24.out).mono ?_); rintro e w' ⟨rfl, ⟨nd, rfl⟩⟩; (try first | exact ⟨rfl, _, World.drewN_drewN _ _ _⟩ | exact ⟨rfl, _, Eq.trans (World.drewN_drewN _ _ _) (congrArg (World.drewN _) (Nat.add_assoc _ _ _))⟩)) | (go_at_call 59; (with_reducible refine (residue_power.calls k3 x8_3 x6_2 a1 t111 _ A25.out).mono ?_); rintro e w' ⟨rfl, ⟨nd, rfl⟩⟩; (try first | exact ⟨rfl, _, World.drewN_drewN _ _ _⟩ | exact ⟨rfl, _, Eq.trans (World.drewN_drewN _ _ _) (congrArg (World.drewN _) (Nat.add_assoc _ _ _))⟩)))
                          repeat (go_quiet (first | (go_at_call 63; (with_reducible refine (residue_symbol.calls k3 x8_3 a1 t108 _ A21.out).mono ?_); rintro e w' ⟨rfl, ⟨nd, rfl⟩⟩; (try first | exact ⟨rfl, _, World.drewN_drewN _ _ _⟩ | exact ⟨rfl, _, Eq.trans (World.drewN_drewN _ _ _) (congrArg (World.drewN _) (Nat.add_assoc _ _ _))⟩)) | (go_at_call 59; (with_reducible refine (residue_power.calls k3 t106 (wrap64 (Int.tdiv (wrap64 (x6_2 + 1)) 2)) a1 t109 _ A23.out).mono ?_); rintro e w' ⟨rfl, ⟨nd, rfl⟩⟩; (try first | exact ⟨rfl, _, World.drewN_drewN _ _ _⟩ | exact ⟨rfl, _, Eq.trans (World.drewN_drewN _ _ _) (congrArg (World.drewN _) (Nat.add_assoc _ _ _))⟩)) | (go_at_call 59; (with_reducible refine (residue_power.calls k3 t106 x6_2 a1 t110 _ A24.out).mono ?_); rintro e w' ⟨rfl, ⟨nd, rfl⟩⟩; (try first | exact ⟨rfl, _, World.drewN_drewN _ _ _⟩ | exact ⟨rfl, _, Eq.trans (World.drewN_drewN _ _ _) (congrArg (World.drewN _) (Nat.add_assoc _ _ _))⟩)) | (go_at_call 59; (with_reducible refine (residue_power.calls k3 x8_3 x6_2 a1 t111 _ A25.out).mono ?_); rintro e w' ⟨rfl, ⟨nd, rfl⟩⟩; (try first | exact ⟨rfl, _, World.drewN_drewN _ _ _⟩ | exact ⟨rfl, _, Eq.trans (World.drewN_drewN _ _ _) (congrArg (World.drewN _) (Nat.add_assoc _ _ _))⟩))); try go_wp2_with (first | (go_at_call 63; (with_reducible refine (residue_symbol.calls k3 x8_3 a1 t108 _ A21.out).mono ?_); rintro e w' ⟨rfl, ⟨nd, rfl⟩⟩; (try first | exact ⟨rfl, _, World.drewN_drewN _ _ _⟩ | exact ⟨rfl, _, Eq.trans (World.drewN_drewN _ _ _) (congrArg (World.drewN _) (Nat.add_assoc _ _ _))⟩)) | (go_at_call 59; (with_reducible refine (residue_power.calls k3 t106 (wrap64 (Int.tdiv (wrap64 (x6_2 + 1)) 2)) a1 t109 _ A23.out).mono ?_); rintro e w' ⟨rfl, ⟨nd, rfl⟩⟩; (try first | exact ⟨rfl, _, World.drewN_drewN _ _ _⟩ | exact ⟨rfl, _, Eq.trans (World.drewN_drewN _ _ _) (congrArg (World.drewN _) (Nat.add_assoc _ _ _))⟩)) | (go_at_call 59; (with_reducible refine (residue_power.calls k3 t106 x6_2 a1 t110 _ A24.out).mono ?_); rintro e w' ⟨rfl, ⟨nd, rfl⟩⟩; (try first | exact ⟨rfl, _, World.drewN_drewN _ _ _⟩ | exact ⟨rfl, _, Eq.trans (World.drewN_drewN _ _ _) (congrArg (World.drewN _) (Nat.add_assoc _ _ _))⟩)) | (go_at_call 59; (with_reducible refine (residue_power.calls k3 x8_3 x6_2 a1 t111 _ A25.out).mono ?_); rintro e w' ⟨rfl, ⟨nd, rfl⟩⟩; (try first | exact ⟨rfl, _, World.drewN_drewN _ _ _⟩ | exact ⟨rfl, _, Eq.trans (World.drewN_drewN _ _ _) (congrArg (World.drewN _) (Nat.add_assoc _ _ _))⟩))))
                          go_loopg [7, 9, 10, 11] k3 (fun kq v7 v9 v10 v11 w' => ∃ (x7_4 : Int) (x9_4 : Int) (x10_4 : Int) (x11_4 : Int), v7 = .int .i64 x7_4 ∧ v9 = .int .i64 x9_4 ∧ v10 = .int .i64 x10_4 ∧ v11 = .int .i64 x11_4 ∧ Aside0 (residue_SquareRoot.l2 kq a1 x7_4 x9_4 x10_4 x11_4 = some (r1, r2)) ∧ Aside0 (kq ≤ k3) ∧ Aside0 (Below w.heap.size w w'))
                          case atStart => exact ⟨(x7_2), (t109), (t110), (t111), (by first | rfl | (simp; done) | (simp [*]; done)), (by first | rfl | (simp; done) | (simp [*]; done)), (by first | rfl | (simp; done) | (simp [*]; done)), (by first | rfl | (simp; done) | (simp [*]; done)), H', ⟨Nat.le_refl _⟩, ⟨by repeat (first | (with_reducible first | exact HB.out | apply below_alloc | apply pw_below_drewN | apply below_drew1) | exact HB.out)⟩⟩
                          case round =>
                            clear H'
                            try clear c1
                            try clear c2
                            try clear p2
                            try clear c4
                            try clear p6
                            try clear c9
                            try clear c16
                            try clear c16b0
                            try clear c16b1
                            try clear c17
                            try clear c19
                            try clear c19b0
                            try clear c19b1
                            try clear c20
                            try clear c20b0
                            try clear c20b1
                            try clear c22
                            try clear c22b0
                            try clear c22b1
                            try clear p2
                            try clear p6
                            obtain ⟨x7_4, x9_4, x10_4, x11_4, rfl, rfl, rfl, rfl, HA, HK4, HB⟩ := hrel
                            cases gk with
                            | zero => exact absurd HA.out (by simp [residue_SquareRoot.l2])
                            | succ k4 =>
                              have H := HA.out
                              clear HA
                              simp only [residue_SquareRoot.l2] at H
                              by_cases c26 : x10_4 = 1
                              · rw [if_pos c26] at H
                                have c26b0 : (x10_4 == 1) = true := beq_iff_eq.mpr c26
                                have c26b1 : (x10_4 != 1) = false := bne_eq_false_iff_eq.mpr c26
                                clear c26
                                obtain ⟨ji27, hji27⟩ : ∃ j_ : Int, (mn x9_4 (wrap64 (a1 - x9_4))) = j_ := ⟨_, rfl⟩
                                replace H : (some (ji27, 0)) = some (r1, r2) := by first | (rw [hji27] at H; exact H) | (simp only [hji27] at H ⊢; exact H)
                                have hji27_ : (if (wrap64 (a1 - x9_4)) < x9_4 then (wrap64 (a1 - x9_4)) else x9_4) = ji27 := hji27
                                simp only [Option.some.injEq, Prod.mk.injEq] at H
                                obtain ⟨rfl, rfl⟩ := H
                                go_wp2
                                repeat (go_quiet (fail); try go_wp2)
                                go_ret2
                                exact ⟨by first | rfl | (simp [errW_none, errW_some] <;> rfl) | (simp only [← hji27]; first | rfl | (simp [errW_none, errW_some] <;> rfl)) | (simp [*, errW_none, errW_some] <;> rfl), by repeat (first | (with_reducible first | exact HB.out | apply below_alloc | apply pw_below_drewN | apply below_drew1) | exact HB.out)⟩
                              · rw [if_neg c26] at H
                                have c26b0 : (x10_4 == 1) = false := beq_eq_false_iff_ne.mpr c26
                                have c26b1 : (x10_4 != 1) = true := bne_iff_ne.mpr c26
                                have H' := Aside0.mk H
                                clear H
                                go_wp2
                                repeat (go_quiet (fail); try go_wp2)
                                go_loopg [12, 13] k4 (fun kq v12 v13 w' => ∃ (x12_5 : Int) (x13_5 : Int), v12 = .int .i64 x12_5 ∧ v13 = .int .i64 x13_5 ∧ Aside0 (residue_SquareRoot.l3 kq a1 x7_4 x9_4 x10_4 x11_4 x12_5 x13_5 = some (r1, r2)) ∧ Aside0 (kq ≤ k4) ∧ Aside0 (Below w.heap.size w w'))
                                case atStart => exact ⟨(0), (x10_4), (by first | rfl | (simp; done) | (simp [*]; done)), (by first | rfl | (simp; done) | (simp [*]; done)), H', ⟨Nat.le_refl _⟩, ⟨by repeat (first | (with_reducible first | exact HB.out | apply below_alloc | apply pw_below_drewN | apply below_drew1) | exact HB.out)⟩⟩
                                case round =>
                                  clear H'
                                  try clear c1
                                  try clear c2
                                  try clear p2
                                  try clear c4
                                  try clear p6
                                  try clear c9
                                  try clear c16
                                  try clear c16b0
                                  try clear c16b1
                                  try clear c17
                                  try clear c19
                                  try clear c19b0
                                  try clear c19b1
                                  try clear c20
                                  try clear c20b0
                                  try clear c20b1
                                  try clear c22
                                  try clear c22b0
                                  try clear c22b1
                                  try clear c26
                                  try clear c26b0
                                  try clear c26b1
                                  try clear p2
                                  try clear p6
                                  obtain ⟨x12_5, x13_5, rfl, rfl, HA, HK5, HB⟩ := hrel
                                  cases gk with
                                  | zero => exact absurd HA.out (by simp [residue_SquareRoot.l3])
                                  | succ k5 =>
                                    have H := HA.out
                                    clear HA
                                    simp only [residue_SquareRoot.l3] at H
                                    by_cases c28 : x13_5 = 1
                                    · rw [if_pos c28] at H
                                      have c28b0 : (x13_5 == 1) = true := beq_iff_eq.mpr c28
                                      have c28b1 : (x13_5 != 1) = false := bne_eq_false_iff_eq.mpr c28
                                      clear c28
                                      obtain ⟨ji29, hji29⟩ : ∃ j_ : Int, (wrap64 ((wrap64 (x7_4 - x12_5)) - 1)) = j_ := ⟨_, rfl⟩
                                      replace H : (if 0 ≤ (ji29) then ((residue_power.f k5 x11_4 (shl .i64 1 (ji29)) a1).bind fun t112 => (if a1 = 0 then (none) else (residue_SquareRoot.l2 k5 a1 x12_5 (Int.tmod (wrap64 (x9_4 * t112)) a1) (Int.tmod (wrap64 (x10_4 * (Int.tmod (wrap64 (t112 * t112)) a1))) a1) (Int.tmod (wrap64 (t112 * t112)) a1)))) else (none)) = some (r1, r2) := by first | (rw [hji29] at H; exact H) | (simp only [hji29] at H ⊢; exact H)
                                      have hji29w : (IntKind.i64.wrap ((wrap64 (x7_4 - x12_5)) - 1)) = ji29 := (i64_w _).trans hji29
                                      by_cases c30 : 0 ≤ (ji29)
                                      · rw [if_pos c30] at H
                                        have c30b0 := eq_true c30
                                        have c30b1 : decide (0 ≤ (ji29)) = true := decide_eq_true c30
                                        clear c30
                                        obtain ⟨ji31, hji31⟩ : ∃ j_ : Int, (shl .i64 1 (ji29)) = j_ := ⟨_, rfl⟩
                                        replace H : ((residue_power.f k5 x11_4 (ji31) a1).bind fun t112 => (if a1 = 0 then (none) else (residue_SquareRoot.l2 k5 a1 x12_5 (Int.tmod (wrap64 (x9_4 * t112)) a1) (Int.tmod (wrap64 (x10_4 * (Int.tmod (wrap64 (t112 * t112)) a1))) a1) (Int.tmod (wrap64 (t112 * t112)) a1)))) = some (r1, r2) := by first | (rw [hji31] at H; exact H) | (simp only [hji31] at H ⊢; exact H)
                                        have hji31_ : (IntKind.i64.wrap (1 * 2 ^ min (ji29).toNat 64)) = ji31 := hji31
                                        have hji31z : (ji29) ≤ 64 → (IntKind.i64.wrap (1 * 2 ^ (ji29).toNat)) = ji31 := shl_small hji31
                                        have hji31u : (IntKind.i64.wrap (2 ^ min (ji29).toNat 64)) = ji31 := by have h_ := hji31_; rw [Int.one_mul] at h_; exact h_
                                        have hji31v : (ji29) ≤ 64 → (IntKind.i64.wrap (2 ^ (ji29).toNat)) = ji31 := fun hle_ => by have h_ := hji31z hle_; rw [Int.one_mul] at h_; exact h_
                                        have hji31y : (wrap64 (1 * 2 ^ min (ji29).toNat 64)) = ji31 := (i64_w _).symm.trans hji31_
                                        have hji31x : (ji29) ≤ 64 → (wrap64 (1 * 2 ^ (ji29).toNat)) = ji31 := fun h_ => (i64_w _).symm.trans (hji31z h_)
                                        replace H := Option.bind_eq_some_iff.mp H
                                        obtain ⟨t112, A320, H⟩ := H
                                        replace H : (if a1 = 0 then (none) else (residue_SquareRoot.l2 k5 a1 x12_5 (Int.tmod (wrap64 (x9_4 * t112)) a1) (Int.tmod (wrap64 (x10_4 * (Int.tmod (wrap64 (t112 * t112)) a1))) a1) (Int.tmod (wrap64 (t112 * t112)) a1))) = some (r1, r2) := H
                                        have A32 := Aside0.mk A320
                                        clear A320
                                        by_cases c33 : a1 = 0
                                        · rw [if_pos c33] at H
                                          exact absurd H (by simp)
                                        · rw [if_neg c33] at H
                                          have c33b0 : (a1 == 0) = false := beq_eq_false_iff_ne.mpr c33
                                          have c33b1 : (a1 != 0) = true := bne_iff_ne.mpr c33
                                          have H' := Aside0.mk H
                                          clear H
                                          go_wp2_with (first | (go_at_call 59; (with_reducible refine (residue_power.calls k5 x11_4 ji31 a1 t112 _ A32.out).mono ?_); rintro e w' ⟨rfl, ⟨nd, rfl⟩⟩; (try first | exact ⟨rfl, _, World.drewN_drewN _ _ _⟩ | exact ⟨rfl, _, Eq.trans (World.drewN_drewN _ _ _) (congrArg (World.drewN _) (Nat.add_assoc _ _ _))⟩)))
                                          repeat (go_quiet (first | (go_at_call 59; (with_reducible refine (residue_power.calls k5 x11_4 ji31 a1 t112 _ A32.out).mono ?_); rintro e w' ⟨rfl, ⟨nd, rfl⟩⟩; (try first | exact ⟨rfl, _, World.drewN_drewN _ _ _⟩ | exact ⟨rfl, _, Eq.trans (World.drewN_drewN _ _ _) (congrArg (World.drewN _) (Nat.add_assoc _ _ _))⟩))); try go_wp2_with (first | (go_at_call 59; (with_reducible refine (residue_power.calls k5 x11_4 ji31 a1 t112 _ A32.out).mono ?_); rintro e w' ⟨rfl, ⟨nd, rfl⟩⟩; (try first | exact ⟨rfl, _, World.drewN_drewN _ _ _⟩ | exact ⟨rfl, _, Eq.trans (World.drewN_drewN _ _ _) (congrArg (World.drewN _) (Nat.add_assoc _ _ _))⟩))))
                                          go_roundg k5
                                          case measure => have := HJ10.out; have := HK2.out; have := HK3.out; have := HK4.out; have := HK5.out; omega
                                          case rel => exact ⟨(x12_5), (Int.tmod (wrap64 (x9_4 * t112)) a1), (Int.tmod (wrap64 (x10_4 * (Int.tmod (wrap64 (t112 * t112)) a1))) a1), (Int.tmod (wrap64 (t112 * t112)) a1), (by first | rfl | (simp; done) | (simp [*]; done)), (by first | rfl | (simp; done) | (simp [*]; done)), (by first | rfl | (simp; done) | (simp [*]; done)), (by first | rfl | (simp; done) | (simp [*]; done)), H', ⟨by have := HJ10.out; have := HK2.out; have := HK3.out; have := HK4.out; have := HK5.out; omega⟩, ⟨by repeat (first | (with_reducible first | exact HB.out | apply below_alloc | apply pw_below_drewN | apply below_drew1) | exact HB.out)⟩⟩
                                      · rw [if_neg c30] at H
                                        exact absurd H (by simp)
                                    · rw [if_neg c28] at H
                                      have c28b0 : (x13_5 == 1) = false := beq_eq_false_iff_ne.mpr c28
                                      have c28b1 : (x13_5 != 1) = true := bne_iff_ne.mpr c28
                                      by_cases c34 : a1 = 0
                                      · rw [if_pos c34] at H
                                        exact absurd H (by simp)
                                      · rw [if_neg c34] at H
                                        have c34b0 : (a1 == 0) = false := beq_eq_false_iff_ne.mpr c34
                                        have c34b1 : (a1 != 0) = true := bne_iff_ne.mpr c34
                                        have H' := Aside0.mk H
                                        clear H
                                        go_wp2
                                        repeat (go_quiet (fail); try go_wp2)
                                        go_roundg k5
                                        case measure => have := HJ10.out; have := HK2.out; have := HK3.out; have := HK4.out; have := HK5.out; omega
                                        case rel => exact ⟨(wrap64 (x12_5 + 1)), (Int.tmod (wrap64 (x13_5 * x13_5)) a1), (by first | rfl | (simp; done) | (simp [*]; done)), (by first | rfl | (simp; done) | (simp [*]; done)), H', ⟨by have := HJ10.out; have := HK2.out; have := HK3.out; have := HK4.out; have := HK5.out; omega⟩, ⟨by repeat (first | (with_reducible first | exact HB.out | apply below_alloc | apply pw_below_drewN | apply below_drew1) | exact HB.out)⟩⟩
                        · rw [if_neg c22] at H
                          have c22b0 : (t108 == (-1)) = false := beq_eq_false_iff_ne.mpr c22
                          have c22b1 : (t108 != (-1)) = true := bne_iff_ne.mpr c22
                          have H' := Aside0.mk H
                          clear H
                          go_wp2_with (first | (go_at_call 63; (with_reducible refine (residue_symbol.calls k3 x8_3 a1 t108 _ A21.out).mono ?_); rintro e w' ⟨rfl, ⟨nd, rfl⟩⟩; (try first | exact ⟨rfl, _, World.drewN_drewN _ _ _⟩ | exact ⟨rfl, _, Eq.trans (World.drewN_drewN _ _ _) (congrArg (World.drewN _) (Nat.add_assoc _ _ _))⟩)))
                          repeat (go_quiet (first | (go_at_call 63; (with_reducible refine (residue_symbol.calls k3 x8_3 a1 t108 _ A21.out).mono ?_); rintro e w' ⟨rfl, ⟨nd, rfl⟩⟩; (try first | exact ⟨rfl, _, World.drewN_drewN _ _ _⟩ | exact ⟨rfl, _, Eq.trans (World.drewN_drewN _ _ _) (congrArg (World.drewN _) (Nat.add_assoc _ _ _))⟩))); try go_wp2_with (first | (go_at_call 63; (with_reducible refine (residue_symbol.calls k3 x8_3 a1 t108 _ A21.out).mono ?_); rintro e w' ⟨rfl, ⟨nd, rfl⟩⟩; (try first | exact ⟨rfl, _, World.drewN_drewN _ _ _⟩ | exact ⟨rfl, _, Eq.trans (World.drewN_drewN _ _ _) (congrArg (World.drewN _) (Nat.add_assoc _ _ _))⟩))))
                          go_roundg k3
                          case measure => have := HJ10.out; have := HK2.out; have := HK3.out; omega
                          case rel => exact ⟨(wrap64 (x8_3 + 1)), (by first | rfl | (simp; done) | (simp [*]; done)), H', ⟨by have := HJ10.out; have := HK2.out; have := HK3.out; omega⟩, ⟨by repeat (first | (with_reducible first | exact HB.out | apply below_alloc | apply pw_below_drewN | apply below_drew1) | exact HB.out)⟩⟩
            · rw [if_neg c19] at H
              have c19b0 : (t107 == 1) = false := beq_eq_false_iff_ne.mpr c19
              have c19b1 : (t107 != 1) = true := bne_iff_ne.mpr c19
              simp only [Option.some.injEq, Prod.mk.injEq] at H
              obtain ⟨rfl, rfl⟩ := H
              go_wp2_with (first | (go_at_call 63; (with_reducible refine (residue_symbol.calls kj10 t106 a1 t107 _ A18.out).mono ?_); rintro e w' ⟨rfl, ⟨nd, rfl⟩⟩; (try first | exact ⟨rfl, _, World.drewN_drewN _ _ _⟩ | exact ⟨rfl, _, Eq.trans (World.drewN_drewN _ _ _) (congrArg (World.drewN _) (Nat.add_assoc _ _ _))⟩)))
              repeat (go_quiet (first | (go_at_call 63; (with_reducible refine (residue_symbol.calls kj10 t106 a1 t107 _ A18.out).mono ?_); rintro e w' ⟨rfl, ⟨nd, rfl⟩⟩; (try first | exact ⟨rfl, _, World.drewN_drewN _ _ _⟩ | exact ⟨rfl, _, Eq.trans (World.drewN_drewN _ _ _) (congrArg (World.drewN _) (Nat.add_assoc _ _ _))⟩))); try go_wp2_with (first | (go_at_call 63; (with_reducible refine (residue_symbol.calls kj10 t106 a1 t107 _ A18.out).mono ?_); rintro e w' ⟨rfl, ⟨nd, rfl⟩⟩; (try first | exact ⟨rfl, _, World.drewN_drewN _ _ _⟩ | exact ⟨rfl, _, Eq.trans (World.drewN_drewN _ _ _) (congrArg (World.drewN _) (Nat.add_assoc _ _ _))⟩))))
              go_ret2
              exact ⟨by first | rfl | (simp [errW_none, errW_some] <;> rfl) | (simp [*, errW_none, errW_some] <;> rfl), by repeat (first | (with_reducible first | exact HB.out | apply below_alloc | apply pw_below_drewN | apply below_drew1) | exact HB.out)⟩
    · replace c9 := Bool.eq_false_iff.mpr c9
      subst c9
      have H1 : (some (0, 7)) = some (r1, r2) := by rw [if_neg (show ¬ (false = true) by decide)] at H; exact H
      clear H
      have H := H1
      clear H1
      simp only [Option.some.injEq, Prod.mk.injEq] at H
      obtain ⟨rfl, rfl⟩ := H
      go_enter Try.func28, Try.ntmps28
      go_wp2_with (first | ((with_reducible refine gate_dst (N := 16) rfl ?_); refine Kd.R_lit (Kd.int .i64) _ 3 ?hg (N := 16) ?hd (xs := ([a1] : List Int)) (inner := [.int .i64 a1]) (ok := fun _ => True) (okp := fun _ => True) ?hr ?hp (fun _ hk => hk) trivial (Below.refl _ _) (Nat.le_refl _) (by simp) ?_; (case hd => rfl); (case hg => rfl); (case hr => first | (go_simp; done) | (go_simp; rfl)); (case hp => exact (Reps.one (show Kd.M (Kd.int .i64) _ _ _ a1 [.int .i64 a1] from rfl) (Reps.none _ _))); intro v102 w35 ho36 hb hg_ hnew_; clear hg_ hnew_; (first | rw [← Ny101.out] at ho36 | (simp only [Int.reduceToNat] at ho36; rw [← Ny101.out] at ho36)); have n0_ := Aside0.mk (Kd.R_lower ho36 (below_size (by repeat (first | (with_reducible first | exact HB.out | apply below_alloc | apply pw_below_drewN | apply below_drew1) | exact HB.out)))); have n1_ := Aside0.mk (below_step (by repeat (first | (with_reducible first | exact HB.out | apply below_alloc | apply pw_below_drewN | apply below_drew1) | exact HB.out)) hb); clear HB; have HO103 := n0_; have HB := n1_; clear n0_ n1_; clear hb ho36; obtain ⟨Ao37, co37, eo37⟩ := Kd.R_slice HO103.out; subst eo37) | (go_at_call 54; (with_reducible refine (residue_bad.calls _ _ y101 false _ ?side1 ?side2 A3.out).mono ?_); (case side1 => repeat (first | exact (Kd.R_reads' HO103.out).2.2 | (with_reducible refine Kd.C_alloc ?_ _) | (with_reducible refine Kd.C_drewN ?_ _) | (with_reducible refine Kd.C_drew ?_))); (case side2 => exact (Kd.R_reads' HO103.out).2.1); rintro e w' ⟨rfl, ⟨nd, rfl⟩⟩; (try first | exact ⟨rfl, _, World.drewN_drewN _ _ _⟩ | exact ⟨rfl, _, Eq.trans (World.drewN_drewN _ _ _) (congrArg (World.drewN _) (Nat.add_assoc _ _ _))⟩)) | (go_at_call 62; (with_reducible refine (residue_prime.calls k a1 false _ A8.out).mono ?_); rintro e w38 ⟨rfl, hb⟩; have n0_ := Aside0.mk (Kd.R_below (by (with_reducible repeat (first | apply Kd.R_alloc | apply Kd.R_drewN | apply Kd.R_drew)); exact HO103.out) hb); have n1_ := Aside0.mk (below_step (by repeat (first | (with_reducible first | exact HB.out | apply below_alloc | apply pw_below_drewN | apply below_drew1) | exact HB.out)) hb); clear HO103; clear HB; have HO103 := n0_; have HB := n1_; clear n0_ n1_; (try clear hb); (try clear hb2); (try clear hk); (try clear hi)))
      repeat (go_quiet (first | ((with_reducible refine gate_dst (N := 16) rfl ?_); refine Kd.R_lit (Kd.int .i64) _ 3 ?hg (N := 16) ?hd (xs := ([a1] : List Int)) (inner := [.int .i64 a1]) (ok := fun _ => True) (okp := fun _ => True) ?hr ?hp (fun _ hk => hk) trivial (Below.refl _ _) (Nat.le_refl _) (by simp) ?_; (case hd => rfl); (case hg => rfl); (case hr => first | (go_simp; done) | (go_simp; rfl)); (case hp => exact (Reps.one (show Kd.M (Kd.int .i64) _ _ _ a1 [.int .i64 a1] from rfl) (Reps.none _ _))); intro v102 w35 ho36 hb hg_ hnew_; clear hg_ hnew_; (first | rw [← Ny101.out] at ho36 | (simp only [Int.reduceToNat] at ho36; rw [← Ny101.out] at ho36)); have n0_ := Aside0.mk (Kd.R_lower ho36 (below_size (by repeat (first | (with_reducible first | exact HB.out | apply below_alloc | apply pw_below_drewN | apply below_drew1) | exact HB.out)))); have n1_ := Aside0.mk (below_step (by repeat (first | (with_reducible first | exact HB.out | apply below_alloc | apply pw_below_drewN | apply below_drew1) | exact HB.out)) hb); clear HB; have HO103 := n0_; have HB := n1_; clear n0_ n1_; clear hb ho36; obtain ⟨Ao37, co37, eo37⟩ := Kd.R_slice HO103.out; subst eo37) | (go_at_call 54; (with_reducible refine (residue_bad.calls _ _ y101 false _ ?side1 ?side2 A3.out).mono ?_); (case side1 => repeat (first | exact (Kd.R_reads' HO103.out).2.2 | (with_reducible refine Kd.C_alloc ?_ _) | (with_reducible refine Kd.C_drewN ?_ _) | (with_reducible refine Kd.C_drew ?_))); (case side2 => exact (Kd.R_reads' HO103.out).2.1); rintro e w' ⟨rfl, ⟨nd, rfl⟩⟩; (try first | exact ⟨rfl, _, World.drewN_drewN _ _ _⟩ | exact ⟨rfl, _, Eq.trans (World.drewN_drewN _ _ _) (congrArg (World.drewN _) (Nat.add_assoc _ _ _))⟩)) | (go_at_call 62; (with_reducible refine (residue_prime.calls k a1 false _ A8.out).mono ?_); rintro e w38 ⟨rfl, hb⟩; have n0_ := Aside0.mk (Kd.R_below (by (with_reducible repeat (first | apply Kd.R_alloc | apply Kd.R_drewN | apply Kd.R_drew)); exact HO103.out) hb); have n1_ := Aside0.mk (below_step (by repeat (first | (with_reducible first | exact HB.out | apply below_alloc | apply pw_below_drewN | apply below_drew1) | exact HB.out)) hb); clear HO103; clear HB; have HO103 := n0_; have HB := n1_; clear n0_ n1_; (try clear hb); (try clear hb2); (try clear hk); (try clear hi))); try go_wp2_with (first | ((with_reducible refine gate_dst (N := 16) rfl ?_); refine Kd.R_lit (Kd.int .i64) _ 3 ?hg (N := 16) ?hd (xs := ([a1] : List Int)) (inner := [.int .i64 a1]) (ok := fun _ => True) (okp := fun _ => True) ?hr ?hp (fun _ hk => hk) trivial (Below.refl _ _) (Nat.le_refl _) (by simp) ?_; (case hd => rfl); (case hg => rfl); (case hr => first | (go_simp; done) | (go_simp; rfl)); (case hp => exact (Reps.one (show Kd.M (Kd.int .i64) _ _ _ a1 [.int .i64 a1] from rfl) (Reps.none _ _))); intro v102 w35 ho36 hb hg_ hnew_; clear hg_ hnew_; (first | rw [← Ny101.out] at ho36 | (simp only [Int.reduceToNat] at ho36; rw [← Ny101.out] at ho36)); have n0_ := Aside0.mk (Kd.R_lower ho36 (below_size (by repeat (first | (with_reducible first | exact HB.out | apply below_alloc | apply pw_below_drewN | apply below_drew1) | exact HB.out)))); have n1_ := Aside0.mk (below_step (by repeat (first | (with_reducible first | exact HB.out | apply below_alloc | apply pw_below_drewN | apply below_drew1) | exact HB.out)) hb); clear HB; have HO103 := n0_; have HB := n1_; clear n0_ n1_; clear hb ho36; obtain ⟨Ao37, co37, eo37⟩ := Kd.R_slice HO103.out; subst eo37) | (go_at_call 54; (with_reducible refine (residue_bad.calls _ _ y101 false _ ?side1 ?side2 A3.out).mono ?_); (case side1 => repeat (first | exact (Kd.R_reads' HO103.out).2.2 | (with_reducible refine Kd.C_alloc ?_ _) | (with_reducible refine Kd.C_drewN ?_ _) | (with_reducible refine Kd.C_drew ?_))); (case side2 => exact (Kd.R_reads' HO103.out).2.1); rintro e w' ⟨rfl, ⟨nd, rfl⟩⟩; (try first | exact ⟨rfl, _, World.drewN_drewN _ _ _⟩ | exact ⟨rfl, _, Eq.trans (World.drewN_drewN _ _ _) (congrArg (World.drewN _) (Nat.add_assoc _ _ _))⟩)) | (go_at_call 62; (with_reducible refine (residue_prime.calls k a1 false _ A8.out).mono ?_); rintro e w38 ⟨rfl, hb⟩; have n0_ := Aside0.mk (Kd.R_below (by (with_reducible repeat (first | apply Kd.R_alloc | apply Kd.R_drewN | apply Kd.R_drew)); exact HO103.out) hb); have n1_ := Aside0.mk (below_step (by repeat (first | (with_reducible first | exact HB.out | apply below_alloc | apply pw_below_drewN | apply below_drew1) | exact HB.out)) hb); clear HO103; clear HB; have HO103 := n0_; have HB := n1_; clear n0_ n1_; (try clear hb); (try clear hb2); (try clear hk); (try clear hi))))
      go_ret2
      exact ⟨by first | rfl | (simp [errW_none, errW_some] <;> rfl) | (simp [*, errW_none, errW_some] <;> rfl), by repeat (first | (with_reducible first | exact HB.out | apply below_alloc | apply pw_below_drewN | apply below_drew1) | exact HB.out)⟩

end Go.Proofs.Ytmedflaejnbkoaa.Q
namespace Go.Proofs.Ytmedflaejnbkoaa.Q
open Go.RowKit Go.Proofs.YtmedflaejnbkoaaW.PrintWords Go.Proofs.YtmedflaejnbkoaaW.PrintLast Go.Proofs.YtmedflaejnbkoaaW.PrintMore
attribute [local go_sem] max2_int min2_int max_two min_two max_three min_three max_four min_four   -- for this text's walks alone
set_option linter.unusedVariables false
set_option linter.unusedSimpArgs false

/-! ### residue_Totient: function 37 -/
def residue_Totient.f (k : Nat) (a0 : Int) : Option (Int × Int) := (residue_bad.f (([a0] : List Int))).bind fun t104 => (if t104 = true then (some (0, 3)) else ((residue_totient.f k a0).bind fun t105 => (some (t105, 0))))
theorem residue_Totient.mono : ∀ a0 k, LeO (residue_Totient.f k a0) (residue_Totient.f (k + 1) a0) := by
  intro a0 k
  unfold residue_Totient.f
  repeat' first
      | (with_reducible exact residue_totient.mono _ _)
      | (with_reducible exact LeO.refl _)
      | (with_reducible exact LeO.none _)
      | (with_reducible refine LeO.ite ?_ ?_)
      | (with_reducible refine LeO.bind ?_ (fun _ => ?_))
      | exact residue_totient.mono _ _
      | exact LeO.none _
      | refine LeO.ite ?_ ?_
      | refine LeO.bind ?_ (fun _ => ?_)
set_option maxHeartbeats 8000000 in
set_option maxRecDepth 100000 in
theorem residue_Totient.calls (k : Nat) (a0 : Int) (r1 : Int) (r2 : Int) (w : World) (h : residue_Totient.f k a0 = some (r1, r2)) :
    Calls Try.prog 37 #[.int .i64 a0] w fun e w' => e = .returned (.tuple #[.int .i64 r1, .int .i64 r2]) ∧ Below w.heap.size w w' := by
  have HB := Aside0.mk (Below.refl w.heap.size w)
  have H : ((residue_bad.f (([a0] : List Int))).bind fun t104 => (if t104 = true then (some (0, 3)) else ((residue_totient.f k a0).bind fun t105 => (some (t105, 0))))) = some (r1, r2) := h
  clear h
  obtain ⟨y101, hy101⟩ : ∃ y_ : List Int, y_ = (([a0] : List Int)) := ⟨_, rfl⟩
  replace H : ((residue_bad.f y101).bind fun t104 => (if t104 = true then (some (0, 3)) else ((residue_totient.f k a0).bind fun t105 => (some (t105, 0))))) = some (r1, r2) := by first | (rw [hy101]; with_reducible exact H) | (have H2_ := (Option.bind_some _ _).symm.trans H; rw [hy101]; with_reducible exact H2_) | (have H2_ := (Option.bind_some _ _).symm.trans H; with_reducible exact H2_) | with_reducible exact H | (rw [hy101]; exact H) | exact H
  have Ny101 := Aside0.mk hy101
  clear hy101
  replace H := Option.bind_eq_some_iff.mp H
  obtain ⟨t104, A20, H⟩ := H
  replace H : (if t104 = true then (some (0, 3)) else ((residue_totient.f k a0).bind fun t105 => (some (t105, 0)))) = some (r1, r2) := H
  have A2 := Aside0.mk A20
  clear A20
  by_cases c3 : t104 = true
  · subst c3
    have H1 : (some (0, 3)) = some (r1, r2) := by rw [if_pos rfl] at H; exact H
    clear H
    have H := H1
    clear H1
    simp only [Option.some.injEq, Prod.mk.injEq] at H
    obtain ⟨rfl, rfl⟩ := H
    go_enter Try.func37, Try.ntmps37
    go_wp2_with (first | ((with_reducible refine gate_dst (N := 5) rfl ?_); refine Kd.R_lit (Kd.int .i64) _ 3 ?hg (N := 5) ?hd (xs := ([a0] : List Int)) (inner := [.int .i64 a0]) (ok := fun _ => True) (okp := fun _ => True) ?hr ?hp (fun _ hk => hk) trivial (Below.refl _ _) (Nat.le_refl _) (by simp) ?_; (case hd => rfl); (case hg => rfl); (case hr => first | (go_simp; done) | (go_simp; rfl)); (case hp => exact (Reps.one (show Kd.M (Kd.int .i64) _ _ _ a0 [.int .i64 a0] from rfl) (Reps.none _ _))); intro v102 w4 ho5 hb hg_ hnew_; clear hg_ hnew_; (first | rw [← Ny101.out] at ho5 | (simp only [Int.reduceToNat] at ho5; rw [← Ny101.out] at ho5)); have n0_ := Aside0.mk (Kd.R_lower ho5 (below_size (by repeat (first | (with_reducible first | exact HB.out | apply below_alloc | apply pw_below_drewN | apply below_drew1) | exact HB.out)))); have n1_ := Aside0.mk (below_step (by repeat (first | (with_reducible first | exact HB.out | apply below_alloc | apply pw_below_drewN | apply below_drew1) | exact HB.out)) hb); clear HB; have HO103 := n0_; have HB := n1_; clear n0_ n1_; clear hb ho5; obtain ⟨Ao6, co6, eo6⟩ := Kd.R_slice HO103.out; subst eo6) | ((with_reducible refine gate_callee (f := 54) rfl ?_); refine goesL_ (some 6) rfl rfl Try.func54 (by kernel_rfl) rfl #[.slice Ao6 y101.length co6] rfl (by (try simp only [List.map_toArray, List.map_cons, List.map_nil]); first | done | rfl | (simp only [List.length_drop, List.length_take]; rfl)) ?_; (with_reducible refine (residue_bad.calls _ _ y101 true _ ?side1 ?side2 A2.out).mono ?_); (case side1 => repeat (first | exact (Kd.R_reads' HO103.out).2.2 | (with_reducible refine Kd.C_alloc ?_ _) | (with_reducible refine Kd.C_drewN ?_ _) | (with_reducible refine Kd.C_drew ?_))); (case side2 => exact (Kd.R_reads' HO103.out).2.1); rintro e w' ⟨rfl, ⟨nd, rfl⟩⟩; refine ⟨_, rfl, ?_⟩))
    go_ret2
    exact ⟨by first | rfl | (simp [errW_none, errW_some] <;> rfl) | (simp [*, errW_none, errW_some] <;> rfl), by repeat (first | (with_reducible first | exact HB.out | apply below_alloc | apply pw_below_drewN | apply below_drew1) | exact HB.out)⟩
  · replace c3 := Bool.eq_false_iff.mpr c3
    subst c3
    have H1 : ((residue_totient.f k a0).bind fun t105 => (some (t105, 0))) = some (r1, r2) := by rw [if_neg (show ¬ (false = true) by decide)] at H; exact H
    clear H
    have H := H1
    clear H1
    replace H := Option.bind_eq_some_iff.mp H
    obtain ⟨t105, A70, H⟩ := H
    replace H : (some (t105, 0)) = some (r1, r2) := H
    have A7 := Aside0.mk A70
    clear A70
    simp only [Option.some.injEq, Prod.mk.injEq] at H
    obtain ⟨rfl, rfl⟩ := H
    go_enter Try.func37, Try.ntmps37
    go_wp2_with (first | ((with_reducible refine gate_dst (N := 5) rfl ?_); refine Kd.R_lit (Kd.int .i64) _ 3 ?hg (N := 5) ?hd (xs := ([a0] : List Int)) (inner := [.int .i64 a0]) (ok := fun _ => True) (okp := fun _ => True) ?hr ?hp (fun _ hk => hk) trivial (Below.refl _ _) (Nat.le_refl _) (by simp) ?_; (case hd => rfl); (case hg => rfl); (case hr => first | (go_simp; done) | (go_simp; rfl)); (case hp => exact (Reps.one (show Kd.M (Kd.int .i64) _ _ _ a0 [.int .i64 a0] from rfl) (Reps.none _ _))); intro v102 w8 ho9 hb hg_ hnew_; clear hg_ hnew_; (first | rw [← Ny101.out] at ho9 | (simp only [Int.reduceToNat] at ho9; rw [← Ny101.out] at ho9)); have n0_ := Aside0.mk (Kd.R_lower ho9 (below_size (by repeat (first | (with_reducible first | exact HB.out | apply below_alloc | apply pw_below_drewN | apply below_drew1) | exact HB.out)))); have n1_ := Aside0.mk (below_step (by repeat (first | (with_reducible first | exact HB.out | apply below_alloc | apply pw_below_drewN | apply below_drew1) | exact HB.out)) hb); clear HB; have HO103 := n0_; have HB := n1_; clear n0_ n1_; clear hb ho9; obtain ⟨Ao10, co10, eo10⟩ := Kd.R_slice HO103.out; subst eo10) | ((with_reducible refine gate_callee (f := 54) rfl ?_); refine goesL_ (some 6) rfl rfl Try.func54 (by kernel_rfl) rfl #[.slice Ao10 y101.length co10] rfl (by (try simp only [List.map_toArray, List.map_cons, List.map_nil]); first | done | rfl | (simp only [List.length_drop, List.length_take]; rfl)) ?_; (with_reducible refine (residue_bad.calls _ _ y101 false _ ?side1 ?side2 A2.out).mono ?_); (case side1 => repeat (first | exact (Kd.R_reads' HO103.out).2.2 | (with_reducible refine Kd.C_alloc ?_ _) | (with_reducible refine Kd.C_drewN ?_ _) | (with_reducible refine Kd.C_drew ?_))); (case side2 => exact (Kd.R_reads' HO103.out).2.1); rintro e w' ⟨rfl, ⟨nd, rfl⟩⟩; refine ⟨_, rfl, ?_⟩) | ((with_reducible refine gate_callee (f := 57) rfl ?_); refine goesL_ (some 8) rfl rfl Try.func57 (by kernel_rfl) rfl #[.int .i64 a0] rfl (by (try simp only [List.map_toArray, List.map_cons, List.map_nil]); first | done | rfl | (simp only [List.length_drop, List.length_take]; rfl)) ?_; (with_reducible refine (residue_totient.calls k a0 t105 _ A7.out).mono ?_); rintro e w11 ⟨rfl, hb⟩; refine ⟨_, rfl, ?_⟩; have n0_ := Aside0.mk (Kd.R_below (by (with_reducible repeat (first | apply Kd.R_alloc | apply Kd.R_drewN | apply Kd.R_drew)); exact HO103.out) hb); have n1_ := Aside0.mk (below_step (by repeat (first | (with_reducible first | exact HB.out | apply below_alloc | apply pw_below_drewN | apply below_drew1) | exact HB.out)) hb); clear HO103; clear HB; have HO103 := n0_; have HB := n1_; clear n0_ n1_; (try clear hb); (try clear hb2); (try clear hk); (try clear hi)))
    go_ret2
    exact ⟨by first | rfl | (simp [errW_none, errW_some] <;> rfl) | (simp [*, errW_none, errW_some] <;> rfl), by repeat (first | (with_reducible first | exact HB.out | apply below_alloc | apply pw_below_drewN | apply below_drew1) | exact HB.out)⟩

end Go.Proofs.Ytmedflaejnbkoaa.Q
namespace Go.Proofs.Ytmedflaejnbkoaa.Q
open Go.RowKit Go.Proofs.YtmedflaejnbkoaaW.PrintWords Go.Proofs.YtmedflaejnbkoaaW.PrintLast Go.Proofs.YtmedflaejnbkoaaW.PrintMore
attribute [local go_sem] max2_int min2_int max_two min_two max_three min_three max_four min_four   -- for this text's walks alone
set_option linter.unusedVariables false
set_option linter.unusedSimpArgs false

/-! ### residue_Factor: function 38 -/
def residue_Factor.f (k : Nat) (a0 : Int) : Option ((List (S53)) × Int) := (residue_bad.f (([a0] : List Int))).bind fun t104 => (if t104 = true then (some (([] : List (S53)), 3)) else ((residue_factor.f k a0).bind fun t105 => (some (t105, 0))))
theorem residue_Factor.mono : ∀ a0 k, LeO (residue_Factor.f k a0) (residue_Factor.f (k + 1) a0) := by
  intro a0 k
  unfold residue_Factor.f
  repeat' first
      | (with_reducible exact residue_factor.mono _ _)
      | (with_reducible exact LeO.refl _)
      | (with_reducible exact LeO.none _)
      | (with_reducible refine LeO.ite ?_ ?_)
      | (with_reducible refine LeO.bind ?_ (fun _ => ?_))
      | exact residue_factor.mono _ _
      | exact LeO.none _
      | refine LeO.ite ?_ ?_
      | refine LeO.bind ?_ (fun _ => ?_)
set_option maxHeartbeats 8000000 in
set_option maxRecDepth 100000 in
theorem residue_Factor.calls (k : Nat) (a0 : Int) (r1 : List (S53)) (r2 : Int) (w : World) (h : residue_Factor.f k a0 = some (r1, r2)) :
    Calls Try.prog 38 #[.int .i64 a0] w fun e w' => ∃ v0_ : Value, e = .returned (.tuple #[v0_, .int .i64 r2]) ∧ Kd.R k53 53 w' w.heap.size (fun _ => True) v0_ r1 ∧ Below w.heap.size w w' := by
  have HB := Aside0.mk (Below.refl w.heap.size w)
  have H : ((residue_bad.f (([a0] : List Int))).bind fun t104 => (if t104 = true then (some (([] : List (S53)), 3)) else ((residue_factor.f k a0).bind fun t105 => (some (t105, 0))))) = some (r1, r2) := h
  clear h
  obtain ⟨y101, hy101⟩ : ∃ y_ : List Int, y_ = (([a0] : List Int)) := ⟨_, rfl⟩
  replace H : ((residue_bad.f y101).bind fun t104 => (if t104 = true then (some (([] : List (S53)), 3)) else ((residue_factor.f k a0).bind fun t105 => (some (t105, 0))))) = some (r1, r2) := by first | (rw [hy101]; with_reducible exact H) | (have H2_ := (Option.bind_some _ _).symm.trans H; rw [hy101]; with_reducible exact H2_) | (have H2_ := (Option.bind_some _ _).symm.trans H; with_reducible exact H2_) | with_reducible exact H | (rw [hy101]; exact H) | exact H
  have Ny101 := Aside0.mk hy101
  clear hy101
  replace H := Option.bind_eq_some_iff.mp H
  obtain ⟨t104, A20, H⟩ := H
  replace H : (if t104 = true then (some (([] : List (S53)), 3)) else ((residue_factor.f k a0).bind fun t105 => (some (t105, 0)))) = some (r1, r2) := H
  have A2 := Aside0.mk A20
  clear A20
  by_cases c3 : t104 = true
  · subst c3
    have H1 : (some (([] : List (S53)), 3)) = some (r1, r2) := by rw [if_pos rfl] at H; exact H
    clear H
    have H := H1
    clear H1
    simp only [Option.some.injEq, Prod.mk.injEq] at H
    obtain ⟨rfl, rfl⟩ := H
    go_enter Try.func38, Try.ntmps38
    go_wp2_with (first | ((with_reducible refine gate_dst (N := 5) rfl ?_); refine Kd.R_lit (Kd.int .i64) _ 3 ?hg (N := 5) ?hd (xs := ([a0] : List Int)) (inner := [.int .i64 a0]) (ok := fun _ => True) (okp := fun _ => True) ?hr ?hp (fun _ hk => hk) trivial (Below.refl _ _) (Nat.le_refl _) (by simp) ?_; (case hd => rfl); (case hg => rfl); (case hr => first | (go_simp; done) | (go_simp; rfl)); (case hp => exact (Reps.one (show Kd.M (Kd.int .i64) _ _ _ a0 [.int .i64 a0] from rfl) (Reps.none _ _))); intro v102 w4 ho5 hb hg_ hnew_; clear hg_ hnew_; (first | rw [← Ny101.out] at ho5 | (simp only [Int.reduceToNat] at ho5; rw [← Ny101.out] at ho5)); have n0_ := Aside0.mk (Kd.R_lower ho5 (below_size (by repeat (first | (with_reducible first | exact HB.out | apply below_alloc | apply pw_below_drewN | apply below_drew1) | exact HB.out)))); have n1_ := Aside0.mk (below_step (by repeat (first | (with_reducible first | exact HB.out | apply below_alloc | apply pw_below_drewN | apply below_drew1) | exact HB.out)) hb); clear HB; have HO103 := n0_; have HB := n1_; clear n0_ n1_; clear hb ho5; obtain ⟨Ao6, co6, eo6⟩ := Kd.R_slice HO103.out; subst eo6) | ((with_reducible refine gate_callee (f := 54) rfl ?_); refine goesL_ (some 6) rfl rfl Try.func54 (by kernel_rfl) rfl #[.slice Ao6 y101.length co6] rfl (by (try simp only [List.map_toArray, List.map_cons, List.map_nil]); first | done | rfl | (simp only [List.length_drop, List.length_take]; rfl)) ?_; (with_reducible refine (residue_bad.calls _ _ y101 true _ ?side1 ?side2 A2.out).mono ?_); (case side1 => repeat (first | exact (Kd.R_reads' HO103.out).2.2 | (with_reducible refine Kd.C_alloc ?_ _) | (with_reducible refine Kd.C_drewN ?_ _) | (with_reducible refine Kd.C_drew ?_))); (case side2 => exact (Kd.R_reads' HO103.out).2.1); rintro e w' ⟨rfl, ⟨nd, rfl⟩⟩; refine ⟨_, rfl, ?_⟩))
    go_ret2
    exact ⟨_, by first | rfl | (simp [errW_none, errW_some] <;> rfl) | (simp [*, errW_none, errW_some] <;> rfl), by first | exact Kd.R_nil _ _ _ _ _ | exact Kd.N_nil _ _ _ _ _ | exact Kd.V_nil _ _ _ _ _ | exact Kd.Q_nil _ _ _ _ _ | exact Kd.S_nil _ _ _ _ _, by repeat (first | (with_reducible first | exact HB.out | apply below_alloc | apply pw_below_drewN | apply below_drew1) | exact HB.out)⟩
  · replace c3 := Bool.eq_false_iff.mpr c3
    subst c3
    have H1 : ((residue_factor.f k a0).bind fun t105 => (some (t105, 0))) = some (r1, r2) := by rw [if_neg (show ¬ (false = true) by decide)] at H; exact H
    clear H
    have H := H1
    clear H1
    replace H := Option.bind_eq_some_iff.mp H
    obtain ⟨t105, A70, H⟩ := H
    replace H : (some (t105, 0)) = some (r1, r2) := H
    have A7 := Aside0.mk A70
    clear A70
    simp only [Option.some.injEq, Prod.mk.injEq] at H
    obtain ⟨rfl, rfl⟩ := H
    go_enter Try.func38, Try.ntmps38
    go_wp2_with (first | ((with_reducible refine gate_dst (N := 5) rfl ?_); refine Kd.R_lit (Kd.int .i64) _ 3 ?hg (N := 5) ?hd (xs := ([a0] : List Int)) (inner := [.int .i64 a0]) (ok := fun _ => True) (okp := fun _ => True) ?hr ?hp (fun _ hk => hk) trivial (Below.refl _ _) (Nat.le_refl _) (by simp) ?_; (case hd => rfl); (case hg => rfl); (case hr => first | (go_simp; done) | (go_simp; rfl)); (case hp => exact (Reps.one (show Kd.M (Kd.int .i64) _ _ _ a0 [.int .i64 a0] from rfl) (Reps.none _ _))); intro v102 w8 ho9 hb hg_ hnew_; clear hg_ hnew_; (first | rw [← Ny101.out] at ho9 | (simp only [Int.reduceToNat] at ho9; rw [← Ny101.out] at ho9)); have n0_ := Aside0.mk (Kd.R_lower ho9 (below_size (by repeat (first | (with_reducible first | exact HB.out | apply below_alloc | apply pw_below_drewN | apply below_drew1) | exact HB.out)))); have n1_ := Aside0.mk (below_step (by repeat (first | (with_reducible first | exact HB.out | apply below_alloc | apply pw_below_drewN | apply below_drew1) | exact HB.out)) hb); clear HB; have HO103 := n0_; have HB := n1_; clear n0_ n1_; clear hb ho9; obtain ⟨Ao10, co10, eo10⟩ := Kd.R_slice HO103.out; subst eo10) | ((with_reducible refine gate_callee (f := 54) rfl ?_); refine goesL_ (some 6) rfl rfl Try.func54 (by kernel_rfl) rfl #[.slice Ao10 y101.length co10] rfl (by (try simp only [List.map_toArray, List.map_cons, List.map_nil]); first | done | rfl | (simp only [List.length_drop, List.length_take]; rfl)) ?_; (with_reducible refine (residue_bad.calls _ _ y101 false _ ?side1 ?side2 A2.out).mono ?_); (case side1 => repeat (first | exact (Kd.R_reads' HO103.out).2.2 | (with_reducible refine Kd.C_alloc ?_ _) | (with_reducible refine Kd.C_drewN ?_ _) | (with_reducible refine Kd.C_drew ?_))); (case side2 => exact (Kd.R_reads' HO103.out).2.1); rintro e w' ⟨rfl, ⟨nd, rfl⟩⟩; refine ⟨_, rfl, ?_⟩) | ((with_reducible refine gate_callee (f := 58) rfl ?_); refine goesL_ (some 8) rfl rfl Try.func58 (by kernel_rfl) rfl #[.int .i64 a0] rfl (by (try simp only [List.map_toArray, List.map_cons, List.map_nil]); first | done | rfl | (simp only [List.length_drop, List.length_take]; rfl)) ?_; (with_reducible refine (residue_factor.calls k a0 t105 _ A7.out).mono ?_); rintro e w11 ⟨v106, rfl, ho0, hb⟩; refine ⟨_, rfl, ?_⟩; have n0_ := Aside0.mk (Kd.R_below (by (with_reducible repeat (first | apply Kd.R_alloc | apply Kd.R_drewN | apply Kd.R_drew)); exact HO103.out) hb); have n1_ := Aside0.mk (Kd.R_lower ho0 (below_size (by repeat (first | (with_reducible first | exact HB.out | apply below_alloc | apply pw_below_drewN | apply below_drew1) | exact HB.out)))); have n2_ := Aside0.mk (below_step (by repeat (first | (with_reducible first | exact HB.out | apply below_alloc | apply pw_below_drewN | apply below_drew1) | exact HB.out)) hb); clear HO103; clear HB; have HO103 := n0_; have HO107 := n1_; have HB := n2_; clear n0_ n1_ n2_; (try clear hb); (try clear hb2); (try clear hk); (try clear hi); (try clear ho0)))
    go_ret2
    exact ⟨_, by first | rfl | (simp [errW_none, errW_some] <;> rfl) | (simp [*, errW_none, errW_some] <;> rfl), by (with_reducible repeat (first | apply Kd.R_alloc | apply Kd.R_drewN | apply Kd.R_drew)); exact HO107.out, by repeat (first | (with_reducible first | exact HB.out | apply below_alloc | apply pw_below_drewN | apply below_drew1) | exact HB.out)⟩

end Go.Proofs.Ytmedflaejnbkoaa.Q
namespace Go.Proofs.Ytmedflaejnbkoaa.Q
open Go.RowKit Go.Proofs.YtmedflaejnbkoaaW.PrintWords Go.Proofs.YtmedflaejnbkoaaW.PrintLast Go.Proofs.YtmedflaejnbkoaaW.PrintMore
attribute [local go_sem] max2_int min2_int max_two min_two max_three min_three max_four min_four   -- for this text's walks alone
set_option linter.unusedVariables false
set_option linter.unusedSimpArgs false

attribute [local go_sem high] eqA53
/-! ### galoislaw04_samePowers: function 48 -/
def galoislaw04_samePowers.l0 : Nat → List (S53) → List (S53) → Int → Option (Bool)
  | 0, _, _, _ => none
  | k + 1, x0, x1, x5 => if x5 < (x0.length : Int) then (if 0 ≤ x5 then (if x5 < (x1.length : Int) then (if (!(((rd_T53 x0 x5).f0) == ((rd_T53 x1 x5).f0)) || (!(((rd_T53 x0 x5).f1) == ((rd_T53 x1 x5).f1)))) = true then (some false) else (galoislaw04_samePowers.l0 k x0 x1 (wrap64 (x5 + 1)))) else (none)) else (none)) else (some true)
def galoislaw04_samePowers.f (k : Nat) (l0 : List (S53)) (l1 : List (S53)) : Option (Bool) := if (l0.length : Int) = (l1.length : Int) then (galoislaw04_samePowers.l0 k l0 l1 0) else (some false)
theorem galoislaw04_samePowers.mono_l : ∀ k, (∀ y0 y1 y2, LeO (galoislaw04_samePowers.l0 k y0 y1 y2) (galoislaw04_samePowers.l0 (k + 1) y0 y1 y2))
  | 0 => fun _ _ _ r h => by simp [galoislaw04_samePowers.l0] at h
  | k + 1 => by
    have ih0 := galoislaw04_samePowers.mono_l k
    · intro y0 y1 y2
      unfold galoislaw04_samePowers.l0
      repeat' first
      | (with_reducible exact ih0 _ _ _)
      | (with_reducible exact LeO.refl _)
      | (with_reducible exact LeO.none _)
      | (with_reducible refine LeO.ite ?_ ?_)
      | (with_reducible refine LeO.bind ?_ (fun _ => ?_))
      | exact ih0 _ _ _
      | exact LeO.none _
      | refine LeO.ite ?_ ?_
      | refine LeO.bind ?_ (fun _ => ?_)
theorem galoislaw04_samePowers.mono : ∀ a0 a1 k, LeO (galoislaw04_samePowers.f k a0 a1) (galoislaw04_samePowers.f (k + 1) a0 a1) := by
  intro a0 a1 k
  have ih0 := galoislaw04_samePowers.mono_l k
  unfold galoislaw04_samePowers.f
  repeat' first
      | (with_reducible exact ih0 _ _ _)
      | (with_reducible exact LeO.refl _)
      | (with_reducible exact LeO.none _)
      | (with_reducible refine LeO.ite ?_ ?_)
      | (with_reducible refine LeO.bind ?_ (fun _ => ?_))
      | exact ih0 _ _ _
      | exact LeO.none _
      | refine LeO.ite ?_ ?_
      | refine LeO.bind ?_ (fun _ => ?_)
set_option maxHeartbeats 8000000 in
set_option maxRecDepth 100000 in
theorem galoislaw04_samePowers.calls (k : Nat) (A0 : Option Addr) (c0 : Nat) (l0 : List (S53)) (A1 : Option Addr) (c1 : Nat) (l1 : List (S53)) (r : Bool) (w : World) (hr0 : Kd.C k53 w A0 l0.length l0) (hc0 : l0.length ≤ c0) (hr1 : Kd.C k53 w A1 l1.length l1) (hc1 : l1.length ≤ c1) (h : galoislaw04_samePowers.f k l0 l1 = some r) :
    Calls Try.prog 48 #[.slice A0 l0.length c0, .slice A1 l1.length c1] w fun e w' => e = .returned (.bool r) ∧ Drawn0 w w' := by
  have hu53 := Try.underlying53
  have HR0 := Aside0.mk hr0
  have HC0 := Aside0.mk hc0
  clear hr0 hc0
  have HR1 := Aside0.mk hr1
  have HC1 := Aside0.mk hc1
  clear hr1 hc1
  have H : (if (l0.length : Int) = (l1.length : Int) then (galoislaw04_samePowers.l0 k l0 l1 0) else (some false)) = some r := h
  clear h
  by_cases c3 : (l0.length : Int) = (l1.length : Int)
  · rw [if_pos c3] at H
    have c3b0 : ((l0.length : Int) == (l1.length : Int)) = true := beq_iff_eq.mpr c3
    have c3b1 : ((l0.length : Int) != (l1.length : Int)) = false := bne_eq_false_iff_eq.mpr c3
    have c3b2 : (l0.length == l1.length) = true := by first | simpa using c3 | (simp at c3 ⊢; omega)
    clear c3
    have H' := Aside0.mk H
    clear H
    go_enter Try.func48, Try.ntmps48
    go_wp2
    repeat (go_quiet (fail); try go_wp2)
    go_loopg [5] k (fun kq v5 w' => ∃ (x5_1 : Int), v5 = .int .i64 x5_1 ∧ Aside0 (galoislaw04_samePowers.l0 kq l0 l1 x5_1 = some r) ∧ Aside0 (kq ≤ k) ∧ Drawn0 w w')
    case atStart => exact ⟨(0), (by first | rfl | (simp; done) | (simp [*]; done)), H', ⟨Nat.le_refl _⟩, by repeat (first | exact Drawn0.refl _ | apply Drawn0.step)⟩
    case round =>
      clear H'
      try clear c1
      try clear p2
      try clear c3
      try clear c3b0
      try clear c3b1
      try clear c3b2
      obtain ⟨x5_1, rfl, HA, HK1, ⟨m1, rfl⟩⟩ := hrel
      cases gk with
      | zero => exact absurd HA.out (by simp [galoislaw04_samePowers.l0])
      | succ k1 =>
        have H := HA.out
        clear HA
        simp only [galoislaw04_samePowers.l0] at H
        by_cases c4 : x5_1 < (l0.length : Int)
        · rw [if_pos c4] at H
          have c4b0 : decide (x5_1 < (l0.length : Int)) = true := decide_eq_true c4
          clear c4
          by_cases c5 : 0 ≤ x5_1
          · rw [if_pos c5] at H
            have c5b0 : decide (0 ≤ x5_1) = true := decide_eq_true c5
            clear c5
            by_cases c6 : x5_1 < (l1.length : Int)
            · rw [if_pos c6] at H
              have c6b0 : decide (x5_1 < (l1.length : Int)) = true := decide_eq_true c6
              clear c6
              by_cases c7 : (!(((rd_T53 l0 x5_1).f0) == ((rd_T53 l1 x5_1).f0)) || (!(((rd_T53 l0 x5_1).f1) == ((rd_T53 l1 x5_1).f1)))) = true
              · rw [if_pos c7] at H
                have c7b0 : (!(((rd_T53 l0 x5_1).f0) == ((rd_T53 l1 x5_1).f0)) || (!(((rd_T53 l0 x5_1).f1) == ((rd_T53 l1 x5_1).f1)))) = true := c7
                clear c7
                obtain rfl := Option.some.inj H
                have p101 : 0 ≤ (x5_1 : Int) := of_decide_eq_true (by first | (with_reducible assumption) | assumption)
                have q101 : x5_1 < (l0.length : Int) := of_decide_eq_true (by first | (with_reducible assumption) | assumption)
                obtain ⟨ad101, e101, hx101_0, hx101_1⟩ := at_T53 HR0.out x5_1 p101 q101
                cases e101
                replace p101 := eq_true p101
                replace q101 := eq_true q101
                have p102 : 0 ≤ (x5_1 : Int) := of_decide_eq_true (by first | (with_reducible assumption) | assumption)
                have q102 : x5_1 < (l1.length : Int) := of_decide_eq_true (by first | (with_reducible assumption) | assumption)
                obtain ⟨ad102, e102, hx102_0, hx102_1⟩ := at_T53 HR1.out x5_1 p102 q102
                cases e102
                replace p102 := eq_true p102
                replace q102 := eq_true q102
                go_wp2
                repeat (go_quiet (fail); try go_wp2)
                go_ret
                exact ⟨by first | rfl | (simp; done) | (simp [*]; done), by repeat (first | exact Drawn0.refl _ | apply Drawn0.step)⟩
              · rw [if_neg c7] at H
                have c7b0 : (!(((rd_T53 l0 x5_1).f0) == ((rd_T53 l1 x5_1).f0)) || (!(((rd_T53 l0 x5_1).f1) == ((rd_T53 l1 x5_1).f1)))) = false := by simpa using c7
                clear c7
                have H' := Aside0.mk H
                clear H
                have p101 : 0 ≤ (x5_1 : Int) := of_decide_eq_true (by first | (with_reducible assumption) | assumption)
                have q101 : x5_1 < (l0.length : Int) := of_decide_eq_true (by first | (with_reducible assumption) | assumption)
                obtain ⟨ad101, e101, hx101_0, hx101_1⟩ := at_T53 HR0.out x5_1 p101 q101
                cases e101
                replace p101 := eq_true p101
                replace q101 := eq_true q101
                have p102 : 0 ≤ (x5_1 : Int) := of_decide_eq_true (by first | (with_reducible assumption) | assumption)
                have q102 : x5_1 < (l1.length : Int) := of_decide_eq_true (by first | (with_reducible assumption) | assumption)
                obtain ⟨ad102, e102, hx102_0, hx102_1⟩ := at_T53 HR1.out x5_1 p102 q102
                cases e102
                replace p102 := eq_true p102
                replace q102 := eq_true q102
                go_wp2
                repeat (go_quiet (fail); try go_wp2)
                go_roundg k1
                case measure => have := HK1.out; omega
                case rel => exact ⟨(wrap64 (x5_1 + 1)), (by first | rfl | (simp; done) | (simp [*]; done)), H', ⟨by have := HK1.out; omega⟩, by repeat (first | exact Drawn0.refl _ | apply Drawn0.step)⟩
            · rw [if_neg c6] at H
              exact absurd H (by simp)
          · rw [if_neg c5] at H
            exact absurd H (by simp)
        · rw [if_neg c4] at H
          have c4b0 : decide (x5_1 < (l0.length : Int)) = false := decide_eq_false c4
          clear c4
          obtain rfl := Option.some.inj H
          go_wp2
          repeat (go_quiet (fail); try go_wp2)
          go_ret
          exact ⟨by first | rfl | (simp; done) | (simp [*]; done), by repeat (first | exact Drawn0.refl _ | apply Drawn0.step)⟩
  · rw [if_neg c3] at H
    have c3b0 : ((l0.length : Int) == (l1.length : Int)) = false := beq_eq_false_iff_ne.mpr c3
    have c3b1 : ((l0.length : Int) != (l1.length : Int)) = true := bne_iff_ne.mpr c3
    have c3b2 : (l0.length == l1.length) = false := by first | simpa using c3 | (simp at c3 ⊢; omega)
    obtain rfl := Option.some.inj H
    go_enter Try.func48, Try.ntmps48
    go_wp2
    repeat (go_quiet (fail); try go_wp2)
    go_ret
    exact ⟨by first | rfl | (simp; done) | (simp [*]; done), by repeat (first | exact Drawn0.refl _ | apply Drawn0.step)⟩

end Go.Proofs.Ytmedflaejnbkoaa.Q
namespace Go.Proofs.Ytmedflaejnbkoaa.Q
open Go.RowKit Go.Proofs.YtmedflaejnbkoaaW.PrintWords Go.Proofs.YtmedflaejnbkoaaW.PrintLast Go.Proofs.YtmedflaejnbkoaaW.PrintMore
attribute [local go_sem] max2_int min2_int max_two min_two max_three min_three max_four min_four   -- for this text's walks alone
set_option linter.unusedVariables false
set_option linter.unusedSimpArgs false

/-! ### galoislaw04_awake: function 14 -/
def galoislaw04_awake.f (k : Nat)  : Option (Bool) := (residue_Factor.f k 360).bind fun bt101 => ((residue_Totient.f k 36).bind fun bt105 => ((residue_Order.f k 2 7).bind fun bt107 => ((residue_PrimitiveRoot.f k 7).bind fun bt109 => ((residue_Jacobi.f k 2 15).bind fun bt111 => ((residue_SquareRoot.f k 2 7).bind fun bt113 => ((residue_Chinese.f k (([2, 3] : List Int)) (([3, 5] : List Int))).bind fun bt121 => ((residue_PrimitiveRoot.f k 8).bind fun bt124 => (if bt101.2 = 0 then (if bt105.2 = 0 then (if bt107.2 = 0 then (if bt109.2 = 0 then (if bt111.2 = 0 then (if bt113.2 = 0 then (if bt121.2.2 = 0 then (if bt124.2 = 10 then ((galoislaw04_samePowers.f k bt101.1 (([(⟨2, 3⟩ : S53), (⟨3, 2⟩ : S53), (⟨5, 1⟩ : S53)] : List (S53)))).bind fun t129 => (if t129 = true then (if bt105.1 = 12 then (if bt107.1 = 3 then (if bt109.1 = 3 then (if bt111.1 = 1 then (if bt113.1 = 3 then (if bt121.1 = 8 then (some (bt121.2.1 == 15)) else (none)) else (none)) else (none)) else (none)) else (none)) else (none)) else (none))) else (none)) else (none)) else (none)) else (none)) else (none)) else (none)) else (none)) else (none)))))))))
theorem galoislaw04_awake.mono : ∀ k, LeO (galoislaw04_awake.f k ) (galoislaw04_awake.f (k + 1) ) := by
  intro  k
  unfold galoislaw04_awake.f
  repeat' first
      | (with_reducible exact galoislaw04_samePowers.mono _ _ _)
      | (with_reducible exact residue_Chinese.mono _ _ _)
      | (with_reducible exact residue_Factor.mono _ _)
      | (with_reducible exact residue_Jacobi.mono _ _ _)
      | (with_reducible exact residue_Order.mono _ _ _)
      | (with_reducible exact residue_PrimitiveRoot.mono _ _)
      | (with_reducible exact residue_SquareRoot.mono _ _ _)
      | (with_reducible exact residue_Totient.mono _ _)
      | (with_reducible exact LeO.refl _)
      | (with_reducible exact LeO.none _)
      | (with_reducible refine LeO.ite ?_ ?_)
      | (with_reducible refine LeO.bind ?_ (fun _ => ?_))
      | exact galoislaw04_samePowers.mono _ _ _
      | exact residue_Chinese.mono _ _ _
      | exact residue_Factor.mono _ _
      | exact residue_Jacobi.mono _ _ _
      | exact residue_Order.mono _ _ _
      | exact residue_PrimitiveRoot.mono _ _
      | exact residue_SquareRoot.mono _ _ _
      | exact residue_Totient.mono _ _
      | exact LeO.none _
      | refine LeO.ite ?_ ?_
      | refine LeO.bind ?_ (fun _ => ?_)
set_option maxHeartbeats 8000000 in
set_option maxRecDepth 100000 in
theorem galoislaw04_awake.calls (k : Nat)  (r : Bool) (w : World) (h : galoislaw04_awake.f k  = some r) :
    Calls Try.prog 14 #[] w fun e w' => e = .returned (.bool r) ∧ Below w.heap.size w w' := by
  have hu53 := Try.underlying53
  have HB := Aside0.mk (Below.refl w.heap.size w)
  have H : ((residue_Factor.f k 360).bind fun bt101 => ((residue_Totient.f k 36).bind fun bt105 => ((residue_Order.f k 2 7).bind fun bt107 => ((residue_PrimitiveRoot.f k 7).bind fun bt109 => ((residue_Jacobi.f k 2 15).bind fun bt111 => ((residue_SquareRoot.f k 2 7).bind fun bt113 => ((residue_Chinese.f k (([2, 3] : List Int)) (([3, 5] : List Int))).bind fun bt121 => ((residue_PrimitiveRoot.f k 8).bind fun bt124 => (if bt101.2 = 0 then (if bt105.2 = 0 then (if bt107.2 = 0 then (if bt109.2 = 0 then (if bt111.2 = 0 then (if bt113.2 = 0 then (if bt121.2.2 = 0 then (if bt124.2 = 10 then ((galoislaw04_samePowers.f k bt101.1 (([(⟨2, 3⟩ : S53), (⟨3, 2⟩ : S53), (⟨5, 1⟩ : S53)] : List (S53)))).bind fun t129 => (if t129 = true then (if bt105.1 = 12 then (if bt107.1 = 3 then (if bt109.1 = 3 then (if bt111.1 = 1 then (if bt113.1 = 3 then (if bt121.1 = 8 then (some (bt121.2.1 == 15)) else (none)) else (none)) else (none)) else (none)) else (none)) else (none)) else (none))) else (none)) else (none)) else (none)) else (none)) else (none)) else (none)) else (none)) else (none)))))))))) = some r := h
  clear h
  replace H := Option.bind_eq_some_iff.mp H
  obtain ⟨⟨t101, t102⟩, A10, H⟩ := H
  replace H : ((residue_Totient.f k 36).bind fun bt105 => ((residue_Order.f k 2 7).bind fun bt107 => ((residue_PrimitiveRoot.f k 7).bind fun bt109 => ((residue_Jacobi.f k 2 15).bind fun bt111 => ((residue_SquareRoot.f k 2 7).bind fun bt113 => ((residue_Chinese.f k (([2, 3] : List Int)) (([3, 5] : List Int))).bind fun bt121 => ((residue_PrimitiveRoot.f k 8).bind fun bt124 => (if t102 = 0 then (if bt105.2 = 0 then (if bt107.2 = 0 then (if bt109.2 = 0 then (if bt111.2 = 0 then (if bt113.2 = 0 then (if bt121.2.2 = 0 then (if bt124.2 = 10 then ((galoislaw04_samePowers.f k t101 (([(⟨2, 3⟩ : S53), (⟨3, 2⟩ : S53), (⟨5, 1⟩ : S53)] : List (S53)))).bind fun t129 => (if t129 = true then (if bt105.1 = 12 then (if bt107.1 = 3 then (if bt109.1 = 3 then (if bt111.1 = 1 then (if bt113.1 = 3 then (if bt121.1 = 8 then (some (bt121.2.1 == 15)) else (none)) else (none)) else (none)) else (none)) else (none)) else (none)) else (none))) else (none)) else (none)) else (none)) else (none)) else (none)) else (none)) else (none)) else (none))))))))) = some r := H
  have A1 := Aside0.mk A10
  clear A10
  replace H := Option.bind_eq_some_iff.mp H
  obtain ⟨⟨t105, t106⟩, A20, H⟩ := H
  replace H : ((residue_Order.f k 2 7).bind fun bt107 => ((residue_PrimitiveRoot.f k 7).bind fun bt109 => ((residue_Jacobi.f k 2 15).bind fun bt111 => ((residue_SquareRoot.f k 2 7).bind fun bt113 => ((residue_Chinese.f k (([2, 3] : List Int)) (([3, 5] : List Int))).bind fun bt121 => ((residue_PrimitiveRoot.f k 8).bind fun bt124 => (if t102 = 0 then (if t106 = 0 then (if bt107.2 = 0 then (if bt109.2 = 0 then (if bt111.2 = 0 then (if bt113.2 = 0 then (if bt121.2.2 = 0 then (if bt124.2 = 10 then ((galoislaw04_samePowers.f k t101 (([(⟨2, 3⟩ : S53), (⟨3, 2⟩ : S53), (⟨5, 1⟩ : S53)] : List (S53)))).bind fun t129 => (if t129 = true then (if t105 = 12 then (if bt107.1 = 3 then (if bt109.1 = 3 then (if bt111.1 = 1 then (if bt113.1 = 3 then (if bt121.1 = 8 then (some (bt121.2.1 == 15)) else (none)) else (none)) else (none)) else (none)) else (none)) else (none)) else (none))) else (none)) else (none)) else (none)) else (none)) else (none)) else (none)) else (none)) else (none)))))))) = some r := H
  have A2 := Aside0.mk A20
  clear A20
  replace H := Option.bind_eq_some_iff.mp H
  obtain ⟨⟨t107, t108⟩, A30, H⟩ := H
  replace H : ((residue_PrimitiveRoot.f k 7).bind fun bt109 => ((residue_Jacobi.f k 2 15).bind fun bt111 => ((residue_SquareRoot.f k 2 7).bind fun bt113 => ((residue_Chinese.f k (([2, 3] : List Int)) (([3, 5] : List Int))).bind fun bt121 => ((residue_PrimitiveRoot.f k 8).bind fun bt124 => (if t102 = 0 then (if t106 = 0 then (if t108 = 0 then (if bt109.2 = 0 then (if bt111.2 = 0 then (if bt113.2 = 0 then (if bt121.2.2 = 0 then (if bt124.2 = 10 then ((galoislaw04_samePowers.f k t101 (([(⟨2, 3⟩ : S53), (⟨3, 2⟩ : S53), (⟨5, 1⟩ : S53)] : List (S53)))).bind fun t129 => (if t129 = true then (if t105 = 12 then (if t107 = 3 then (if bt109.1 = 3 then (if bt111.1 = 1 then (if bt113.1 = 3 then (if bt121.1 = 8 then (some (bt121.2.1 == 15)) else (none)) else (none)) else (none)) else (none)) else (none)) else (none)) else (none))) else (none)) else (none)) else (none)) else (none)) else (none)) else (none)) else (none)) else (none))))))) = some r := H
  have A3 := Aside0.mk A30
  clear A30
  replace H := Option.bind_eq_some_iff.mp H
  obtain ⟨⟨t109, t110⟩, A40, H⟩ := H
  replace H : ((residue_Jacobi.f k 2 15).bind fun bt111 => ((residue_SquareRoot.f k 2 7).bind fun bt113 => ((residue_Chinese.f k (([2, 3] : List Int)) (([3, 5] : List Int))).bind fun bt121 => ((residue_PrimitiveRoot.f k 8).bind fun bt124 => (if t102 = 0 then (if t106 = 0 then (if t108 = 0 then (if t110 = 0 then (if bt111.2 = 0 then (if bt113.2 = 0 then (if bt121.2.2 = 0 then (if bt124.2 = 10 then ((galoislaw04_samePowers.f k t101 (([(⟨2, 3⟩ : S53), (⟨3, 2⟩ : S53), (⟨5, 1⟩ : S53)] : List (S53)))).bind fun t129 => (if t129 = true then (if t105 = 12 then (if t107 = 3 then (if t109 = 3 then (if bt111.1 = 1 then (if bt113.1 = 3 then (if bt121.1 = 8 then (some (bt121.2.1 == 15)) else (none)) else (none)) else (none)) else (none)) else (none)) else (none)) else (none))) else (none)) else (none)) else (none)) else (none)) else (none)) else (none)) else (none)) else (none)))))) = some r := H
  have A4 := Aside0.mk A40
  clear A40
  replace H := Option.bind_eq_some_iff.mp H
  obtain ⟨⟨t111, t112⟩, A50, H⟩ := H
  replace H : ((residue_SquareRoot.f k 2 7).bind fun bt113 => ((residue_Chinese.f k (([2, 3] : List Int)) (([3, 5] : List Int))).bind fun bt121 => ((residue_PrimitiveRoot.f k 8).bind fun bt124 => (if t102 = 0 then (if t106 = 0 then (if t108 = 0 then (if t110 = 0 then (if t112 = 0 then (if bt113.2 = 0 then (if bt121.2.2 = 0 then (if bt124.2 = 10 then ((galoislaw04_samePowers.f k t101 (([(⟨2, 3⟩ : S53), (⟨3, 2⟩ : S53), (⟨5, 1⟩ : S53)] : List (S53)))).bind fun t129 => (if t129 = true then (if t105 = 12 then (if t107 = 3 then (if t109 = 3 then (if t111 = 1 then (if bt113.1 = 3 then (if bt121.1 = 8 then (some (bt121.2.1 == 15)) else (none)) else (none)) else (none)) else (none)) else (none)) else (none)) else (none))) else (none)) else (none)) else (none)) else (none)) else (none)) else (none)) else (none)) else (none))))) = some r := H
  have A5 := Aside0.mk A50
  clear A50
  replace H := Option.bind_eq_some_iff.mp H
  obtain ⟨⟨t113, t114⟩, A60, H⟩ := H
  replace H : ((residue_Chinese.f k (([2, 3] : List Int)) (([3, 5] : List Int))).bind fun bt121 => ((residue_PrimitiveRoot.f k 8).bind fun bt124 => (if t102 = 0 then (if t106 = 0 then (if t108 = 0 then (if t110 = 0 then (if t112 = 0 then (if t114 = 0 then (if bt121.2.2 = 0 then (if bt124.2 = 10 then ((galoislaw04_samePowers.f k t101 (([(⟨2, 3⟩ : S53), (⟨3, 2⟩ : S53), (⟨5, 1⟩ : S53)] : List (S53)))).bind fun t129 => (if t129 = true then (if t105 = 12 then (if t107 = 3 then (if t109 = 3 then (if t111 = 1 then (if t113 = 3 then (if bt121.1 = 8 then (some (bt121.2.1 == 15)) else (none)) else (none)) else (none)) else (none)) else (none)) else (none)) else (none))) else (none)) else (none)) else (none)) else (none)) else (none)) else (none)) else (none)) else (none)))) = some r := H
  have A6 := Aside0.mk A60
  clear A60
  obtain ⟨y115, hy115⟩ : ∃ y_ : List Int, y_ = (([2, 3] : List Int)) := ⟨_, rfl⟩
  replace H : ((residue_Chinese.f k y115 (([3, 5] : List Int))).bind fun bt121 => ((residue_PrimitiveRoot.f k 8).bind fun bt124 => (if t102 = 0 then (if t106 = 0 then (if t108 = 0 then (if t110 = 0 then (if t112 = 0 then (if t114 = 0 then (if bt121.2.2 = 0 then (if bt124.2 = 10 then ((galoislaw04_samePowers.f k t101 (([(⟨2, 3⟩ : S53), (⟨3, 2⟩ : S53), (⟨5, 1⟩ : S53)] : List (S53)))).bind fun t129 => (if t129 = true then (if t105 = 12 then (if t107 = 3 then (if t109 = 3 then (if t111 = 1 then (if t113 = 3 then (if bt121.1 = 8 then (some (bt121.2.1 == 15)) else (none)) else (none)) else (none)) else (none)) else (none)) else (none)) else (none))) else (none)) else (none)) else (none)) else (none)) else (none)) else (none)) else (none)) else (none)))) = some r := by first | (rw [hy115]; with_reducible exact H) | (have H2_ := (Option.bind_some _ _).symm.trans H; rw [hy115]; with_reducible exact H2_) | (have H2_ := (Option.bind_some _ _).symm.trans H; with_reducible exact H2_) | with_reducible exact H | (rw [hy115]; exact H) | exact H
  have Ny115 := Aside0.mk hy115
  clear hy115
  obtain ⟨y118, hy118⟩ : ∃ y_ : List Int, y_ = (([3, 5] : List Int)) := ⟨_, rfl⟩
  replace H : ((residue_Chinese.f k y115 y118).bind fun bt121 => ((residue_PrimitiveRoot.f k 8).bind fun bt124 => (if t102 = 0 then (if t106 = 0 then (if t108 = 0 then (if t110 = 0 then (if t112 = 0 then (if t114 = 0 then (if bt121.2.2 = 0 then (if bt124.2 = 10 then ((galoislaw04_samePowers.f k t101 (([(⟨2, 3⟩ : S53), (⟨3, 2⟩ : S53), (⟨5, 1⟩ : S53)] : List (S53)))).bind fun t129 => (if t129 = true then (if t105 = 12 then (if t107 = 3 then (if t109 = 3 then (if t111 = 1 then (if t113 = 3 then (if bt121.1 = 8 then (some (bt121.2.1 == 15)) else (none)) else (none)) else (none)) else (none)) else (none)) else (none)) else (none))) else (none)) else (none)) else (none)) else (none)) else (none)) else (none)) else (none)) else (none)))) = some r := by first | (rw [hy118]; with_reducible exact H) | (have H2_ := (Option.bind_some _ _).symm.trans H; rw [hy118]; with_reducible exact H2_) | (have H2_ := (Option.bind_some _ _).symm.trans H; with_reducible exact H2_) | with_reducible exact H | (rw [hy118]; exact H) | exact H
  have Ny118 := Aside0.mk hy118
  clear hy118
  replace H := Option.bind_eq_some_iff.mp H
  obtain ⟨⟨t121, t122, t123⟩, A70, H⟩ := H
  replace H : ((residue_PrimitiveRoot.f k 8).bind fun bt124 => (if t102 = 0 then (if t106 = 0 then (if t108 = 0 then (if t110 = 0 then (if t112 = 0 then (if t114 = 0 then (if t123 = 0 then (if bt124.2 = 10 then ((galoislaw04_samePowers.f k t101 (([(⟨2, 3⟩ : S53), (⟨3, 2⟩ : S53), (⟨5, 1⟩ : S53)] : List (S53)))).bind fun t129 => (if t129 = true then (if t105 = 12 then (if t107 = 3 then (if t109 = 3 then (if t111 = 1 then (if t113 = 3 then (if t121 = 8 then (some (t122 == 15)) else (none)) else (none)) else (none)) else (none)) else (none)) else (none)) else (none))) else (none)) else (none)) else (none)) else (none)) else (none)) else (none)) else (none)) else (none))) = some r := H
  have A7 := Aside0.mk A70
  clear A70
  replace H := Option.bind_eq_some_iff.mp H
  obtain ⟨⟨t124, t125⟩, A80, H⟩ := H
  replace H : (if t102 = 0 then (if t106 = 0 then (if t108 = 0 then (if t110 = 0 then (if t112 = 0 then (if t114 = 0 then (if t123 = 0 then (if t125 = 10 then ((galoislaw04_samePowers.f k t101 (([(⟨2, 3⟩ : S53), (⟨3, 2⟩ : S53), (⟨5, 1⟩ : S53)] : List (S53)))).bind fun t129 => (if t129 = true then (if t105 = 12 then (if t107 = 3 then (if t109 = 3 then (if t111 = 1 then (if t113 = 3 then (if t121 = 8 then (some (t122 == 15)) else (none)) else (none)) else (none)) else (none)) else (none)) else (none)) else (none))) else (none)) else (none)) else (none)) else (none)) else (none)) else (none)) else (none)) else (none)) = some r := H
  have A8 := Aside0.mk A80
  clear A80
  by_cases c9 : t102 = 0
  · rw [if_pos c9] at H
    have c9b0 : (t102 == 0) = true := beq_iff_eq.mpr c9
    have c9b1 : (t102 != 0) = false := bne_eq_false_iff_eq.mpr c9
    clear c9
    by_cases c10 : t106 = 0
    · rw [if_pos c10] at H
      have c10b0 : (t106 == 0) = true := beq_iff_eq.mpr c10
      have c10b1 : (t106 != 0) = false := bne_eq_false_iff_eq.mpr c10
      clear c10
      by_cases c11 : t108 = 0
      · rw [if_pos c11] at H
        have c11b0 : (t108 == 0) = true := beq_iff_eq.mpr c11
        have c11b1 : (t108 != 0) = false := bne_eq_false_iff_eq.mpr c11
        clear c11
        by_cases c12 : t110 = 0
        · rw [if_pos c12] at H
          have c12b0 : (t110 == 0) = true := beq_iff_eq.mpr c12
          have c12b1 : (t110 != 0) = false := bne_eq_false_iff_eq.mpr c12
          clear c12
          by_cases c13 : t112 = 0
          · rw [if_pos c13] at H
            have c13b0 : (t112 == 0) = true := beq_iff_eq.mpr c13
            have c13b1 : (t112 != 0) = false := bne_eq_false_iff_eq.mpr c13
            clear c13
            by_cases c14 : t114 = 0
            · rw [if_pos c14] at H
              have c14b0 : (t114 == 0) = true := beq_iff_eq.mpr c14
              have c14b1 : (t114 != 0) = false := bne_eq_false_iff_eq.mpr c14
              clear c14
              by_cases c15 : t123 = 0
              · rw [if_pos c15] at H
                have c15b0 : (t123 == 0) = true := beq_iff_eq.mpr c15
                have c15b1 : (t123 != 0) = false := bne_eq_false_iff_eq.mpr c15
                clear c15
                by_cases c16 : t125 = 10
                · rw [if_pos c16] at H
                  have c16b0 : (t125 == 10) = true := beq_iff_eq.mpr c16
                  have c16b1 : (t125 != 10) = false := bne_eq_false_iff_eq.mpr c16
                  clear c16
                  obtain ⟨y126, hy126⟩ : ∃ y_ : List (S53), y_ = (([(⟨2, 3⟩ : S53), (⟨3, 2⟩ : S53), (⟨5, 1⟩ : S53)] : List (S53))) := ⟨_, rfl⟩
                  replace H : ((galoislaw04_samePowers.f k t101 y126).bind fun t129 => (if t129 = true then (if t105 = 12 then (if t107 = 3 then (if t109 = 3 then (if t111 = 1 then (if t113 = 3 then (if t121 = 8 then (some (t122 == 15)) else (none)) else (none)) else (none)) else (none)) else (none)) else (none)) else (none))) = some r := by first | (rw [hy126]; with_reducible exact H) | (have H2_ := (Option.bind_some _ _).symm.trans H; rw [hy126]; with_reducible exact H2_) | (have H2_ := (Option.bind_some _ _).symm.trans H; with_reducible exact H2_) | with_reducible exact H | (rw [hy126]; exact H) | exact H
                  have Ny126 := Aside0.mk hy126
                  clear hy126
                  replace H := Option.bind_eq_some_iff.mp H
                  obtain ⟨t129, A170, H⟩ := H
                  replace H : (if t129 = true then (if t105 = 12 then (if t107 = 3 then (if t109 = 3 then (if t111 = 1 then (if t113 = 3 then (if t121 = 8 then (some (t122 == 15)) else (none)) else (none)) else (none)) else (none)) else (none)) else (none)) else (none)) = some r := H
                  have A17 := Aside0.mk A170
                  clear A170
                  by_cases c18 : t129 = true
                  · subst c18
                    have H1 : (if t105 = 12 then (if t107 = 3 then (if t109 = 3 then (if t111 = 1 then (if t113 = 3 then (if t121 = 8 then (some (t122 == 15)) else (none)) else (none)) else (none)) else (none)) else (none)) else (none)) = some r := by rw [if_pos rfl] at H; exact H
                    clear H
                    have H := H1
                    clear H1
                    by_cases c19 : t105 = 12
                    · rw [if_pos c19] at H
                      have c19b0 : (t105 == 12) = true := beq_iff_eq.mpr c19
                      have c19b1 : (t105 != 12) = false := bne_eq_false_iff_eq.mpr c19
                      clear c19
                      by_cases c20 : t107 = 3
                      · rw [if_pos c20] at H
                        have c20b0 : (t107 == 3) = true := beq_iff_eq.mpr c20
                        have c20b1 : (t107 != 3) = false := bne_eq_false_iff_eq.mpr c20
                        clear c20
                        by_cases c21 : t109 = 3
                        · rw [if_pos c21] at H
                          have c21b0 : (t109 == 3) = true := beq_iff_eq.mpr c21
                          have c21b1 : (t109 != 3) = false := bne_eq_false_iff_eq.mpr c21
                          clear c21
                          by_cases c22 : t111 = 1
                          · rw [if_pos c22] at H
                            have c22b0 : (t111 == 1) = true := beq_iff_eq.mpr c22
                            have c22b1 : (t111 != 1) = false := bne_eq_false_iff_eq.mpr c22
                            clear c22
                            by_cases c23 : t113 = 3
                            · rw [if_pos c23] at H
                              have c23b0 : (t113 == 3) = true := beq_iff_eq.mpr c23
                              have c23b1 : (t113 != 3) = false := bne_eq_false_iff_eq.mpr c23
                              clear c23
                              by_cases c24 : t121 = 8
                              · rw [if_pos c24] at H
                                have c24b0 : (t121 == 8) = true := beq_iff_eq.mpr c24
                                have c24b1 : (t121 != 8) = false := bne_eq_false_iff_eq.mpr c24
                                clear c24
                                obtain rfl := Option.some.inj H
                                go_enter Try.func14, Try.ntmps14
                                go_wp2_with (first | ((with_reducible refine gate_callee (f := 38) rfl ?_); refine goesL_ (some 19) rfl rfl Try.func38 (by kernel_rfl) rfl #[.int .i64 360] rfl (by (try simp only [List.map_toArray, List.map_cons, List.map_nil]); first | done | rfl | (simp only [List.length_drop, List.length_take]; rfl)) ?_; (with_reducible refine (residue_Factor.calls k 360 t101 t102 _ A1.out).mono ?_); rintro e w25 ⟨v103, rfl, ho0, hb⟩; refine ⟨_, rfl, ?_⟩; have n0_ := Aside0.mk (Kd.R_lower ho0 (below_size (by repeat (first | (with_reducible first | exact HB.out | apply below_alloc | apply pw_below_drewN | apply below_drew1) | exact HB.out)))); have n1_ := Aside0.mk (below_step (by repeat (first | (with_reducible first | exact HB.out | apply below_alloc | apply pw_below_drewN | apply below_drew1) | exact HB.out)) hb); clear HB; have HO104 := n0_; have HB := n1_; clear n0_ n1_; (try clear hb); (try clear hb2); (try clear hk); (try clear hi); (try clear ho0)) | ((with_reducible refine gate_callee (f := 37) rfl ?_); refine goesL_ (some 23) rfl rfl Try.func37 (by kernel_rfl) rfl #[.int .i64 36] rfl (by (try simp only [List.map_toArray, List.map_cons, List.map_nil]); first | done | rfl | (simp only [List.length_drop, List.length_take]; rfl)) ?_; (with_reducible refine (residue_Totient.calls k 36 t105 t106 _ A2.out).mono ?_); rintro e w26 ⟨rfl, hb⟩; refine ⟨_, rfl, ?_⟩; have n0_ := Aside0.mk (Kd.R_below (by (with_reducible repeat (first | apply Kd.R_alloc | apply Kd.R_drewN | apply Kd.R_drew)); exact HO104.out) hb); have n1_ := Aside0.mk (below_step (by repeat (first | (with_reducible first | exact HB.out | apply below_alloc | apply pw_below_drewN | apply below_drew1) | exact HB.out)) hb); clear HO104; clear HB; have HO104 := n0_; have HB := n1_; clear n0_ n1_; (try clear hb); (try clear hb2); (try clear hk); (try clear hi)) | ((with_reducible refine gate_callee (f := 16) rfl ?_); refine goesL_ (some 27) rfl rfl Try.func16 (by kernel_rfl) rfl #[.int .i64 2, .int .i64 7] rfl (by (try simp only [List.map_toArray, List.map_cons, List.map_nil]); first | done | rfl | (simp only [List.length_drop, List.length_take]; rfl)) ?_; (with_reducible refine (residue_Order.calls k 2 7 t107 t108 _ A3.out).mono ?_); rintro e w27 ⟨rfl, hb⟩; refine ⟨_, rfl, ?_⟩; have n0_ := Aside0.mk (Kd.R_below (by (with_reducible repeat (first | apply Kd.R_alloc | apply Kd.R_drewN | apply Kd.R_drew)); exact HO104.out) hb); have n1_ := Aside0.mk (below_step (by repeat (first | (with_reducible first | exact HB.out | apply below_alloc | apply pw_below_drewN | apply below_drew1) | exact HB.out)) hb); clear HO104; clear HB; have HO104 := n0_; have HB := n1_; clear n0_ n1_; (try clear hb); (try clear hb2); (try clear hk); (try clear hi)) | ((with_reducible refine gate_callee (f := 17) rfl ?_); refine goesL_ (some 31) rfl rfl Try.func17 (by kernel_rfl) rfl #[.int .i64 7] rfl (by (try simp only [List.map_toArray, List.map_cons, List.map_nil]); first | done | rfl | (simp only [List.length_drop, List.length_take]; rfl)) ?_; (with_reducible refine (residue_PrimitiveRoot.calls k 7 t109 t110 _ A4.out).mono ?_); rintro e w28 ⟨rfl, hb⟩; refine ⟨_, rfl, ?_⟩; have n0_ := Aside0.mk (Kd.R_below (by (with_reducible repeat (first | apply Kd.R_alloc | apply Kd.R_drewN | apply Kd.R_drew)); exact HO104.out) hb); have n1_ := Aside0.mk (below_step (by repeat (first | (with_reducible first | exact HB.out | apply below_alloc | apply pw_below_drewN | apply below_drew1) | exact HB.out)) hb); clear HO104; clear HB; have HO104 := n0_; have HB := n1_; clear n0_ n1_; (try clear hb); (try clear hb2); (try clear hk); (try clear hi)) | ((with_reducible refine gate_callee (f := 25) rfl ?_); refine goesL_ (some 35) rfl rfl Try.func25 (by kernel_rfl) rfl #[.int .i64 2, .int .i64 15] rfl (by (try simp only [List.map_toArray, List.map_cons, List.map_nil]); first | done | rfl | (simp only [List.length_drop, List.length_take]; rfl)) ?_; (with_reducible refine (residue_Jacobi.calls k 2 15 t111 t112 _ A5.out).mono ?_); rintro e w29 ⟨rfl, hb⟩; refine ⟨_, rfl, ?_⟩; have n0_ := Aside0.mk (Kd.R_below (by (with_reducible repeat (first | apply Kd.R_alloc | apply Kd.R_drewN | apply Kd.R_drew)); exact HO104.out) hb); have n1_ := Aside0.mk (below_step (by repeat (first | (with_reducible first | exact HB.out | apply below_alloc | apply pw_below_drewN | apply below_drew1) | exact HB.out)) hb); clear HO104; clear HB; have HO104 := n0_; have HB := n1_; clear n0_ n1_; (try clear hb); (try clear hb2); (try clear hk); (try clear hi)) | ((with_reducible refine gate_callee (f := 28) rfl ?_); refine goesL_ (some 39) rfl rfl Try.func28 (by kernel_rfl) rfl #[.int .i64 2, .int .i64 7] rfl (by (try simp only [List.map_toArray, List.map_cons, List.map_nil]); first | done | rfl | (simp only [List.length_drop, List.length_take]; rfl)) ?_; (with_reducible refine (residue_SquareRoot.calls k 2 7 t113 t114 _ A6.out).mono ?_); rintro e w30 ⟨rfl, hb⟩; refine ⟨_, rfl, ?_⟩; have n0_ := Aside0.mk (Kd.R_below (by (with_reducible repeat (first | apply Kd.R_alloc | apply Kd.R_drewN | apply Kd.R_drew)); exact HO104.out) hb); have n1_ := Aside0.mk (below_step (by repeat (first | (with_reducible first | exact HB.out | apply below_alloc | apply pw_below_drewN | apply below_drew1) | exact HB.out)) hb); clear HO104; clear HB; have HO104 := n0_; have HB := n1_; clear n0_ n1_; (try clear hb); (try clear hb2); (try clear hk); (try clear hi)) | ((with_reducible refine gate_dst (N := 43) rfl ?_); refine Kd.R_lit (Kd.int .i64) _ 3 ?hg (N := 43) ?hd (xs := ([2, 3] : List Int)) (inner := [.int .i64 2, .int .i64 3]) (ok := fun _ => True) (okp := fun _ => True) ?hr ?hp (fun _ hk => hk) trivial (Below.refl _ _) (Nat.le_refl _) (by simp) ?_; (case hd => rfl); (case hg => rfl); (case hr => first | (go_simp; done) | (go_simp; rfl)); (case hp => exact (Reps.one (show Kd.M (Kd.int .i64) _ _ _ 2 [.int .i64 2] from rfl) (Reps.one (show Kd.M (Kd.int .i64) _ _ _ 3 [.int .i64 3] from rfl) (Reps.none _ _)))); intro v116 w31 ho32 hb hg_ hnew_; clear hg_ hnew_; (first | rw [← Ny115.out] at ho32 | (simp only [Int.reduceToNat] at ho32; rw [← Ny115.out] at ho32)); have n0_ := Aside0.mk (Kd.R_below (by (with_reducible repeat (first | apply Kd.R_alloc | apply Kd.R_drewN | apply Kd.R_drew)); exact HO104.out) hb); have n1_ := Aside0.mk (Kd.R_lower ho32 (below_size (by repeat (first | (with_reducible first | exact HB.out | apply below_alloc | apply pw_below_drewN | apply below_drew1) | exact HB.out)))); have n2_ := Aside0.mk (below_step (by repeat (first | (with_reducible first | exact HB.out | apply below_alloc | apply pw_below_drewN | apply below_drew1) | exact HB.out)) hb); clear HO104; clear HB; have HO104 := n0_; have HO117 := n1_; have HB := n2_; clear n0_ n1_ n2_; clear hb ho32) | ((with_reducible refine gate_dst (N := 44) rfl ?_); refine Kd.R_lit (Kd.int .i64) _ 3 ?hg (N := 44) ?hd (xs := ([3, 5] : List Int)) (inner := [.int .i64 3, .int .i64 5]) (ok := fun _ => True) (okp := fun _ => True) ?hr ?hp (fun _ hk => hk) trivial (Below.refl _ _) (Nat.le_refl _) (by simp) ?_; (case hd => rfl); (case hg => rfl); (case hr => first | (go_simp; done) | (go_simp; rfl)); (case hp => exact (Reps.one (show Kd.M (Kd.int .i64) _ _ _ 3 [.int .i64 3] from rfl) (Reps.one (show Kd.M (Kd.int .i64) _ _ _ 5 [.int .i64 5] from rfl) (Reps.none _ _)))); intro v119 w33 ho34 hb hg_ hnew_; clear hg_ hnew_; (first | rw [← Ny118.out] at ho34 | (simp only [Int.reduceToNat] at ho34; rw [← Ny118.out] at ho34)); have n0_ := Aside0.mk (Kd.R_below (by (with_reducible repeat (first | apply Kd.R_alloc | apply Kd.R_drewN | apply Kd.R_drew)); exact HO104.out) hb); have n1_ := Aside0.mk (Kd.R_elder' (by (with_reducible repeat (first | apply Kd.R_alloc | apply Kd.R_drewN | apply Kd.R_drew)); exact HO117.out) (Kd.R_base ho34) hb); have n2_ := Aside0.mk (Kd.R_lower (Kd.R_new' ho34 (Kd.R_lt (by (with_reducible repeat (first | apply Kd.R_alloc | apply Kd.R_drewN | apply Kd.R_drew)); exact HO117.out))) (below_size (by repeat (first | (with_reducible first | exact HB.out | apply below_alloc | apply pw_below_drewN | apply below_drew1) | exact HB.out)))); have n3_ := Aside0.mk (below_step (by repeat (first | (with_reducible first | exact HB.out | apply below_alloc | apply pw_below_drewN | apply below_drew1) | exact HB.out)) hb); clear HO104; clear HO117; clear HB; have HO104 := n0_; have HO117 := n1_; have HO120 := n2_; have HB := n3_; clear n0_ n1_ n2_ n3_; clear hb ho34; obtain ⟨Ao35, co35, eo35⟩ := Kd.R_slice HO117.out; subst eo35; obtain ⟨Ao36, co36, eo36⟩ := Kd.R_slice HO120.out; subst eo36) | ((with_reducible refine gate_callee (f := 22) rfl ?_); refine goesL_ (some 45) rfl rfl Try.func22 (by kernel_rfl) rfl #[.slice Ao35 y115.length co35, .slice Ao36 y118.length co36] rfl (by (try simp only [List.map_toArray, List.map_cons, List.map_nil]); first | done | rfl | (simp only [List.length_drop, List.length_take]; rfl)) ?_; (with_reducible refine (residue_Chinese.calls k _ _ y115 _ _ y118 t121 t122 t123 _ ?side1 ?side2 ?side3 ?side4 A7.out).mono ?_); (case side1 => repeat (first | exact (Kd.R_reads' HO117.out).2.2 | (with_reducible refine Kd.C_alloc ?_ _) | (with_reducible refine Kd.C_drewN ?_ _) | (with_reducible refine Kd.C_drew ?_))); (case side2 => exact (Kd.R_reads' HO117.out).2.1); (case side3 => repeat (first | exact (Kd.R_reads' HO120.out).2.2 | (with_reducible refine Kd.C_alloc ?_ _) | (with_reducible refine Kd.C_drewN ?_ _) | (with_reducible refine Kd.C_drew ?_))); (case side4 => exact (Kd.R_reads' HO120.out).2.1); rintro e w37 ⟨rfl, hb⟩; refine ⟨_, rfl, ?_⟩; have n0_ := Aside0.mk (Kd.R_below (by (with_reducible repeat (first | apply Kd.R_alloc | apply Kd.R_drewN | apply Kd.R_drew)); exact HO104.out) hb); have n1_ := Aside0.mk (Kd.R_below (by (with_reducible repeat (first | apply Kd.R_alloc | apply Kd.R_drewN | apply Kd.R_drew)); exact HO117.out) hb); have n2_ := Aside0.mk (Kd.R_below (by (with_reducible repeat (first | apply Kd.R_alloc | apply Kd.R_drewN | apply Kd.R_drew)); exact HO120.out) hb); have n3_ := Aside0.mk (below_step (by repeat (first | (with_reducible first | exact HB.out | apply below_alloc | apply pw_below_drewN | apply below_drew1) | exact HB.out)) hb); clear HO104; clear HO117; clear HO120; clear HB; have HO104 := n0_; have HO117 := n1_; have HO120 := n2_; have HB := n3_; clear n0_ n1_ n2_ n3_; (try clear hb); (try clear hb2); (try clear hk); (try clear hi)) | ((with_reducible refine gate_callee (f := 17) rfl ?_); refine goesL_ (some 50) rfl rfl Try.func17 (by kernel_rfl) rfl #[.int .i64 8] rfl (by (try simp only [List.map_toArray, List.map_cons, List.map_nil]); first | done | rfl | (simp only [List.length_drop, List.length_take]; rfl)) ?_; (with_reducible refine (residue_PrimitiveRoot.calls k 8 t124 t125 _ A8.out).mono ?_); rintro e w38 ⟨rfl, hb⟩; refine ⟨_, rfl, ?_⟩; have n0_ := Aside0.mk (Kd.R_below (by (with_reducible repeat (first | apply Kd.R_alloc | apply Kd.R_drewN | apply Kd.R_drew)); exact HO104.out) hb); have n1_ := Aside0.mk (Kd.R_below (by (with_reducible repeat (first | apply Kd.R_alloc | apply Kd.R_drewN | apply Kd.R_drew)); exact HO117.out) hb); have n2_ := Aside0.mk (Kd.R_below (by (with_reducible repeat (first | apply Kd.R_alloc | apply Kd.R_drewN | apply Kd.R_drew)); exact HO120.out) hb); have n3_ := Aside0.mk (below_step (by repeat (first | (with_reducible first | exact HB.out | apply below_alloc | apply pw_below_drewN | apply below_drew1) | exact HB.out)) hb); clear HO104; clear HO117; clear HO120; clear HB; have HO104 := n0_; have HO117 := n1_; have HO120 := n2_; have HB := n3_; clear n0_ n1_ n2_ n3_; (try clear hb); (try clear hb2); (try clear hk); (try clear hi)) | ((with_reducible refine gate_dst (N := 87) rfl ?_); refine Kd.R_lit k53 _ 53 ?hg (N := 87) ?hd (xs := ([(⟨2, 3⟩ : S53), (⟨3, 2⟩ : S53), (⟨5, 1⟩ : S53)] : List (S53))) (inner := [.int .i64 2, .int .i64 3, .int .i64 3, .int .i64 2, .int .i64 5, .int .i64 1]) (ok := fun _ => True) (okp := fun _ => True) ?hr ?hp (fun _ hk => hk) trivial (Below.refl _ _) (Nat.le_refl _) (by simp) ?_; (case hd => rfl); (case hg => rfl); (case hr => first | (go_simp; done) | (go_simp; rfl)); (case hp => exact (Reps.c2 (show Kd.M k53 _ _ _ (⟨2, 3⟩ : S53) [.int .i64 2, .int .i64 3] from (k53_mkM _ _ _ (⟨2, 3⟩ : S53) )) (Reps.c2 (show Kd.M k53 _ _ _ (⟨3, 2⟩ : S53) [.int .i64 3, .int .i64 2] from (k53_mkM _ _ _ (⟨3, 2⟩ : S53) )) (Reps.c2 (show Kd.M k53 _ _ _ (⟨5, 1⟩ : S53) [.int .i64 5, .int .i64 1] from (k53_mkM _ _ _ (⟨5, 1⟩ : S53) )) (Reps.none _ _))))); intro v127 w39 ho40 hb hg_ hnew_; clear hg_ hnew_; (first | rw [← Ny126.out] at ho40 | (simp only [Int.reduceToNat] at ho40; rw [← Ny126.out] at ho40)); have n0_ := Aside0.mk (Kd.R_elder' (by (with_reducible repeat (first | apply Kd.R_alloc | apply Kd.R_drewN | apply Kd.R_drew)); exact HO104.out) (Kd.R_base ho40) hb); have n1_ := Aside0.mk (Kd.R_below (by (with_reducible repeat (first | apply Kd.R_alloc | apply Kd.R_drewN | apply Kd.R_drew)); exact HO117.out) hb); have n2_ := Aside0.mk (Kd.R_below (by (with_reducible repeat (first | apply Kd.R_alloc | apply Kd.R_drewN | apply Kd.R_drew)); exact HO120.out) hb); have n3_ := Aside0.mk (Kd.R_lower (Kd.R_new' ho40 (Kd.R_lt (by (with_reducible repeat (first | apply Kd.R_alloc | apply Kd.R_drewN | apply Kd.R_drew)); exact HO104.out))) (below_size (by repeat (first | (with_reducible first | exact HB.out | apply below_alloc | apply pw_below_drewN | apply below_drew1) | exact HB.out)))); have n4_ := Aside0.mk (below_step (by repeat (first | (with_reducible first | exact HB.out | apply below_alloc | apply pw_below_drewN | apply below_drew1) | exact HB.out)) hb); clear HO104; clear HO117; clear HO120; clear HB; have HO104 := n0_; have HO117 := n1_; have HO120 := n2_; have HO128 := n3_; have HB := n4_; clear n0_ n1_ n2_ n3_ n4_; clear hb ho40; obtain ⟨Ao41, co41, eo41⟩ := Kd.R_slice HO104.out; subst eo41; obtain ⟨Ao42, co42, eo42⟩ := Kd.R_slice HO128.out; subst eo42) | ((with_reducible refine gate_callee (f := 48) rfl ?_); refine goesL_ (some 88) rfl rfl Try.func48 (by kernel_rfl) rfl #[.slice Ao41 t101.length co41, .slice Ao42 y126.length co42] rfl (by (try simp only [List.map_toArray, List.map_cons, List.map_nil]); first | done | rfl | (simp only [List.length_drop, List.length_take]; rfl)) ?_; (with_reducible refine (galoislaw04_samePowers.calls k _ _ t101 _ _ y126 true _ ?side1 ?side2 ?side3 ?side4 A17.out).mono ?_); (case side1 => repeat (first | exact (Kd.R_reads' HO104.out).2.2 | (with_reducible refine Kd.C_alloc ?_ _) | (with_reducible refine Kd.C_drewN ?_ _) | (with_reducible refine Kd.C_drew ?_))); (case side2 => exact (Kd.R_reads' HO104.out).2.1); (case side3 => repeat (first | exact (Kd.R_reads' HO128.out).2.2 | (with_reducible refine Kd.C_alloc ?_ _) | (with_reducible refine Kd.C_drewN ?_ _) | (with_reducible refine Kd.C_drew ?_))); (case side4 => exact (Kd.R_reads' HO128.out).2.1); rintro e w' ⟨rfl, ⟨nd, rfl⟩⟩; refine ⟨_, rfl, ?_⟩))
                                go_ret
                                exact ⟨by first | rfl | (simp [errW_none, errW_some] <;> rfl) | (simp [*, errW_none, errW_some] <;> rfl), by repeat (first | (with_reducible first | exact HB.out | apply below_alloc | apply pw_below_drewN | apply below_drew1) | exact HB.out)⟩
                              · rw [if_neg c24] at H
                                exact absurd H (by simp)
                            · rw [if_neg c23] at H
                              exact absurd H (by simp)
                          · rw [if_neg c22] at H
                            exact absurd H (by simp)
                        · rw [if_neg c21] at H
                          exact absurd H (by simp)
                      · rw [if_neg c20] at H
                        exact absurd H (by simp)
                    · rw [if_neg c19] at H
                      exact absurd H (by simp)
                  · replace c18 := Bool.eq_false_iff.mpr c18
                    subst c18
                    have H1 : (none) = some r := by rw [if_neg (show ¬ (false = true) by decide)] at H; exact H
                    clear H
                    have H := H1
                    clear H1
                    exact absurd H (by simp)
                · rw [if_neg c16] at H
                  exact absurd H (by simp)
              · rw [if_neg c15] at H
                exact absurd H (by simp)
            · rw [if_neg c14] at H
              exact absurd H (by simp)
          · rw [if_neg c13] at H
            exact absurd H (by simp)
        · rw [if_neg c12] at H
          exact absurd H (by simp)
      · rw [if_neg c11] at H
        exact absurd H (by simp)
    · rw [if_neg c10] at H
      exact absurd H (by simp)
  · rw [if_neg c9] at H
    exact absurd H (by simp)

end Go.Proofs.Ytmedflaejnbkoaa.Q

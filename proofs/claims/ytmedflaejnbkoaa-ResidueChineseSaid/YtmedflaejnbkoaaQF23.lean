/- Machine side: a program of the session wrote this text (the kit's print.py and the session's own contracts). Conditions: none of its own. -/
import Derived.Test.YtmedflaejnbkoaaQ0
import Derived.Test.YtmedflaejnbkoaaQF15
import Derived.Test.YtmedflaejnbkoaaQF24
import Derived.Test.YtmedflaejnbkoaaQF26
namespace Go.Proofs.Ytmedflaejnbkoaa.Q
open Go.RowKit Go.Proofs.YtmedflaejnbkoaaW.PrintWords Go.Proofs.YtmedflaejnbkoaaW.PrintLast Go.Proofs.YtmedflaejnbkoaaW.PrintMore
attribute [local go_sem] max2_int min2_int max_two min_two max_three min_three max_four min_four   -- for this text's walks alone
set_option linter.unusedVariables false
set_option linter.unusedSimpArgs false

/-! ### galoisref04_Chinese: function 23 -/
mutual
def galoisref04_Chinese.l0 : Nat → List Int → List Int → Int → Option (Int × Int × Int)
  | 0, _, _, _ => none
  | k + 1, x0, x1, x7 => if x7 < (x1.length : Int) then (if 0 ≤ x7 then ((galoisref04_IsModulus.f (rd x1 x7)).bind fun t102 => (if t102 = true then (galoisref04_Chinese.l0 k x0 x1 (wrap64 (x7 + 1))) else (some (0, 0, 3)))) else (none)) else (galoisref04_Chinese.l1 k x0 x1 0)
def galoisref04_Chinese.l1 : Nat → List Int → List Int → Int → Option (Int × Int × Int)
  | 0, _, _, _ => none
  | k + 1, x0, x1, x8 => if x8 < (x1.length : Int) then (galoisref04_Chinese.l2 k x0 x1 x8 0) else (galoisref04_Chinese.l3 k x0 x1 0 1 0)
def galoisref04_Chinese.l2 : Nat → List Int → List Int → Int → Int → Option (Int × Int × Int)
  | 0, _, _, _, _ => none
  | k + 1, x0, x1, x8, x9 => if x9 < x8 then (if 0 ≤ x8 then (if x8 < (x1.length : Int) then (if 0 ≤ x9 then (if x9 < (x1.length : Int) then ((galoisref04_Gcd.f k (rd x1 x8) (rd x1 x9)).bind fun t105 => (if x8 < (x0.length : Int) then ((galoisref04_Mod.f (rd x0 x8) t105).bind fun t107 => (if x9 < (x0.length : Int) then ((galoisref04_Mod.f (rd x0 x9) t105).bind fun t109 => (if t107 = t109 then (galoisref04_Chinese.l2 k x0 x1 x8 (wrap64 (x9 + 1))) else (some (0, 0, 10)))) else (none))) else (none))) else (none)) else (none)) else (none)) else (none)) else (galoisref04_Chinese.l1 k x0 x1 (wrap64 (x8 + 1)))
def galoisref04_Chinese.l3 : Nat → List Int → List Int → Int → Int → Int → Option (Int × Int × Int)
  | 0, _, _, _, _, _ => none
  | k + 1, x0, x1, x11, x12, x13 => if x13 < (x1.length : Int) then (if 0 ≤ x13 then ((galoisref04_Gcd.f k x12 (rd x1 x13)).bind fun t112 => (if t112 = 0 then (none) else (if (wrap64 (Int.tdiv (rd x1 x13) t112)) = 0 then (none) else (if x12 > (wrap64 (Int.tdiv (2147483647 : Int) (wrap64 (Int.tdiv (rd x1 x13) t112)))) then (some (0, 0, 4)) else (galoisref04_Chinese.l4 k x0 x1 x11 x12 x13 (wrap64 (Int.tdiv (rd x1 x13) t112))))))) else (none)) else (some (x11, x12, 0))
def galoisref04_Chinese.l4 : Nat → List Int → List Int → Int → Int → Int → Int → Option (Int × Int × Int)
  | 0, _, _, _, _, _, _ => none
  | k + 1, x0, x1, x11, x12, x13, x14 => if 0 ≤ x13 then (if x13 < (x1.length : Int) then (if (rd x1 x13) = 0 then (none) else (if x13 < (x0.length : Int) then ((galoisref04_Mod.f (rd x0 x13) (rd x1 x13)).bind fun t116 => (if (Int.tmod x11 (rd x1 x13)) = t116 then (galoisref04_Chinese.l3 k x0 x1 x11 (wrap64 (x12 * x14)) (wrap64 (x13 + 1))) else (galoisref04_Chinese.l4 k x0 x1 (wrap64 (x11 + x12)) x12 x13 x14))) else (none))) else (none)) else (none)
end
def galoisref04_Chinese.f (k : Nat) (l0 : List Int) (l1 : List Int) : Option (Int × Int × Int) := if (l0.length : Int) = (l1.length : Int) then (if (l0.length : Int) > 256 then (some (0, 0, 5)) else (galoisref04_Chinese.l0 k l0 l1 0)) else (some (0, 0, 2))
theorem galoisref04_Chinese.mono_l : ∀ k, (∀ y0 y1 y2, LeO (galoisref04_Chinese.l0 k y0 y1 y2) (galoisref04_Chinese.l0 (k + 1) y0 y1 y2)) ∧ (∀ y0 y1 y2, LeO (galoisref04_Chinese.l1 k y0 y1 y2) (galoisref04_Chinese.l1 (k + 1) y0 y1 y2)) ∧ (∀ y0 y1 y2 y3, LeO (galoisref04_Chinese.l2 k y0 y1 y2 y3) (galoisref04_Chinese.l2 (k + 1) y0 y1 y2 y3)) ∧ (∀ y0 y1 y2 y3 y4, LeO (galoisref04_Chinese.l3 k y0 y1 y2 y3 y4) (galoisref04_Chinese.l3 (k + 1) y0 y1 y2 y3 y4)) ∧ (∀ y0 y1 y2 y3 y4 y5, LeO (galoisref04_Chinese.l4 k y0 y1 y2 y3 y4 y5) (galoisref04_Chinese.l4 (k + 1) y0 y1 y2 y3 y4 y5))
  | 0 => ⟨fun _ _ _ r h => by simp [galoisref04_Chinese.l0] at h, fun _ _ _ r h => by simp [galoisref04_Chinese.l1] at h, fun _ _ _ _ r h => by simp [galoisref04_Chinese.l2] at h, fun _ _ _ _ _ r h => by simp [galoisref04_Chinese.l3] at h, fun _ _ _ _ _ _ r h => by simp [galoisref04_Chinese.l4] at h⟩
  | k + 1 => by
    obtain ⟨ih0, ih1, ih2, ih3, ih4⟩ := galoisref04_Chinese.mono_l k
    refine ⟨?_, ?_, ?_, ?_, ?_⟩
    · intro y0 y1 y2
      unfold galoisref04_Chinese.l0
      repeat' first
      | (with_reducible exact ih0 _ _ _)
      | (with_reducible exact ih1 _ _ _)
      | (with_reducible exact ih2 _ _ _ _)
      | (with_reducible exact ih3 _ _ _ _ _)
      | (with_reducible exact ih4 _ _ _ _ _ _)
      | (with_reducible exact galoisref04_Gcd.mono _ _ _)
      | (with_reducible exact LeO.refl _)
      | (with_reducible exact LeO.none _)
      | (with_reducible refine LeO.ite ?_ ?_)
      | (with_reducible refine LeO.bind ?_ (fun _ => ?_))
      | exact ih0 _ _ _
      | exact ih1 _ _ _
      | exact ih2 _ _ _ _
      | exact ih3 _ _ _ _ _
      | exact ih4 _ _ _ _ _ _
      | exact galoisref04_Gcd.mono _ _ _
      | exact LeO.none _
      | refine LeO.ite ?_ ?_
      | refine LeO.bind ?_ (fun _ => ?_)
    · intro y0 y1 y2
      unfold galoisref04_Chinese.l1
      repeat' first
      | (with_reducible exact ih0 _ _ _)
      | (with_reducible exact ih1 _ _ _)
      | (with_reducible exact ih2 _ _ _ _)
      | (with_reducible exact ih3 _ _ _ _ _)
      | (with_reducible exact ih4 _ _ _ _ _ _)
      | (with_reducible exact galoisref04_Gcd.mono _ _ _)
      | (with_reducible exact LeO.refl _)
      | (with_reducible exact LeO.none _)
      | (with_reducible refine LeO.ite ?_ ?_)
      | (with_reducible refine LeO.bind ?_ (fun _ => ?_))
      | exact ih0 _ _ _
      | exact ih1 _ _ _
      | exact ih2 _ _ _ _
      | exact ih3 _ _ _ _ _
      | exact ih4 _ _ _ _ _ _
      | exact galoisref04_Gcd.mono _ _ _
      | exact LeO.none _
      | refine LeO.ite ?_ ?_
      | refine LeO.bind ?_ (fun _ => ?_)
    · intro y0 y1 y2 y3
      unfold galoisref04_Chinese.l2
      repeat' first
      | (with_reducible exact ih0 _ _ _)
      | (with_reducible exact ih1 _ _ _)
      | (with_reducible exact ih2 _ _ _ _)
      | (with_reducible exact ih3 _ _ _ _ _)
      | (with_reducible exact ih4 _ _ _ _ _ _)
      | (with_reducible exact galoisref04_Gcd.mono _ _ _)
      | (with_reducible exact LeO.refl _)
      | (with_reducible exact LeO.none _)
      | (with_reducible refine LeO.ite ?_ ?_)
      | (with_reducible refine LeO.bind ?_ (fun _ => ?_))
      | exact ih0 _ _ _
      | exact ih1 _ _ _
      | exact ih2 _ _ _ _
      | exact ih3 _ _ _ _ _
      | exact ih4 _ _ _ _ _ _
      | exact galoisref04_Gcd.mono _ _ _
      | exact LeO.none _
      | refine LeO.ite ?_ ?_
      | refine LeO.bind ?_ (fun _ => ?_)
    · intro y0 y1 y2 y3 y4
      unfold galoisref04_Chinese.l3
      repeat' first
      | (with_reducible exact ih0 _ _ _)
      | (with_reducible exact ih1 _ _ _)
      | (with_reducible exact ih2 _ _ _ _)
      | (with_reducible exact ih3 _ _ _ _ _)
      | (with_reducible exact ih4 _ _ _ _ _ _)
      | (with_reducible exact galoisref04_Gcd.mono _ _ _)
      | (with_reducible exact LeO.refl _)
      | (with_reducible exact LeO.none _)
      | (with_reducible refine LeO.ite ?_ ?_)
      | (with_reducible refine LeO.bind ?_ (fun _ => ?_))
      | exact ih0 _ _ _
      | exact ih1 _ _ _
      | exact ih2 _ _ _ _
      | exact ih3 _ _ _ _ _
      | exact ih4 _ _ _ _ _ _
      | exact galoisref04_Gcd.mono _ _ _
      | exact LeO.none _
      | refine LeO.ite ?_ ?_
      | refine LeO.bind ?_ (fun _ => ?_)
    · intro y0 y1 y2 y3 y4 y5
      unfold galoisref04_Chinese.l4
      repeat' first
      | (with_reducible exact ih0 _ _ _)
      | (with_reducible exact ih1 _ _ _)
      | (with_reducible exact ih2 _ _ _ _)
      | (with_reducible exact ih3 _ _ _ _ _)
      | (with_reducible exact ih4 _ _ _ _ _ _)
      | (with_reducible exact galoisref04_Gcd.mono _ _ _)
      | (with_reducible exact LeO.refl _)
      | (with_reducible exact LeO.none _)
      | (with_reducible refine LeO.ite ?_ ?_)
      | (with_reducible refine LeO.bind ?_ (fun _ => ?_))
      | exact ih0 _ _ _
      | exact ih1 _ _ _
      | exact ih2 _ _ _ _
      | exact ih3 _ _ _ _ _
      | exact ih4 _ _ _ _ _ _
      | exact galoisref04_Gcd.mono _ _ _
      | exact LeO.none _
      | refine LeO.ite ?_ ?_
      | refine LeO.bind ?_ (fun _ => ?_)
theorem galoisref04_Chinese.mono : ∀ a0 a1 k, LeO (galoisref04_Chinese.f k a0 a1) (galoisref04_Chinese.f (k + 1) a0 a1) := by
  intro a0 a1 k
  obtain ⟨ih0, ih1, ih2, ih3, ih4⟩ := galoisref04_Chinese.mono_l k
  unfold galoisref04_Chinese.f
  repeat' first
      | (with_reducible exact ih0 _ _ _)
      | (with_reducible exact ih1 _ _ _)
      | (with_reducible exact ih2 _ _ _ _)
      | (with_reducible exact ih3 _ _ _ _ _)
      | (with_reducible exact ih4 _ _ _ _ _ _)
      | (with_reducible exact galoisref04_Gcd.mono _ _ _)
      | (with_reducible exact LeO.refl _)
      | (with_reducible exact LeO.none _)
      | (with_reducible refine LeO.ite ?_ ?_)
      | (with_reducible refine LeO.bind ?_ (fun _ => ?_))
      | exact ih0 _ _ _
      | exact ih1 _ _ _
      | exact ih2 _ _ _ _
      | exact ih3 _ _ _ _ _
      | exact ih4 _ _ _ _ _ _
      | exact galoisref04_Gcd.mono _ _ _
      | exact LeO.none _
      | refine LeO.ite ?_ ?_
      | refine LeO.bind ?_ (fun _ => ?_)
set_option maxHeartbeats 8000000 in
set_option maxRecDepth 100000 in
theorem galoisref04_Chinese.calls (k : Nat) (A0 : Option Addr) (c0 : Nat) (l0 : List Int) (A1 : Option Addr) (c1 : Nat) (l1 : List Int) (r1 : Int) (r2 : Int) (r3 : Int) (w : World) (hr0 : Kd.C (Kd.int .i64) w A0 l0.length l0) (hc0 : l0.length ≤ c0) (hr1 : Kd.C (Kd.int .i64) w A1 l1.length l1) (hc1 : l1.length ≤ c1) (h : galoisref04_Chinese.f k l0 l1 = some (r1, r2, r3)) :
    Calls Try.prog 23 #[.slice A0 l0.length c0, .slice A1 l1.length c1] w fun e w' => e = .returned (.tuple #[.int .i64 r1, .int .i64 r2, .int .i64 r3]) ∧ Drawn0 w w' := by
  have HR0 := Aside0.mk hr0
  have HC0 := Aside0.mk hc0
  clear hr0 hc0
  have HR1 := Aside0.mk hr1
  have HC1 := Aside0.mk hc1
  clear hr1 hc1
  have H : (if (l0.length : Int) = (l1.length : Int) then (if (l0.length : Int) > 256 then (some (0, 0, 5)) else (galoisref04_Chinese.l0 k l0 l1 0)) else (some (0, 0, 2))) = some (r1, r2, r3) := h
  clear h
  by_cases c3 : (l0.length : Int) = (l1.length : Int)
  · rw [if_pos c3] at H
    have c3b0 : ((l0.length : Int) == (l1.length : Int)) = true := beq_iff_eq.mpr c3
    have c3b1 : ((l0.length : Int) != (l1.length : Int)) = false := bne_eq_false_iff_eq.mpr c3
    have c3b2 : (l0.length == l1.length) = true := by first | simpa using c3 | (simp at c3 ⊢; omega)
    clear c3
    by_cases c4 : (l0.length : Int) > 256
    · rw [if_pos c4] at H
      have c4b0 : decide (256 < (l0.length : Int)) = true := decide_eq_true c4
      have c4b1 : decide (256 < l0.length) = true := decide_eq_true (by omega)
      clear c4
      simp only [Option.some.injEq, Prod.mk.injEq] at H
      obtain ⟨rfl, rfl, rfl⟩ := H
      go_enter Try.func23, Try.ntmps23
      go_wp2
      repeat (go_quiet (fail); try go_wp2)
      go_ret3
      exact ⟨by first | rfl | (simp; done) | (simp [*]; done), by repeat (first | exact Drawn0.refl _ | apply Drawn0.step)⟩
    · rw [if_neg c4] at H
      have c4b0 : decide (256 < (l0.length : Int)) = false := decide_eq_false c4
      have c4b1 : decide (256 < l0.length) = false := decide_eq_false (by omega)
      clear c4
      have H' := Aside0.mk H
      clear H
      go_enter Try.func23, Try.ntmps23
      go_wp2
      repeat (go_quiet (fail); try go_wp2)
      go_loopg [7] k (fun kq v7 w' => ∃ (x7_1 : Int), v7 = .int .i64 x7_1 ∧ Aside0 (galoisref04_Chinese.l0 kq l0 l1 x7_1 = some (r1, r2, r3)) ∧ Aside0 (kq ≤ k) ∧ Drawn0 w w')
      case atStart => exact ⟨(0), (by first | rfl | (simp; done) | (simp [*]; done)), H', ⟨Nat.le_refl _⟩, by repeat (first | exact Drawn0.refl _ | apply Drawn0.step)⟩
      case round =>
        clear H'
        try clear c1
        try clear c2
        try clear p2
        try clear c3
        try clear c3b0
        try clear c3b1
        try clear c3b2
        try clear c4
        try clear c4b0
        try clear c4b1
        obtain ⟨x7_1, rfl, HA, HK1, ⟨m1, rfl⟩⟩ := hrel
        cases gk with
        | zero => exact absurd HA.out (by simp [galoisref04_Chinese.l0])
        | succ k1 =>
          have H := HA.out
          clear HA
          simp only [galoisref04_Chinese.l0] at H
          by_cases c5 : x7_1 < (l1.length : Int)
          · rw [if_pos c5] at H
            have c5b0 : decide (x7_1 < (l1.length : Int)) = true := decide_eq_true c5
            clear c5
            by_cases c6 : 0 ≤ x7_1
            · rw [if_pos c6] at H
              have c6b0 : decide (0 ≤ x7_1) = true := decide_eq_true c6
              clear c6
              replace H := Option.bind_eq_some_iff.mp H
              obtain ⟨t102, A70, H⟩ := H
              replace H : (if t102 = true then (galoisref04_Chinese.l0 k1 l0 l1 (wrap64 (x7_1 + 1))) else (some (0, 0, 3))) = some (r1, r2, r3) := H
              have A7 := Aside0.mk A70
              clear A70
              by_cases c8 : t102 = true
              · subst c8
                have H1 : (galoisref04_Chinese.l0 k1 l0 l1 (wrap64 (x7_1 + 1))) = some (r1, r2, r3) := by rw [if_pos rfl] at H; exact H
                clear H
                have H := H1
                clear H1
                have H' := Aside0.mk H
                clear H
                have p101 : 0 ≤ (x7_1 : Int) := of_decide_eq_true (by first | (with_reducible assumption) | assumption)
                have q101 : x7_1 < (l1.length : Int) := of_decide_eq_true (by first | (with_reducible assumption) | assumption)
                obtain ⟨ad101, e101, hx101_0⟩ := Kd.at_int HR1.out x7_1 p101 q101
                cases e101
                replace p101 := eq_true p101
                replace q101 := eq_true q101
                go_wp2_with (first | (go_at_call 15; (with_reducible refine (galoisref04_IsModulus.calls (rd l1 x7_1) true _ A7.out).mono ?_); rintro e w' ⟨rfl, ⟨nd, rfl⟩⟩; (try first | exact ⟨rfl, _, World.drewN_drewN _ _ _⟩ | exact ⟨rfl, _, Eq.trans (World.drewN_drewN _ _ _) (congrArg (World.drewN _) (Nat.add_assoc _ _ _))⟩)))
                repeat (go_quiet (first | (go_at_call 15; (with_reducible refine (galoisref04_IsModulus.calls (rd l1 x7_1) true _ A7.out).mono ?_); rintro e w' ⟨rfl, ⟨nd, rfl⟩⟩; (try first | exact ⟨rfl, _, World.drewN_drewN _ _ _⟩ | exact ⟨rfl, _, Eq.trans (World.drewN_drewN _ _ _) (congrArg (World.drewN _) (Nat.add_assoc _ _ _))⟩))); try go_wp2_with (first | (go_at_call 15; (with_reducible refine (galoisref04_IsModulus.calls (rd l1 x7_1) true _ A7.out).mono ?_); rintro e w' ⟨rfl, ⟨nd, rfl⟩⟩; (try first | exact ⟨rfl, _, World.drewN_drewN _ _ _⟩ | exact ⟨rfl, _, Eq.trans (World.drewN_drewN _ _ _) (congrArg (World.drewN _) (Nat.add_assoc _ _ _))⟩))))
                go_roundg k1
                case measure => have := HK1.out; omega
                case rel => exact ⟨(wrap64 (x7_1 + 1)), (by first | rfl | (simp; done) | (simp [*]; done)), H', ⟨by have := HK1.out; omega⟩, by repeat (first | exact Drawn0.refl _ | apply Drawn0.step)⟩
              · replace c8 := Bool.eq_false_iff.mpr c8
                subst c8
                have H1 : (some (0, 0, 3)) = some (r1, r2, r3) := by rw [if_neg (show ¬ (false = true) by decide)] at H; exact H
                clear H
                have H := H1
                clear H1
                simp only [Option.some.injEq, Prod.mk.injEq] at H
                obtain ⟨rfl, rfl, rfl⟩ := H
                have p101 : 0 ≤ (x7_1 : Int) := of_decide_eq_true (by first | (with_reducible assumption) | assumption)
                have q101 : x7_1 < (l1.length : Int) := of_decide_eq_true (by first | (with_reducible assumption) | assumption)
                obtain ⟨ad101, e101, hx101_0⟩ := Kd.at_int HR1.out x7_1 p101 q101
                cases e101
                replace p101 := eq_true p101
                replace q101 := eq_true q101
                go_wp2_with (first | (go_at_call 15; (with_reducible refine (galoisref04_IsModulus.calls (rd l1 x7_1) false _ A7.out).mono ?_); rintro e w' ⟨rfl, ⟨nd, rfl⟩⟩; (try first | exact ⟨rfl, _, World.drewN_drewN _ _ _⟩ | exact ⟨rfl, _, Eq.trans (World.drewN_drewN _ _ _) (congrArg (World.drewN _) (Nat.add_assoc _ _ _))⟩)))
                repeat (go_quiet (first | (go_at_call 15; (with_reducible refine (galoisref04_IsModulus.calls (rd l1 x7_1) false _ A7.out).mono ?_); rintro e w' ⟨rfl, ⟨nd, rfl⟩⟩; (try first | exact ⟨rfl, _, World.drewN_drewN _ _ _⟩ | exact ⟨rfl, _, Eq.trans (World.drewN_drewN _ _ _) (congrArg (World.drewN _) (Nat.add_assoc _ _ _))⟩))); try go_wp2_with (first | (go_at_call 15; (with_reducible refine (galoisref04_IsModulus.calls (rd l1 x7_1) false _ A7.out).mono ?_); rintro e w' ⟨rfl, ⟨nd, rfl⟩⟩; (try first | exact ⟨rfl, _, World.drewN_drewN _ _ _⟩ | exact ⟨rfl, _, Eq.trans (World.drewN_drewN _ _ _) (congrArg (World.drewN _) (Nat.add_assoc _ _ _))⟩))))
                go_ret3
                exact ⟨by first | rfl | (simp; done) | (simp [*]; done), by repeat (first | exact Drawn0.refl _ | apply Drawn0.step)⟩
            · rw [if_neg c6] at H
              exact absurd H (by simp)
          · rw [if_neg c5] at H
            have c5b0 : decide (x7_1 < (l1.length : Int)) = false := decide_eq_false c5
            clear c5
            have H' := Aside0.mk H
            clear H
            go_wp2
            repeat (go_quiet (fail); try go_wp2)
            go_loopg [8] k1 (fun kq v8 w' => ∃ (x8_2 : Int), v8 = .int .i64 x8_2 ∧ Aside0 (galoisref04_Chinese.l1 kq l0 l1 x8_2 = some (r1, r2, r3)) ∧ Aside0 (kq ≤ k1) ∧ Drawn0 w w')
            case atStart => exact ⟨(0), (by first | rfl | (simp; done) | (simp [*]; done)), H', ⟨Nat.le_refl _⟩, by repeat (first | exact Drawn0.refl _ | apply Drawn0.step)⟩
            case round =>
              clear H'
              try clear c1
              try clear p1
              try clear q1
              try clear hx1
              try clear c2
              try clear p2
              try clear c3
              try clear c3b0
              try clear c3b1
              try clear c3b2
              try clear c4
              try clear c4b0
              try clear c4b1
              try clear c5
              try clear c5b0
              try clear c6
              try clear c6b0
              try clear p6
              try clear c8
              try clear hx101_0
              try clear p101
              try clear p2
              try clear q101
              obtain ⟨x8_2, rfl, HA, HK2, ⟨m2, rfl⟩⟩ := hrel
              cases gk with
              | zero => exact absurd HA.out (by simp [galoisref04_Chinese.l1])
              | succ k2 =>
                have H := HA.out
                clear HA
                simp only [galoisref04_Chinese.l1] at H
                by_cases c9 : x8_2 < (l1.length : Int)
                · rw [if_pos c9] at H
                  have c9b0 : decide (x8_2 < (l1.length : Int)) = true := decide_eq_true c9
                  clear c9
                  have H' := Aside0.mk H
                  clear H
                  go_wp2
                  repeat (go_quiet (fail); try go_wp2)
                  go_loopg [9] k2 (fun kq v9 w' => ∃ (x9_3 : Int), v9 = .int .i64 x9_3 ∧ Aside0 (galoisref04_Chinese.l2 kq l0 l1 x8_2 x9_3 = some (r1, r2, r3)) ∧ Aside0 (kq ≤ k2) ∧ Drawn0 w w')
                  case atStart => exact ⟨(0), (by first | rfl | (simp; done) | (simp [*]; done)), H', ⟨Nat.le_refl _⟩, by repeat (first | exact Drawn0.refl _ | apply Drawn0.step)⟩
                  case round =>
                    clear H'
                    try clear c1
                    try clear p1
                    try clear q1
                    try clear hx1
                    try clear c2
                    try clear p2
                    try clear c3
                    try clear c3b0
                    try clear c3b1
                    try clear c3b2
                    try clear c4
                    try clear c4b0
                    try clear c4b1
                    try clear c5
                    try clear c5b0
                    try clear c6
                    try clear c6b0
                    try clear p6
                    try clear c8
                    try clear c9
                    try clear c9b0
                    try clear hx101_0
                    try clear p1
                    try clear p101
                    try clear p2
                    try clear p6
                    try clear q1
                    try clear q101
                    obtain ⟨x9_3, rfl, HA, HK3, ⟨m3, rfl⟩⟩ := hrel
                    cases gk with
                    | zero => exact absurd HA.out (by simp [galoisref04_Chinese.l2])
                    | succ k3 =>
                      have H := HA.out
                      clear HA
                      simp only [galoisref04_Chinese.l2] at H
                      by_cases c10 : x9_3 < x8_2
                      · rw [if_pos c10] at H
                        have c10b0 : decide (x9_3 < x8_2) = true := decide_eq_true c10
                        clear c10
                        by_cases c11 : 0 ≤ x8_2
                        · rw [if_pos c11] at H
                          have c11b0 : decide (0 ≤ x8_2) = true := decide_eq_true c11
                          clear c11
                          by_cases c12 : x8_2 < (l1.length : Int)
                          · rw [if_pos c12] at H
                            have c12b0 : decide (x8_2 < (l1.length : Int)) = true := decide_eq_true c12
                            clear c12
                            by_cases c13 : 0 ≤ x9_3
                            · rw [if_pos c13] at H
                              have c13b0 : decide (0 ≤ x9_3) = true := decide_eq_true c13
                              clear c13
                              by_cases c14 : x9_3 < (l1.length : Int)
                              · rw [if_pos c14] at H
                                have c14b0 : decide (x9_3 < (l1.length : Int)) = true := decide_eq_true c14
                                clear c14
                                replace H := Option.bind_eq_some_iff.mp H
                                obtain ⟨t105, A150, H⟩ := H
                                replace H : (if x8_2 < (l0.length : Int) then ((galoisref04_Mod.f (rd l0 x8_2) t105).bind fun t107 => (if x9_3 < (l0.length : Int) then ((galoisref04_Mod.f (rd l0 x9_3) t105).bind fun t109 => (if t107 = t109 then (galoisref04_Chinese.l2 k3 l0 l1 x8_2 (wrap64 (x9_3 + 1))) else (some (0, 0, 10)))) else (none))) else (none)) = some (r1, r2, r3) := H
                                have A15 := Aside0.mk A150
                                clear A150
                                by_cases c16 : x8_2 < (l0.length : Int)
                                · rw [if_pos c16] at H
                                  have c16b0 : decide (x8_2 < (l0.length : Int)) = true := decide_eq_true c16
                                  clear c16
                                  replace H := Option.bind_eq_some_iff.mp H
                                  obtain ⟨t107, A170, H⟩ := H
                                  replace H : (if x9_3 < (l0.length : Int) then ((galoisref04_Mod.f (rd l0 x9_3) t105).bind fun t109 => (if t107 = t109 then (galoisref04_Chinese.l2 k3 l0 l1 x8_2 (wrap64 (x9_3 + 1))) else (some (0, 0, 10)))) else (none)) = some (r1, r2, r3) := H
                                  have A17 := Aside0.mk A170
                                  clear A170
                                  by_cases c18 : x9_3 < (l0.length : Int)
                                  · rw [if_pos c18] at H
                                    have c18b0 : decide (x9_3 < (l0.length : Int)) = true := decide_eq_true c18
                                    clear c18
                                    replace H := Option.bind_eq_some_iff.mp H
                                    obtain ⟨t109, A190, H⟩ := H
                                    replace H : (if t107 = t109 then (galoisref04_Chinese.l2 k3 l0 l1 x8_2 (wrap64 (x9_3 + 1))) else (some (0, 0, 10))) = some (r1, r2, r3) := H
                                    have A19 := Aside0.mk A190
                                    clear A190
                                    by_cases c20 : t107 = t109
                                    · rw [if_pos c20] at H
                                      have c20b0 : (t107 == t109) = true := beq_iff_eq.mpr c20
                                      have c20b1 : (t107 != t109) = false := bne_eq_false_iff_eq.mpr c20
                                      clear c20
                                      have H' := Aside0.mk H
                                      clear H
                                      have p103 : 0 ≤ (x8_2 : Int) := of_decide_eq_true (by first | (with_reducible assumption) | assumption)
                                      have q103 : x8_2 < (l1.length : Int) := of_decide_eq_true (by first | (with_reducible assumption) | assumption)
                                      obtain ⟨ad103, e103, hx103_0⟩ := Kd.at_int HR1.out x8_2 p103 q103
                                      cases e103
                                      replace p103 := eq_true p103
                                      replace q103 := eq_true q103
                                      have p104 : 0 ≤ (x9_3 : Int) := of_decide_eq_true (by first | (with_reducible assumption) | assumption)
                                      have q104 : x9_3 < (l1.length : Int) := of_decide_eq_true (by first | (with_reducible assumption) | assumption)
                                      obtain ⟨ad104, e104, hx104_0⟩ := Kd.at_int HR1.out x9_3 p104 q104
                                      obtain rfl : ad103 = ad104 := (by injection e104)
                                      replace p104 := eq_true p104
                                      replace q104 := eq_true q104
                                      go_wp2_with (first | (go_at_call 24; (with_reducible refine (galoisref04_Gcd.calls k3 (rd l1 x8_2) (rd l1 x9_3) t105 _ A15.out).mono ?_); rintro e w' ⟨rfl, ⟨nd, rfl⟩⟩; (try first | exact ⟨rfl, _, World.drewN_drewN _ _ _⟩ | exact ⟨rfl, _, Eq.trans (World.drewN_drewN _ _ _) (congrArg (World.drewN _) (Nat.add_assoc _ _ _))⟩); have p106 : 0 ≤ (x8_2 : Int) := of_decide_eq_true (by first | (with_reducible assumption) | assumption); have q106 : x8_2 < (l0.length : Int) := of_decide_eq_true (by first | (with_reducible assumption) | assumption); obtain ⟨ad106, e106, hx106_0⟩ := Kd.at_int HR0.out x8_2 p106 q106; cases e106; replace p106 := eq_true p106; replace q106 := eq_true q106) | (go_at_call 26; (with_reducible refine (galoisref04_Mod.calls (rd l0 x8_2) t105 t107 _ A17.out).mono ?_); rintro e w' ⟨rfl, ⟨nd, rfl⟩⟩; (try first | exact ⟨rfl, _, World.drewN_drewN _ _ _⟩ | exact ⟨rfl, _, Eq.trans (World.drewN_drewN _ _ _) (congrArg (World.drewN _) (Nat.add_assoc _ _ _))⟩); have p108 : 0 ≤ (x9_3 : Int) := of_decide_eq_true (by first | (with_reducible assumption) | assumption); have q108 : x9_3 < (l0.length : Int) := of_decide_eq_true (by first | (with_reducible assumption) | assumption); obtain ⟨ad108, e108, hx108_0⟩ := Kd.at_int HR0.out x9_3 p108 q108; obtain rfl : ad106 = ad108 := (by injection e108); replace p108 := eq_true p108; replace q108 := eq_true q108) | (go_at_call 26; (with_reducible refine (galoisref04_Mod.calls (rd l0 x9_3) t105 t109 _ A19.out).mono ?_); rintro e w' ⟨rfl, ⟨nd, rfl⟩⟩; (try first | exact ⟨rfl, _, World.drewN_drewN _ _ _⟩ | exact ⟨rfl, _, Eq.trans (World.drewN_drewN _ _ _) (congrArg (World.drewN _) (Nat.add_assoc _ _ _))⟩)))
                                      repeat (go_quiet (first | (go_at_call 24; (with_reducible refine (galoisref04_Gcd.calls k3 (rd l1 x8_2) (rd l1 x9_3) t105 _ A15.out).mono ?_); rintro e w' ⟨rfl, ⟨nd, rfl⟩⟩; (try first | exact ⟨rfl, _, World.drewN_drewN _ _ _⟩ | exact ⟨rfl, _, Eq.trans (World.drewN_drewN _ _ _) (congrArg (World.drewN _) (Nat.add_assoc _ _ _))⟩); have p106 : 0 ≤ (x8_2 : Int) := of_decide_eq_true (by first | (with_reducible assumption) | assumption); have q106 : x8_2 < (l0.length : Int) := of_decide_eq_true (by first | (with_reducible assumption) | assumption); obtain ⟨ad106, e106, hx106_0⟩ := Kd.at_int HR0.out x8_2 p106 q106; cases e106; replace p106 := eq_true p106; replace q106 := eq_true q106) | (go_at_call 26; (with_reducible refine (galoisref04_Mod.calls (rd l0 x8_2) t105 t107 _ A17.out).mono ?_); rintro e w' ⟨rfl, ⟨nd, rfl⟩⟩; (try first | exact ⟨rfl, _, World.drewN_drewN _ _ _⟩ | exact ⟨rfl, _, Eq.trans (World.drewN_drewN _ _ _) (congrArg (World.drewN _) (Nat.add_assoc _ _ _))⟩); have p108 : 0 ≤ (x9_3 : Int) := of_decide_eq_true (by first | (with_reducible assumption) | assumption); have q108 : x9_3 < (l0.length : Int) := of_decide_eq_true (by first | (with_reducible assumption) | assumption); obtain ⟨ad108, e108, hx108_0⟩ := Kd.at_int HR0.out x9_3 p108 q108; obtain rfl : ad106 = ad108 := (by injection e108); replace p108 := eq_true p108; replace q108 := eq_true q108) | (go_at_call 26; (with_reducible refine (galoisref04_Mod.calls (rd l0 x9_3) t105 t109 _ A19.out).mono ?_); rintro e w' ⟨rfl, ⟨nd, rfl⟩⟩; (try first | exact ⟨rfl, _, World.drewN_drewN _ _ _⟩ | exact ⟨rfl, _, Eq.trans (World.drewN_drewN _ _ _) (congrArg (World.drewN _) (Nat.add_assoc _ _ _))⟩))); try go_wp2_with (first | (go_at_call 24; (with_reducible refine (galoisref04_Gcd.calls k3 (rd l1 x8_2) (rd l1 x9_3) t105 _ A15.out).mono ?_); rintro e w' ⟨rfl, ⟨nd, rfl⟩⟩; (try first | exact ⟨rfl, _, World.drewN_drewN _ _ _⟩ | exact ⟨rfl, _, Eq.trans (World.drewN_drewN _ _ _) (congrArg (World.drewN _) (Nat.add_assoc _ _ _))⟩); have p106 : 0 ≤ (x8_2 : Int) := of_decide_eq_true (by first | (with_reducible assumption) | assumption); have q106 : x8_2 < (l0.length : Int) := of_decide_eq_true (by first | (with_reducible assumption) | assumption); obtain ⟨ad106, e106, hx106_0⟩ := Kd.at_int HR0.out x8_2 p106 q106; cases e106; replace p106 := eq_true p106; replace q106 := eq_true q106) | (go_at_call 26; (with_reducible refine (galoisref04_Mod.calls (rd l0 x8_2) t105 t107 _ A17.out).mono ?_); rintro e w' ⟨rfl, ⟨nd, rfl⟩⟩; (try first | exact ⟨rfl, _, World.drewN_drewN _ _ _⟩ | exact ⟨rfl, _, Eq.trans (World.drewN_drewN _ _ _) (congrArg (World.drewN _) (Nat.add_assoc _ _ _))⟩); have p108 : 0 ≤ (x9_3 : Int) := of_decide_eq_true (by first | (with_reducible assumption) | assumption); have q108 : x9_3 < (l0.length : Int) := of_decide_eq_true (by first | (with_reducible assumption) | assumption); obtain ⟨ad108, e108, hx108_0⟩ := Kd.at_int HR0.out x9_3 p108 q108; obtain rfl : ad106 = ad108 := (by injection e108); replace p108 := eq_true p108; replace q108 := eq_true q108) | (go_at_call 26; (with_reducible refine (galoisref04_Mod.calls (rd l0 x9_3) t105 t109 _ A19.out).mono ?_); rintro e w' ⟨rfl, ⟨nd, rfl⟩⟩; (try first | exact ⟨rfl, _, World.drewN_drewN _ _ _⟩ | exact ⟨rfl, _, Eq.trans (World.drewN_drewN _ _ _) (congrArg (World.drewN _) (Nat.add_assoc _ _ _))⟩))))
                                      go_roundg k3
                                      case measure => have := HK1.out; have := HK2.out; have := HK3.out; omega
                                      case rel => exact ⟨(wrap64 (x9_3 + 1)), (by first | rfl | (simp; done) | (simp [*]; done)), H', ⟨by have := HK1.out; have := HK2.out; have := HK3.out; omega⟩, by repeat (first | exact Drawn0.refl _ | apply Drawn0.step)⟩
                                    · rw [if_neg c20] at H
                                      have c20b0 : (t107 == t109) = false := beq_eq_false_iff_ne.mpr c20
                                      have c20b1 : (t107 != t109) = true := bne_iff_ne.mpr c20
                                      simp only [Option.some.injEq, Prod.mk.injEq] at H
                                      obtain ⟨rfl, rfl, rfl⟩ := H
                                      have p103 : 0 ≤ (x8_2 : Int) := of_decide_eq_true (by first | (with_reducible assumption) | assumption)
                                      have q103 : x8_2 < (l1.length : Int) := of_decide_eq_true (by first | (with_reducible assumption) | assumption)
                                      obtain ⟨ad103, e103, hx103_0⟩ := Kd.at_int HR1.out x8_2 p103 q103
                                      cases e103
                                      replace p103 := eq_true p103
                                      replace q103 := eq_true q103
                                      have p104 : 0 ≤ (x9_3 : Int) := of_decide_eq_true (by first | (with_reducible assumption) | assumption)
                                      have q104 : x9_3 < (l1.length : Int) := of_decide_eq_true (by first | (with_reducible assumption) | assumption)
                                      obtain ⟨ad104, e104, hx104_0⟩ := Kd.at_int HR1.out x9_3 p104 q104
                                      obtain rfl : ad103 = ad104 := (by injection e104)
                                      replace p104 := eq_true p104
                                      replace q104 := eq_true q104
                                      go_wp2_with (first | (go_at_call 24; (with_reducible refine (galoisref04_Gcd.calls k3 (rd l1 x8_2) (rd l1 x9_3) t105 _ A15.out).mono ?_); rintro e w' ⟨rfl, ⟨nd, rfl⟩⟩; (try first | exact ⟨rfl, _, World.drewN_drewN _ _ _⟩ | exact ⟨rfl, _, Eq.trans (World.drewN_drewN _ _ _) (congrArg (World.drewN _) (Nat.add_assoc _ _ _))⟩); have p106 : 0 ≤ (x8_2 : Int) := of_decide_eq_true (by first | (with_reducible assumption) | assumption); have q106 : x8_2 < (l0.length : Int) := of_decide_eq_true (by first | (with_reducible assumption) | assumption); obtain ⟨ad106, e106, hx106_0⟩ := Kd.at_int HR0.out x8_2 p106 q106; cases e106; replace p106 := eq_true p106; replace q106 := eq_true q106) | (go_at_call 26; (with_reducible refine (galoisref04_Mod.calls (rd l0 x8_2) t105 t107 _ A17.out).mono ?_); rintro e w' ⟨rfl, ⟨nd, rfl⟩⟩; (try first | exact ⟨rfl, _, World.drewN_drewN _ _ _⟩ | exact ⟨rfl, _, Eq.trans (World.drewN_drewN _ _ _) (congrArg (World.drewN _) (Nat.add_assoc _ _ _))⟩); have p108 : 0 ≤ (x9_3 : Int) := of_decide_eq_true (by first | (with_reducible assumption) | assumption); have q108 : x9_3 < (l0.length : Int) := of_decide_eq_true (by first | (with_reducible assumption) | assumption); obtain ⟨ad108, e108, hx108_0⟩ := Kd.at_int HR0.out x9_3 p108 q108; obtain rfl : ad106 = ad108 := (by injection e108); replace p108 := eq_true p108; replace q108 := eq_true q108) | (go_at_call 26; (with_reducible refine (galoisref04_Mod.calls (rd l0 x9_3) t105 t109 _ A19.out).mono ?_); rintro e w' ⟨rfl, ⟨nd, rfl⟩⟩; (try first | exact ⟨rfl, _, World.drewN_drewN _ _ _⟩ | exact ⟨rfl, _, Eq.trans (World.drewN_drewN _ _ _) (congrArg (World.drewN _) (Nat.add_assoc _ _ _))⟩)))
                                      repeat (go_quiet (first | (go_at_call 24; (with_reducible refine (galoisref04_Gcd.calls k3 (rd l1 x8_2) (rd l1 x9_3) t105 _ A15.out).mono ?_); rintro e w' ⟨rfl, ⟨nd, rfl⟩⟩; (try first | exact ⟨rfl, _, World.drewN_drewN _ _ _⟩ | exact ⟨rfl, _, Eq.trans (World.drewN_drewN _ _ _) (congrArg (World.drewN _) (Nat.add_assoc _ _ _))⟩); have p106 : 0 ≤ (x8_2 : Int) := of_decide_eq_true (by first | (with_reducible assumption) | assumption); have q106 : x8_2 < (l0.length : Int) := of_decide_eq_true (by first | (with_reducible assumption) | assumption); obtain ⟨ad106, e106, hx106_0⟩ := Kd.at_int HR0.out x8_2 p106 q106; cases e106; replace p106 := eq_true p106; replace q106 := eq_true q106) | (go_at_call 26; (with_reducible refine (galoisref04_Mod.calls (rd l0 x8_2) t105 t107 _ A17.out).mono ?_); rintro e w' ⟨rfl, ⟨nd, rfl⟩⟩; (try first | exact ⟨rfl, _, World.drewN_drewN _ _ _⟩ | exact ⟨rfl, _, Eq.trans (World.drewN_drewN _ _ _) (congrArg (World.drewN _) (Nat.add_assoc _ _ _))⟩); have p108 : 0 ≤ (x9_3 : Int) := of_decide_eq_true (by first | (with_reducible assumption) | assumption); have q108 : x9_3 < (l0.length : Int) := of_decide_eq_true (by first | (with_reducible assumption) | assumption); obtain ⟨ad108, e108, hx108_0⟩ := Kd.at_int HR0.out x9_3 p108 q108; obtain rfl : ad106 = ad108 := (by injection e108); replace p108 := eq_true p108; replace q108 := eq_true q108) | (go_at_call 26; (with_reducible refine (galoisref04_Mod.calls (rd l0 x9_3) t105 t109 _ A19.out).mono ?_); rintro e w' ⟨rfl, ⟨nd, rfl⟩⟩; (try first | exact ⟨rfl, _, World.drewN_drewN _ _ _⟩ | exact ⟨rfl, _, Eq.trans (World.drewN_drewN _ _ _) (congrArg (World.drewN _) (Nat.add_assoc _ _ _))⟩))); try go_wp2_with (first | (go_at_call 24; (with_reducible refine (galoisref04_Gcd.calls k3 (rd l1 x8_2) (rd l1 x9_3) t105 _ A15.out).mono ?_); rintro e w' ⟨rfl, ⟨nd, rfl⟩⟩; (try first | exact ⟨rfl, _, World.drewN_drewN _ _ _⟩ | exact ⟨rfl, _, Eq.trans (World.drewN_drewN _ _ _) (congrArg (World.drewN _) (Nat.add_assoc _ _ _))⟩); have p106 : 0 ≤ (x8_2 : Int) := of_decide_eq_true (by first | (with_reducible assumption) | assumption); have q106 : x8_2 < (l0.length : Int) := of_decide_eq_true (by first | (with_reducible assumption) | assumption); obtain ⟨ad106, e106, hx106_0⟩ := Kd.at_int HR0.out x8_2 p106 q106; cases e106; replace p106 := eq_true p106; replace q106 := eq_true q106) | (go_at_call 26; (with_reducible refine (galoisref04_Mod.calls (rd l0 x8_2) t105 t107 _ A17.out).mono ?_); rintro e w' ⟨rfl, ⟨nd, rfl⟩⟩; (try first | exact ⟨rfl, _, World.drewN_drewN _ _ _⟩ | exact ⟨rfl, _, Eq.trans (World.drewN_drewN _ _ _) (congrArg (World.drewN _) (Nat.add_assoc _ _ _))⟩); have p108 : 0 ≤ (x9_3 : Int) := of_decide_eq_true (by first | (with_reducible assumption) | assumption); have q108 : x9_3 < (l0.length : Int) := of_decide_eq_true (by first | (with_reducible assumption) | assumption); obtain ⟨ad108, e108, hx108_0⟩ := Kd.at_int HR0.out x9_3 p108 q108; obtain rfl : ad106 = ad108 := (by injection e108); replace p108 := eq_true p108; replace q108 := eq_true q108) | (go_at_call 26; (with_reducible refine (galoisref04_Mod.calls (rd l0 x9_3) t105 t109 _ A19.out).mono ?_); rintro e w' ⟨rfl, ⟨nd, rfl⟩⟩; (try first | exact ⟨rfl, _, World.drewN_drewN _ _ _⟩ | exact ⟨rfl, _, Eq.trans (World.drewN_drewN _ _ _) (congrArg (World.drewN _) (Nat.add_assoc _ _ _))⟩))))
                                      go_ret3
                                      exact ⟨by first | rfl | (simp; done) | (simp [*]; done), by repeat (first | exact Drawn0.refl _ | apply Drawn0.step)⟩
                                  · rw [if_neg c18] at H
                                    exact absurd H (by simp)
                                · rw [if_neg c16] at H
                                  exact absurd H (by simp)
                              · rw [if_neg c14] at H
                                exact absurd H (by simp)
                            · rw [if_neg c13] at H
                              exact absurd H (by simp)
                          · rw [if_neg c12] at H
                            exact absurd H (by simp)
                        · rw [if_neg c11] at H
                          exact absurd H (by simp)
                      · rw [if_neg c10] at H
                        have c10b0 : decide (x9_3 < x8_2) = false := decide_eq_false c10
                        clear c10
                        have H' := Aside0.mk H
                        clear H
                        go_wp2
                        repeat (go_quiet (fail); try go_wp2)
                        go_roundg k3
                        case measure => have := HK1.out; have := HK2.out; have := HK3.out; omega
                        case rel => exact ⟨(wrap64 (x8_2 + 1)), (by first | rfl | (simp; done) | (simp [*]; done)), H', ⟨by have := HK1.out; have := HK2.out; have := HK3.out; omega⟩, by repeat (first | exact Drawn0.refl _ | apply Drawn0.step)⟩
                · rw [if_neg c9] at H
                  have c9b0 : decide (x8_2 < (l1.length : Int)) = false := decide_eq_false c9
                  clear c9
                  have H' := Aside0.mk H
                  clear H
                  go_wp2
                  repeat (go_quiet (fail); try go_wp2)
                  go_loopg [11, 12, 13] k2 (fun kq v11 v12 v13 w' => ∃ (x11_3 : Int) (x12_3 : Int) (x13_3 : Int), v11 = .int .i64 x11_3 ∧ v12 = .int .i64 x12_3 ∧ v13 = .int .i64 x13_3 ∧ Aside0 (galoisref04_Chinese.l3 kq l0 l1 x11_3 x12_3 x13_3 = some (r1, r2, r3)) ∧ Aside0 (kq ≤ k2) ∧ Drawn0 w w')
                  case atStart => exact ⟨(0), (1), (0), (by first | rfl | (simp; done) | (simp [*]; done)), (by first | rfl | (simp; done) | (simp [*]; done)), (by first | rfl | (simp; done) | (simp [*]; done)), H', ⟨Nat.le_refl _⟩, by repeat (first | exact Drawn0.refl _ | apply Drawn0.step)⟩
                  case round =>
                    clear H'
                    try clear c1
                    try clear p1
                    try clear q1
                    try clear hx1
                    try clear c2
                    try clear p2
                    try clear c3
                    try clear c3b0
                    try clear c3b1
                    try clear c3b2
                    try clear c4
                    try clear c4b0
                    try clear c4b1
                    try clear c5
                    try clear c5b0
                    try clear c6
                    try clear c6b0
                    try clear p6
                    try clear c8
                    try clear c9
                    try clear c9b0
                    try clear c10
                    try clear c10b0
                    try clear p10
                    try clear q10
                    try clear hx10
                    try clear c11
                    try clear c11b0
                    try clear c12
                    try clear c12b0
                    try clear c13
                    try clear c13b0
                    try clear c14
                    try clear c14b0
                    try clear c16
                    try clear c16b0
                    try clear c18
                    try clear c18b0
                    try clear c20
                    try clear c20b0
                    try clear c20b1
                    try clear hx101_0
                    try clear hx103_0
                    try clear hx104_0
                    try clear hx106_0
                    try clear hx108_0
                    try clear p1
                    try clear p101
                    try clear p103
                    try clear p104
                    try clear p106
                    try clear p108
                    try clear p2
                    try clear p6
                    try clear q1
                    try clear q101
                    try clear q103
                    try clear q104
                    try clear q106
                    try clear q108
                    obtain ⟨x11_3, x12_3, x13_3, rfl, rfl, rfl, HA, HK3, ⟨m3, rfl⟩⟩ := hrel
                    cases gk with
                    | zero => exact absurd HA.out (by simp [galoisref04_Chinese.l3])
                    | succ k3 =>
                      have H := HA.out
                      clear HA
                      simp only [galoisref04_Chinese.l3] at H
                      by_cases c21 : x13_3 < (l1.length : Int)
                      · rw [if_pos c21] at H
                        have c21b0 : decide (x13_3 < (l1.length : Int)) = true := decide_eq_true c21
                        clear c21
                        by_cases c22 : 0 ≤ x13_3
                        · rw [if_pos c22] at H
                          have c22b0 : decide (0 ≤ x13_3) = true := decide_eq_true c22
                          clear c22
                          replace H := Option.bind_eq_some_iff.mp H
                          obtain ⟨t112, A230, H⟩ := H
                          replace H : (if t112 = 0 then (none) else (if (wrap64 (Int.tdiv (rd l1 x13_3) t112)) = 0 then (none) else (if x12_3 > (wrap64 (Int.tdiv (2147483647 : Int) (wrap64 (Int.tdiv (rd l1 x13_3) t112)))) then (some (0, 0, 4)) else (galoisref04_Chinese.l4 k3 l0 l1 x11_3 x12_3 x13_3 (wrap64 (Int.tdiv (rd l1 x13_3) t112)))))) = some (r1, r2, r3) := H
                          have A23 := Aside0.mk A230
                          clear A230
                          by_cases c24 : t112 = 0
                          · rw [if_pos c24] at H
                            exact absurd H (by simp)
                          · rw [if_neg c24] at H
                            have c24b0 : (t112 == 0) = false := beq_eq_false_iff_ne.mpr c24
                            have c24b1 : (t112 != 0) = true := bne_iff_ne.mpr c24
                            by_cases c25 : (wrap64 (Int.tdiv (rd l1 x13_3) t112)) = 0
                            · rw [if_pos c25] at H
                              exact absurd H (by simp)
                            · rw [if_neg c25] at H
                              have c25b0 : ((wrap64 (Int.tdiv (rd l1 x13_3) t112)) == 0) = false := beq_eq_false_iff_ne.mpr c25
                              have c25b1 : ((wrap64 (Int.tdiv (rd l1 x13_3) t112)) != 0) = true := bne_iff_ne.mpr c25
                              by_cases c26 : x12_3 > (wrap64 (Int.tdiv (2147483647 : Int) (wrap64 (Int.tdiv (rd l1 x13_3) t112))))
                              · rw [if_pos c26] at H
                                have c26b0 : decide ((wrap64 (Int.tdiv (2147483647 : Int) (wrap64 (Int.tdiv (rd l1 x13_3) t112)))) < x12_3) = true := decide_eq_true c26
                                clear c26
                                simp only [Option.some.injEq, Prod.mk.injEq] at H
                                obtain ⟨rfl, rfl, rfl⟩ := H
                                have p110 : 0 ≤ (x13_3 : Int) := of_decide_eq_true (by first | (with_reducible assumption) | assumption)
                                have q110 : x13_3 < (l1.length : Int) := of_decide_eq_true (by first | (with_reducible assumption) | assumption)
                                obtain ⟨ad110, e110, hx110_0⟩ := Kd.at_int HR1.out x13_3 p110 q110
                                cases e110
                                replace p110 := eq_true p110
                                replace q110 := eq_true q110
                                have p111 : 0 ≤ (x13_3 : Int) := of_decide_eq_true (by first | (with_reducible assumption) | assumption)
                                have q111 : x13_3 < (l1.length : Int) := of_decide_eq_true (by first | (with_reducible assumption) | assumption)
                                obtain ⟨ad111, e111, hx111_0⟩ := Kd.at_int HR1.out x13_3 p111 q111
                                obtain rfl : ad110 = ad111 := (by injection e111)
                                replace p111 := eq_true p111
                                replace q111 := eq_true q111
                                go_wp2_with (first | (go_at_call 24; (with_reducible refine (galoisref04_Gcd.calls k3 x12_3 (rd l1 x13_3) t112 _ A23.out).mono ?_); rintro e w' ⟨rfl, ⟨nd, rfl⟩⟩; (try first | exact ⟨rfl, _, World.drewN_drewN _ _ _⟩ | exact ⟨rfl, _, Eq.trans (World.drewN_drewN _ _ _) (congrArg (World.drewN _) (Nat.add_assoc _ _ _))⟩)))
                                repeat (go_quiet (first | (go_at_call 24; (with_reducible refine (galoisref04_Gcd.calls k3 x12_3 (rd l1 x13_3) t112 _ A23.out).mono ?_); rintro e w' ⟨rfl, ⟨nd, rfl⟩⟩; (try first | exact ⟨rfl, _, World.drewN_drewN _ _ _⟩ | exact ⟨rfl, _, Eq.trans (World.drewN_drewN _ _ _) (congrArg (World.drewN _) (Nat.add_assoc _ _ _))⟩))); try go_wp2_with (first | (go_at_call 24; (with_reducible refine (galoisref04_Gcd.calls k3 x12_3 (rd l1 x13_3) t112 _ A23.out).mono ?_); rintro e w' ⟨rfl, ⟨nd, rfl⟩⟩; (try first | exact ⟨rfl, _, World.drewN_drewN _ _ _⟩ | exact ⟨rfl, _, Eq.trans (World.drewN_drewN _ _ _) (congrArg (World.drewN _) (Nat.add_assoc _ _ _))⟩))))
                                go_ret3
                                exact ⟨by first | rfl | (simp; done) | (simp [*]; done), by repeat (first | exact Drawn0.refl _ | apply Drawn0.step)⟩
                              · rw [if_neg c26] at H
                                have c26b0 : decide ((wrap64 (Int.tdiv (2147483647 : Int) (wrap64 (Int.tdiv (rd l1 x13_3) t112)))) < x12_3) = false := decide_eq_false c26
                                clear c26
                                have H' := Aside0.mk H
                                clear H
                                have p110 : 0 ≤ (x13_3 : Int) := of_decide_eq_true (by first | (with_reducible assumption) | assumption)
                                have q110 : x13_3 < (l1.length : Int) := of_decide_eq_true (by first | (with_reducible assumption) | assumption)
                                obtain ⟨ad110, e110, hx110_0⟩ := Kd.at_int HR1.out x13_3 p110 q110
                                cases e110
                                replace p110 := eq_true p110
                                replace q110 := eq_true q110
                                have p111 : 0 ≤ (x13_3 : Int) := of_decide_eq_true (by first | (with_reducible assumption) | assumption)
                                have q111 : x13_3 < (l1.length : Int) := of_decide_eq_true (by first | (with_reducible assumption) | assumption)
                                obtain ⟨ad111, e111, hx111_0⟩ := Kd.at_int HR1.out x13_3 p111 q111
                                obtain rfl : ad110 = ad111 := (by injection e111)
                                replace p111 := eq_true p111
                                replace q111 := eq_true q111
                                go_wp2_with (first | (go_at_call 24; (with_reducible refine (galoisref04_Gcd.calls k3 x12_3 (rd l1 x13_3) t112 _ A23.out).mono ?_); rintro e w' ⟨rfl, ⟨nd, rfl⟩⟩; (try first | exact ⟨rfl, _, World.drewN_drewN _ _ _⟩ | exact ⟨rfl, _, Eq.trans (World.drewN_drewN _ _ _) (congrArg (World.drewN _) (Nat.add_assoc _ _ _))⟩)))
                                repeat (go_quiet (first | (go_at_call 24; (with_reducible refine (galoisref04_Gcd.calls k3 x12_3 (rd l1 x13_3) t112 _ A23.out).mono ?_); rintro e w' ⟨rfl, ⟨nd, rfl⟩⟩; (try first | exact ⟨rfl, _, World.drewN_drewN _ _ _⟩ | exact ⟨rfl, _, Eq.trans (World.drewN_drewN _ _ _) (congrArg (World.drewN _) (Nat.add_assoc _ _ _))⟩))); try go_wp2_with (first | (go_at_call 24; (with_reducible refine (galoisref04_Gcd.calls k3 x12_3 (rd l1 x13_3) t112 _ A23.out).mono ?_); rintro e w' ⟨rfl, ⟨nd, rfl⟩⟩; (try first | exact ⟨rfl, _, World.drewN_drewN _ _ _⟩ | exact ⟨rfl, _, Eq.trans (World.drewN_drewN _ _ _) (congrArg (World.drewN _) (Nat.add_assoc _ _ _))⟩))))
                                go_loopg [11] k3 (fun kq v11 w' => ∃ (x11_4 : Int), v11 = .int .i64 x11_4 ∧ Aside0 (galoisref04_Chinese.l4 kq l0 l1 x11_4 x12_3 x13_3 (wrap64 (Int.tdiv (rd l1 x13_3) t112)) = some (r1, r2, r3)) ∧ Aside0 (kq ≤ k3) ∧ Drawn0 w w')
                                case atStart => exact ⟨(x11_3), (by first | rfl | (simp; done) | (simp [*]; done)), H', ⟨Nat.le_refl _⟩, by repeat (first | exact Drawn0.refl _ | apply Drawn0.step)⟩
                                case round =>
                                  clear H'
                                  try clear c1
                                  try clear p1
                                  try clear q1
                                  try clear hx1
                                  try clear c2
                                  try clear p2
                                  try clear c3
                                  try clear c3b0
                                  try clear c3b1
                                  try clear c3b2
                                  try clear c4
                                  try clear c4b0
                                  try clear c4b1
                                  try clear c5
                                  try clear c5b0
                                  try clear c6
                                  try clear c6b0
                                  try clear p6
                                  try clear c8
                                  try clear c9
                                  try clear c9b0
                                  try clear c10
                                  try clear c10b0
                                  try clear p10
                                  try clear q10
                                  try clear hx10
                                  try clear c11
                                  try clear c11b0
                                  try clear p11
                                  try clear q11
                                  try clear hx11
                                  try clear c12
                                  try clear c12b0
                                  try clear c13
                                  try clear c13b0
                                  try clear c14
                                  try clear c14b0
                                  try clear c16
                                  try clear c16b0
                                  try clear c18
                                  try clear c18b0
                                  try clear c20
                                  try clear c20b0
                                  try clear c20b1
                                  try clear c21
                                  try clear c21b0
                                  try clear c22
                                  try clear c22b0
                                  try clear c23
                                  try clear c24
                                  try clear c24b0
                                  try clear c24b1
                                  try clear c25
                                  try clear c25b0
                                  try clear c25b1
                                  try clear c26
                                  try clear c26b0
                                  try clear hx101_0
                                  try clear hx103_0
                                  try clear hx104_0
                                  try clear hx106_0
                                  try clear hx108_0
                                  try clear hx110_0
                                  try clear hx111_0
                                  try clear p1
                                  try clear p10
                                  try clear p101
                                  try clear p103
                                  try clear p104
                                  try clear p106
                                  try clear p108
                                  try clear p110
                                  try clear p111
                                  try clear p2
                                  try clear p6
                                  try clear q1
                                  try clear q10
                                  try clear q101
                                  try clear q103
                                  try clear q104
                                  try clear q106
                                  try clear q108
                                  try clear q110
                                  try clear q111
                                  obtain ⟨x11_4, rfl, HA, HK4, ⟨m4, rfl⟩⟩ := hrel
                                  cases gk with
                                  | zero => exact absurd HA.out (by simp [galoisref04_Chinese.l4])
                                  | succ k4 =>
                                    have H := HA.out
                                    clear HA
                                    simp only [galoisref04_Chinese.l4] at H
                                    by_cases c27 : 0 ≤ x13_3
                                    · rw [if_pos c27] at H
                                      have c27b0 : decide (0 ≤ x13_3) = true := decide_eq_true c27
                                      clear c27
                                      by_cases c28 : x13_3 < (l1.length : Int)
                                      · rw [if_pos c28] at H
                                        have c28b0 : decide (x13_3 < (l1.length : Int)) = true := decide_eq_true c28
                                        clear c28
                                        by_cases c29 : (rd l1 x13_3) = 0
                                        · rw [if_pos c29] at H
                                          exact absurd H (by simp)
                                        · rw [if_neg c29] at H
                                          have c29b0 : ((rd l1 x13_3) == 0) = false := beq_eq_false_iff_ne.mpr c29
                                          have c29b1 : ((rd l1 x13_3) != 0) = true := bne_iff_ne.mpr c29
                                          by_cases c30 : x13_3 < (l0.length : Int)
                                          · rw [if_pos c30] at H
                                            have c30b0 : decide (x13_3 < (l0.length : Int)) = true := decide_eq_true c30
                                            clear c30
                                            replace H := Option.bind_eq_some_iff.mp H
                                            obtain ⟨t116, A310, H⟩ := H
                                            replace H : (if (Int.tmod x11_4 (rd l1 x13_3)) = t116 then (galoisref04_Chinese.l3 k4 l0 l1 x11_4 (wrap64 (x12_3 * (wrap64 (Int.tdiv (rd l1 x13_3) t112)))) (wrap64 (x13_3 + 1))) else (galoisref04_Chinese.l4 k4 l0 l1 (wrap64 (x11_4 + x12_3)) x12_3 x13_3 (wrap64 (Int.tdiv (rd l1 x13_3) t112)))) = some (r1, r2, r3) := H
                                            have A31 := Aside0.mk A310
                                            clear A310
                                            by_cases c32 : (Int.tmod x11_4 (rd l1 x13_3)) = t116
                                            · rw [if_pos c32] at H
                                              have c32b0 : ((Int.tmod x11_4 (rd l1 x13_3)) == t116) = true := beq_iff_eq.mpr c32
                                              have c32b1 : ((Int.tmod x11_4 (rd l1 x13_3)) != t116) = false := bne_eq_false_iff_eq.mpr c32
                                              clear c32
                                              have H' := Aside0.mk H
                                              clear H
                                              have p113 : 0 ≤ (x13_3 : Int) := of_decide_eq_true (by first | (with_reducible assumption) | assumption)
                                              have q113 : x13_3 < (l1.length : Int) := of_decide_eq_true (by first | (with_reducible assumption) | assumption)
                                              obtain ⟨ad113, e113, hx113_0⟩ := Kd.at_int HR1.out x13_3 p113 q113
                                              obtain rfl : ad110 = ad113 := (by injection e113)
                                              replace p113 := eq_true p113
                                              replace q113 := eq_true q113
                                              have p114 : 0 ≤ (x13_3 : Int) := of_decide_eq_true (by first | (with_reducible assumption) | assumption)
                                              have q114 : x13_3 < (l0.length : Int) := of_decide_eq_true (by first | (with_reducible assumption) | assumption)
                                              obtain ⟨ad114, e114, hx114_0⟩ := Kd.at_int HR0.out x13_3 p114 q114
                                              cases e114
                                              replace p114 := eq_true p114
                                              replace q114 := eq_true q114
                                              have p115 : 0 ≤ (x13_3 : Int) := of_decide_eq_true (by first | (with_reducible assumption) | assumption)
                                              have q115 : x13_3 < (l1.length : Int) := of_decide_eq_true (by first | (with_reducible assumption) | assumption)
                                              obtain ⟨ad115, e115, hx115_0⟩ := Kd.at_int HR1.out x13_3 p115 q115
                                              obtain rfl : ad110 = ad115 := (by injection e115)
                                              replace p115 := eq_true p115
                                              replace q115 := eq_true q115
                                              go_wp2_with (first | (go_at_call 26; (with_reducible refine (galoisref04_Mod.calls (rd l0 x13_3) (rd l1 x13_3) t116 _ A31.out).mono ?_); rintro e w' ⟨rfl, ⟨nd, rfl⟩⟩; (try first | exact ⟨rfl, _, World.drewN_drewN _ _ _⟩ | exact ⟨rfl, _, Eq.trans (World.drewN_drewN _ _ _) (congrArg (World.drewN _) (Nat.add_assoc _ _ _))⟩)))
                                              repeat (go_quiet (first | (go_at_call 26; (with_reducible refine (galoisref04_Mod.calls (rd l0 x13_3) (rd l1 x13_3) t116 _ A31.out).mono ?_); rintro e w' ⟨rfl, ⟨nd, rfl⟩⟩; (try first | exact ⟨rfl, _, World.drewN_drewN _ _ _⟩ | exact ⟨rfl, _, Eq.trans (World.drewN_drewN _ _ _) (congrArg (World.drewN _) (Nat.add_assoc _ _ _))⟩))); try go_wp2_with (first | (go_at_call 26; (with_reducible refine (galoisref04_Mod.calls (rd l0 x13_3) (rd l1 x13_3) t116 _ A31.out).mono ?_); rintro e w' ⟨rfl, ⟨nd, rfl⟩⟩; (try first | exact ⟨rfl, _, World.drewN_drewN _ _ _⟩ | exact ⟨rfl, _, Eq.trans (World.drewN_drewN _ _ _) (congrArg (World.drewN _) (Nat.add_assoc _ _ _))⟩))))
                                              go_roundg k4
                                              case measure => have := HK1.out; have := HK2.out; have := HK3.out; have := HK4.out; omega
                                              case rel => exact ⟨(x11_4), (wrap64 (x12_3 * (wrap64 (Int.tdiv (rd l1 x13_3) t112)))), (wrap64 (x13_3 + 1)), (by first | rfl | (simp; done) | (simp [*]; done)), (by first | rfl | (simp; done) | (simp [*]; done)), (by first | rfl | (simp; done) | (simp [*]; done)), H', ⟨by have := HK1.out; have := HK2.out; have := HK3.out; have := HK4.out; omega⟩, by repeat (first | exact Drawn0.refl _ | apply Drawn0.step)⟩
                                            · rw [if_neg c32] at H
                                              have c32b0 : ((Int.tmod x11_4 (rd l1 x13_3)) == t116) = false := beq_eq_false_iff_ne.mpr c32
                                              have c32b1 : ((Int.tmod x11_4 (rd l1 x13_3)) != t116) = true := bne_iff_ne.mpr c32
                                              have H' := Aside0.mk H
                                              clear H
                                              have p113 : 0 ≤ (x13_3 : Int) := of_decide_eq_true (by first | (with_reducible assumption) | assumption)
                                              have q113 : x13_3 < (l1.length : Int) := of_decide_eq_true (by first | (with_reducible assumption) | assumption)
                                              obtain ⟨ad113, e113, hx113_0⟩ := Kd.at_int HR1.out x13_3 p113 q113
                                              obtain rfl : ad110 = ad113 := (by injection e113)
                                              replace p113 := eq_true p113
                                              replace q113 := eq_true q113
                                              have p114 : 0 ≤ (x13_3 : Int) := of_decide_eq_true (by first | (with_reducible assumption) | assumption)
                                              have q114 : x13_3 < (l0.length : Int) := of_decide_eq_true (by first | (with_reducible assumption) | assumption)
                                              obtain ⟨ad114, e114, hx114_0⟩ := Kd.at_int HR0.out x13_3 p114 q114
                                              cases e114
                                              replace p114 := eq_true p114
                                              replace q114 := eq_true q114
                                              have p115 : 0 ≤ (x13_3 : Int) := of_decide_eq_true (by first | (with_reducible assumption) | assumption)
                                              have q115 : x13_3 < (l1.length : Int) := of_decide_eq_true (by first | (with_reducible assumption) | assumption)
                                              obtain ⟨ad115, e115, hx115_0⟩ := Kd.at_int HR1.out x13_3 p115 q115
                                              obtain rfl : ad110 = ad115 := (by injection e115)
                                              replace p115 := eq_true p115
                                              replace q115 := eq_true q115
                                              go_wp2_with (first | (go_at_call 26; (with_reducible refine (galoisref04_Mod.calls (rd l0 x13_3) (rd l1 x13_3) t116 _ A31.out).mono ?_); rintro e w' ⟨rfl, ⟨nd, rfl⟩⟩; (try first | exact ⟨rfl, _, World.drewN_drewN _ _ _⟩ | exact ⟨rfl, _, Eq.trans (World.drewN_drewN _ _ _) (congrArg (World.drewN _) (Nat.add_assoc _ _ _))⟩)))
                                              repeat (go_quiet (first | (go_at_call 26; (with_reducible refine (galoisref04_Mod.calls (rd l0 x13_3) (rd l1 x13_3) t116 _ A31.out).mono ?_); rintro e w' ⟨rfl, ⟨nd, rfl⟩⟩; (try first | exact ⟨rfl, _, World.drewN_drewN _ _ _⟩ | exact ⟨rfl, _, Eq.trans (World.drewN_drewN _ _ _) (congrArg (World.drewN _) (Nat.add_assoc _ _ _))⟩))); try go_wp2_with (first | (go_at_call 26; (with_reducible refine (galoisref04_Mod.calls (rd l0 x13_3) (rd l1 x13_3) t116 _ A31.out).mono ?_); rintro e w' ⟨rfl, ⟨nd, rfl⟩⟩; (try first | exact ⟨rfl, _, World.drewN_drewN _ _ _⟩ | exact ⟨rfl, _, Eq.trans (World.drewN_drewN _ _ _) (congrArg (World.drewN _) (Nat.add_assoc _ _ _))⟩))))
                                              go_roundg k4
                                              case measure => have := HK1.out; have := HK2.out; have := HK3.out; have := HK4.out; omega
                                              case rel => exact ⟨(wrap64 (x11_4 + x12_3)), (by first | rfl | (simp; done) | (simp [*]; done)), H', ⟨by have := HK1.out; have := HK2.out; have := HK3.out; have := HK4.out; omega⟩, by repeat (first | exact Drawn0.refl _ | apply Drawn0.step)⟩
                                          · rw [if_neg c30] at H
                                            exact absurd H (by simp)
                                      · rw [if_neg c28] at H
                                        exact absurd H (by simp)
                                    · rw [if_neg c27] at H
                                      exact absurd H (by simp)
                        · rw [if_neg c22] at H
                          exact absurd H (by simp)
                      · rw [if_neg c21] at H
                        have c21b0 : decide (x13_3 < (l1.length : Int)) = false := decide_eq_false c21
                        clear c21
                        simp only [Option.some.injEq, Prod.mk.injEq] at H
                        obtain ⟨rfl, rfl, rfl⟩ := H
                        go_wp2
                        repeat (go_quiet (fail); try go_wp2)
                        go_ret3
                        exact ⟨by first | rfl | (simp; done) | (simp [*]; done), by repeat (first | exact Drawn0.refl _ | apply Drawn0.step)⟩
  · rw [if_neg c3] at H
    have c3b0 : ((l0.length : Int) == (l1.length : Int)) = false := beq_eq_false_iff_ne.mpr c3
    have c3b1 : ((l0.length : Int) != (l1.length : Int)) = true := bne_iff_ne.mpr c3
    have c3b2 : (l0.length == l1.length) = false := by first | simpa using c3 | (simp at c3 ⊢; omega)
    simp only [Option.some.injEq, Prod.mk.injEq] at H
    obtain ⟨rfl, rfl, rfl⟩ := H
    go_enter Try.func23, Try.ntmps23
    go_wp2
    repeat (go_quiet (fail); try go_wp2)
    go_ret3
    exact ⟨by first | rfl | (simp; done) | (simp [*]; done), by repeat (first | exact Drawn0.refl _ | apply Drawn0.step)⟩

end Go.Proofs.Ytmedflaejnbkoaa.Q

/- Machine side: a program of the session wrote this text (the kit's print.py and the session's own contracts). Conditions: none of its own. -/
import Derived.Test.YtmedflaejnbkoaaQ0
namespace Go.Proofs.Ytmedflaejnbkoaa.Q
open Go.RowKit Go.Proofs.YtmedflaejnbkoaaW.PrintWords Go.Proofs.YtmedflaejnbkoaaW.PrintLast Go.Proofs.YtmedflaejnbkoaaW.PrintMore
attribute [local go_sem] max2_int min2_int max_two min_two max_three min_three max_four min_four   -- for this text's walks alone
set_option linter.unusedVariables false
set_option linter.unusedSimpArgs false

/-! ### residue_bad: function 54 -/
def badP (n : Int) : Bool := decide (n < 1) || decide (2147483647 < n)
def badIdx : Nat → List Int → Int
  | _, [] => -1
  | i, x :: xs => if badP x = true then (i : Int) else badIdx (i + 1) xs

theorem bad1_calls (x : Int) (w : World) : Calls Try.prog 78 #[.int .i64 x] w fun e w' => e = .returned (.bool (badP x)) ∧ Drawn0 w w' := by
  by_cases h1 : x < 1
  · have b : badP x = true := by simp [badP, h1]
    have B := Aside0.mk b
    clear b
    go_enter Try.func78, Try.ntmps78
    go_wp2
    repeat (go_quiet (fail); try go_wp2)
    go_ret
    rw [B.out]
    exact ⟨rfl, by repeat (first | exact Drawn0.refl _ | apply Drawn0.step)⟩
  · have b : badP x = decide (2147483647 < x) := by simp [badP, h1]
    have B := Aside0.mk b
    clear b
    go_enter Try.func78, Try.ntmps78
    go_wp2
    repeat (go_quiet (fail); try go_wp2)
    go_ret
    rw [B.out]
    exact ⟨rfl, by repeat (first | exact Drawn0.refl _ | apply Drawn0.step)⟩

theorem badIdx_step (l : List Int) (i : Nat) (h : i < l.length) : badIdx i (l.drop i) = if badP (l.getD i 0) = true then (i : Int) else badIdx (i + 1) (l.drop (i + 1)) := by
  rw [List.drop_eq_getElem_cons h]
  simp only [badIdx, List.getD_eq_getElem?_getD, List.getElem?_eq_getElem h, Option.getD_some]

set_option maxHeartbeats 8000000 in
set_option maxRecDepth 100000 in
theorem IndexFunc_bad (A0 : Option Addr) (c0 : Nat) (l0 : List Int) (w : World) (hr0 : Kd.C (Kd.int .i64) w A0 l0.length l0) (hc0 : l0.length ≤ c0) :
    Calls Try.prog 101 #[.slice A0 l0.length c0, .func (.func 78) #[] #[]] w fun e w' => e = .returned (.int .i64 (badIdx 0 l0)) ∧ Drawn0 w w' := by
  have hmax := hr0.2.1
  have HR0 := Aside0.mk hr0
  have HC0 := Aside0.mk hc0
  clear hr0 hc0
  go_enter Try.func101, Try.ntmps101
  go_wp2
  repeat (go_quiet (fail); try go_wp2)
  go_loopg [8] l0.length (fun kq v8 w' => ∃ (x : Int), v8 = .int .i64 x ∧ Aside0 (0 ≤ x ∧ x + kq = l0.length ∧ badIdx 0 l0 = badIdx x.toNat (l0.drop x.toNat)) ∧ Drawn0 w w')
  case atStart => exact ⟨0, (by first | rfl | (simp; done) | (simp [*]; done)), ⟨by omega, by simp, by simp⟩, by repeat (first | exact Drawn0.refl _ | apply Drawn0.step)⟩
  case round =>
    obtain ⟨x, rfl, HA, ⟨m1, rfl⟩⟩ := hrel
    obtain ⟨hx0, hxk, hidx⟩ := HA.out
    have HI := Aside0.mk hidx
    clear hidx HA
    cases gk with
    | zero =>
      have c4b0 : decide (x < (l0.length : Int)) = false := decide_eq_false (by omega)
      have HE : Aside0 (badIdx 0 l0 = -1) := ⟨by rw [HI.out, List.drop_eq_nil_of_le (by omega)]; rfl⟩
      clear hxk
      go_wp2
      repeat (go_quiet (fail); try go_wp2)
      go_ret
      rw [HE.out]
      exact ⟨rfl, by repeat (first | exact Drawn0.refl _ | apply Drawn0.step)⟩
    | succ k1 =>
      have q257 : x < (l0.length : Int) := by omega
      have c4b0 : decide (x < (l0.length : Int)) = true := decide_eq_true q257
      have HS := Aside0.mk (badIdx_step l0 x.toNat (by omega))
      have HK := Aside0.mk hxk
      clear hxk
      obtain ⟨ad257, e257, hx257_0⟩ := Kd.at_int HR0.out x hx0 q257
      cases e257
      have HRD := Aside0.mk (show rd l0 x = l0.getD x.toNat 0 from rfl)
      replace hx0 := eq_true hx0
      replace q257 := eq_true q257
      cases hb : badP (rd l0 x) with
      | true =>
        have HE : Aside0 (badIdx 0 l0 = x) := ⟨by rw [HI.out, HS.out, if_pos (by rw [← HRD.out]; exact hb)]; have := of_eq_true hx0; omega⟩
        have HB := Aside0.mk hb
        clear hb
        go_wp2_with (first | (go_at_call 78; refine (bad1_calls _ _).mono ?_; rintro e w' ⟨rfl, ⟨nd, rfl⟩⟩; rw [HB.out]))
        go_ret
        rw [HE.out]
        exact ⟨rfl, by repeat (first | exact Drawn0.refl _ | apply Drawn0.step)⟩
      | false =>
        have HE : Aside0 (badIdx 0 l0 = badIdx (x.toNat + 1) (l0.drop (x.toNat + 1))) := ⟨by rw [HI.out, HS.out, if_neg (by rw [← HRD.out, hb]; simp)]⟩
        have HB := Aside0.mk hb
        clear hb
        go_wp2_with (first | (go_at_call 78; refine (bad1_calls _ _).mono ?_; rintro e w' ⟨rfl, ⟨nd, rfl⟩⟩; rw [HB.out]))
        go_roundg k1
        case measure => omega
        case rel => exact ⟨x + 1, by rw [show wrap64 (x + 1) = x + 1 by have := of_eq_true hx0; have := HK.out; unfold wrap64; omega], ⟨by have := of_eq_true hx0; omega, by have := HK.out; omega, by rw [HE.out, show (x + 1).toNat = x.toNat + 1 by have := of_eq_true hx0; omega]⟩, by repeat (first | exact Drawn0.refl _ | apply Drawn0.step)⟩

theorem badIdx_iff (l : List Int) : ∀ i, 0 ≤ badIdx i l ↔ l.any badP = true := by
  induction l with
  | nil => intro i; simp [badIdx]
  | cons x xs ih =>
    intro i
    have e : badIdx i (x :: xs) = if badP x = true then (i : Int) else badIdx (i + 1) xs := rfl
    rw [e, List.any_cons]
    by_cases h : badP x = true
    · rw [if_pos h, h]; simp
    · rw [if_neg h, ih (i + 1), Bool.eq_false_iff.2 h]; simp
theorem badIdx_ge (l : List Int) : decide (0 ≤ badIdx 0 l) = l.any badP := by
  rw [Bool.eq_iff_iff, decide_eq_true_eq]; exact badIdx_iff l 0

theorem ContainsFunc_bad (A0 : Option Addr) (c0 : Nat) (l0 : List Int) (w : World) (hr0 : Kd.C (Kd.int .i64) w A0 l0.length l0) (hc0 : l0.length ≤ c0) :
    Calls Try.prog 77 #[.slice A0 l0.length c0, .func (.func 78) #[] #[]] w fun e w' => e = .returned (.bool (l0.any badP)) ∧ Drawn0 w w' := by
  have HR0 := Aside0.mk hr0
  have HC0 := Aside0.mk hc0
  have HB := Aside0.mk (badIdx_ge l0)
  clear hr0 hc0
  go_enter Try.func77, Try.ntmps77
  go_wp2_with (first | (go_at_call 101; (with_reducible refine (IndexFunc_bad _ _ l0 _ HR0.out HC0.out).mono ?_); rintro e w' ⟨rfl, ⟨nd, rfl⟩⟩))
  repeat (go_quiet (first | (go_at_call 101; (with_reducible refine (IndexFunc_bad _ _ l0 _ HR0.out HC0.out).mono ?_); rintro e w' ⟨rfl, ⟨nd, rfl⟩⟩)); try go_wp2)
  go_ret
  exact ⟨by rw [← HB.out]; rfl, by repeat (first | exact Drawn0.refl _ | apply Drawn0.step)⟩

def residue_bad.f (a0 : List Int) : Option Bool := some (a0.any badP)
theorem residue_bad.calls (A0 : Option Addr) (c0 : Nat) (l0 : List Int) (r : Bool) (w : World) (hr0 : Kd.C (Kd.int .i64) w A0 l0.length l0) (hc0 : l0.length ≤ c0) (h : residue_bad.f l0 = some r) :
    Calls Try.prog 54 #[.slice A0 l0.length c0] w fun e w' => e = .returned (.bool r) ∧ Drawn0 w w' := by
  have HR0 := Aside0.mk hr0
  have HC0 := Aside0.mk hc0
  clear hr0 hc0
  obtain rfl := Option.some.inj h
  go_enter Try.func54, Try.ntmps54
  go_wp2_with (first | (go_at_call 77; (with_reducible refine (ContainsFunc_bad _ _ l0 _ HR0.out HC0.out).mono ?_); rintro e w' ⟨rfl, ⟨nd, rfl⟩⟩))
  go_ret
  exact ⟨rfl, by repeat (first | exact Drawn0.refl _ | apply Drawn0.step)⟩

end Go.Proofs.Ytmedflaejnbkoaa.Q

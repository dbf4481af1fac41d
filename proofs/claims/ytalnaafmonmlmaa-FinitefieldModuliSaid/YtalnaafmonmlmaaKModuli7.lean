/- Machine side and arithmetic of the law, put together by a program of the session. No conditions. -/
import Derived.Test.YtalnaafmonmlmaaKModuli4
import Derived.Test.YtalnaafmonmlmaaKModuli5
import Derived.Test.YtalnaafmonmlmaaKModuli6
section
namespace Go.Proofs.Ytalnaafmonmlmaa.Q
open Go.RowKit Go.Proofs.YtalnaafmonmlmaaW.PrintWords Go.Proofs.YtalnaafmonmlmaaW.PrintLast Go.Proofs.YtalnaafmonmlmaaW.PrintMore
attribute [local go_sem] max2_int min2_int max_two min_two max_three min_three max_four min_four
set_option linter.unusedVariables false
set_option linter.unusedSimpArgs false
set_option maxHeartbeats 8000000
set_option maxRecDepth 100000
def galoisref09_Gcd.l0 : Nat → Int → List Int → List Int → Option (List Int)
 | 0, _, _, _ => none
 | k + 1, x0, x1, x2 => if (x2.length : Int) > 0 then ((galoisref09_Mod.f k x0 x1 x2).bind fun t101 => (galoisref09_Gcd.l0 k x0 x2 t101)) else ((galoisref09_Monic.f k x0 x1).bind fun t104 => (some t104))
def galoisref09_Gcd.f (k : Nat) (a0 : Int) (l1 : List Int) (l2 : List Int) : Option (List Int) := galoisref09_Gcd.l0 k a0 l1 l2
theorem galoisref09_Gcd.mono_l : ∀ k, (∀ y0 y1 y2, LeO (galoisref09_Gcd.l0 k y0 y1 y2) (galoisref09_Gcd.l0 (k + 1) y0 y1 y2))
 | 0 => fun _ _ _ r h => by simp [galoisref09_Gcd.l0] at h
 | k + 1 => by
  have ih0 := galoisref09_Gcd.mono_l k
  intro y0 y1 y2
  unfold galoisref09_Gcd.l0
  with_reducible repeat' first | exact ih0 _ _ _ | exact galoisref09_Mod.mono _ _ _ _ | exact galoisref09_Monic.mono _ _ _ | exact LeO.refl _ | exact LeO.none _ | refine LeO.ite ?_ ?_ | refine LeO.bind ?_ (fun _ => ?_)
theorem galoisref09_Gcd.mono : ∀ a0 a1 a2 k, LeO (galoisref09_Gcd.f k a0 a1 a2) (galoisref09_Gcd.f (k + 1) a0 a1 a2) := by
 intro a0 a1 a2 k
 have ih0 := galoisref09_Gcd.mono_l k
 unfold galoisref09_Gcd.f
 with_reducible repeat' first | exact ih0 _ _ _ | exact galoisref09_Mod.mono _ _ _ _ | exact galoisref09_Monic.mono _ _ _ | exact LeO.refl _ | exact LeO.none _ | refine LeO.ite ?_ ?_ | refine LeO.bind ?_ (fun _ => ?_)
theorem galoisref09_Gcd.calls (k : Nat) (a0 : Int) (P1_ : Nat → Prop) (A1 : Option Addr) (c1 : Nat) (l1 : List Int) (P2_ : Nat → Prop) (A2 : Option Addr) (c2 : Nat) (l2 : List Int) (r : List Int) (w : World) (hs1 : Kd.V (Kd.int .i64) 3 w w.heap.size (fun k_ => P1_ k_) (.slice A1 l1.length c1) l1) (hs2 : Kd.V (Kd.int .i64) 3 w w.heap.size (fun k_ => P2_ k_) (.slice A2 l2.length c2) l2) (h : galoisref09_Gcd.f k a0 l1 l2 = some r) :
  Calls Try.prog 89 #[.int .i64 a0, .slice A1 l1.length c1, .slice A2 l2.length c2] w fun e w' => ∃ v0_ : Value, e = .returned (v0_) ∧ Kd.V (Kd.int .i64) 3 w' w.heap.size (fun k_ => ((P1_ k_ ∨ P2_ k_) ∨ w.heap.size ≤ k_)) v0_ r ∧ Below w.heap.size w w' := by
 have HO1 := Aside0.mk (show Kd.V (Kd.int .i64) 3 w w.heap.size (fun k_ => ((P1_ k_ ∨ P2_ k_) ∨ w.heap.size ≤ k_)) (.slice A1 l1.length c1) l1 from Kd.V_mono hs1 (fun k_ hk => .inl (.inl hk)))
 have HO2 := Aside0.mk (show Kd.V (Kd.int .i64) 3 w w.heap.size (fun k_ => ((P1_ k_ ∨ P2_ k_) ∨ w.heap.size ≤ k_)) (.slice A2 l2.length c2) l2 from Kd.V_mono hs2 (fun k_ hk => .inl (.inr hk)))
 have HB := Aside0.mk (Below.refl w.heap.size w)
 have H := h; clear h; unfold galoisref09_Gcd.f at H
 have H' := Aside0.mk H
 clear H
 go_enter Try.func89, Try.ntmps89
 go_wp2
 go_loopg [1, 2] k (fun kq v1 v2 w' => ∃ (x1_1 : List Int) (x2_1 : List Int), Aside0 (galoisref09_Gcd.l0 kq a0 x1_1 x2_1 = some r) ∧ Aside0 (kq ≤ k) ∧ Aside0 (Kd.V (Kd.int .i64) 3 w' w.heap.size (fun k_ => ((P1_ k_ ∨ P2_ k_) ∨ w.heap.size ≤ k_)) v1 x1_1) ∧ Aside0 (Kd.V (Kd.int .i64) 3 w' w.heap.size (fun k_ => ((P1_ k_ ∨ P2_ k_) ∨ w.heap.size ≤ k_)) v2 x2_1) ∧ Aside0 (Below w.heap.size w w'))
 case atStart => exact ⟨(l1), (l2), H', ⟨Nat.le_refl _⟩, ⟨zV HO1.out⟩, ⟨zV HO2.out⟩, ⟨zT⟩⟩
 case round =>
  clear H'
  try clear c1; try clear c2; try clear p2
  obtain ⟨x1_1, x2_1, HA, HK1, HO_1, HO_2, HB⟩ := hrel
  cases gk with
  | zero => exact absurd HA.out (by simp [galoisref09_Gcd.l0])
  | succ k1 =>
   have H := HA.out
   clear HA
   simp only [galoisref09_Gcd.l0] at H
   by_cases c4 : (x2_1.length : Int) > 0
   rotate_left
   ·rw [if_neg c4] at H
    have c4b0 : decide (0 < (x2_1.length : Int)) = false := decide_eq_false c4
    have c4b1 : decide (0 < x2_1.length) = false := decide_eq_false (by omega)
    clear c4
    obtain ⟨t104, A9, H⟩ := zO H
    obtain rfl := Option.some.inj H
    obtain ⟨Ao10, co10, eo10⟩ := Kd.V_slice HO_2.out
    subst eo10
    obtain ⟨Ao11, co11, eo11⟩ := Kd.V_slice HO_1.out
    subst eo11
    go_wp2_with (first | ((with_reducible refine gate_callee (f := 109) rfl ?_); refine zG (some 17) Try.func109 #[.int .i64 a0, .slice Ao11 x1_1.length co11] ?_; (with_reducible refine (galoisref09_Monic.calls k1 a0 _ _ x1_1 t104 _ (zC ((Kd.V_reads' HO_1.out).2.2)) ((Kd.V_reads' HO_1.out).2.1) A9.out).mono ?_); rintro e w12 ⟨v105, rfl, ho0, hb⟩; refine ⟨_, rfl, ?_⟩; replace HO_1 := zVb HO_1 hb; replace HO_2 := zVb HO_2 hb; have HO106 := zWV (fun k_ => ((P1_ k_ ∨ P2_ k_) ∨ w.heap.size ≤ k_)) ho0 HB (fun k_ hk_ => (.inr (Nat.le_trans (zS HB) hk_))); replace HB := zBb HB hb; (try clear hb); (try clear ho0)))
    go_ret
    exact ⟨_, zQ, zV HO106.out, zT⟩
   rw [if_pos c4] at H
   have c4b0 : decide (0 < (x2_1.length : Int)) = true := decide_eq_true c4
   have c4b1 : decide (0 < x2_1.length) = true := decide_eq_true (by omega)
   clear c4
   obtain ⟨t101, A5, H⟩ := zO H
   have H' := Aside0.mk H
   clear H
   obtain ⟨Ao6, co6, eo6⟩ := Kd.V_slice HO_2.out
   subst eo6
   obtain ⟨Ao7, co7, eo7⟩ := Kd.V_slice HO_1.out
   subst eo7
   go_wp2_with (first | ((with_reducible refine gate_callee (f := 86) rfl ?_); refine zG (some 14) Try.func86 #[.int .i64 a0, .slice Ao7 x1_1.length co7, .slice Ao6 x2_1.length co6] ?_; (with_reducible refine (galoisref09_Mod.calls k1 a0 _ _ x1_1 _ _ x2_1 t101 _ (zC ((Kd.V_reads' HO_1.out).2.2)) ((Kd.V_reads' HO_1.out).2.1) (zC ((Kd.V_reads' HO_2.out).2.2)) ((Kd.V_reads' HO_2.out).2.1) A5.out).mono ?_); rintro e w8 ⟨v102, rfl, ho0, hb⟩; refine ⟨_, rfl, ?_⟩; replace HO_1 := zVb HO_1 hb; replace HO_2 := zVb HO_2 hb; have HO103 := zWV (fun k_ => ((P1_ k_ ∨ P2_ k_) ∨ w.heap.size ≤ k_)) ho0 HB (fun k_ hk_ => (.inr (Nat.le_trans (zS HB) hk_))); replace HB := zBb HB hb; (try clear hb); (try clear ho0)))
   go_roundg k1
   case measure => have := HK1.out; omega
   case rel => exact ⟨(x2_1), (t101), H', ⟨by have := HK1.out; omega⟩, ⟨zV HO_2.out⟩, ⟨zV HO103.out⟩, ⟨zT⟩⟩
end Go.Proofs.Ytalnaafmonmlmaa.Q
end
section
namespace Go.Proofs.Ytalnaafmonmlmaa.Q
open Go.RowKit Go.Proofs.YtalnaafmonmlmaaW.PrintWords Go.Proofs.YtalnaafmonmlmaaW.PrintLast Go.Proofs.YtalnaafmonmlmaaW.PrintMore
attribute [local go_sem] max2_int min2_int max_two min_two max_three min_three max_four min_four
set_option linter.unusedVariables false
set_option linter.unusedSimpArgs false
set_option maxHeartbeats 8000000
set_option maxRecDepth 100000
def galoisref09_IsIrreducible.l0 : Nat → Int → List Int → List Int → Int → Option (Bool)
 | 0, _, _, _, _ => none
 | k + 1, x0, x1, x5, x6 => if (wrap64 (2 * x6)) ≤ (wrap64 ((x1.length : Int) - 1)) then ((galoisref01_FromInt.f k x0).bind fun t107 => ((galoisref09_PowMod.f k x0 x5 t107 x1).bind fun t108 => ((galoisref09_X.f).bind fun t111 => ((galoisref09_Sub.f k x0 t108 t111).bind fun t114 => ((galoisref09_Gcd.f k x0 t114 x1).bind fun t117 => (if (t117.length : Int) = 1 then (galoisref09_IsIrreducible.l0 k x0 x1 t108 (wrap64 (x6 + 1))) else (some false))))))) else (some true)
def galoisref09_IsIrreducible.f (k : Nat) (a0 : Int) (l1 : List Int) : Option (Bool) := if (l1.length : Int) < 2 then (some false) else ((galoisref09_X.f).bind fun t101 => ((galoisref09_Mod.f k a0 t101 l1).bind fun t104 => (galoisref09_IsIrreducible.l0 k a0 l1 t104 1)))
theorem galoisref09_IsIrreducible.mono_l : ∀ k, (∀ y0 y1 y2 y3, LeO (galoisref09_IsIrreducible.l0 k y0 y1 y2 y3) (galoisref09_IsIrreducible.l0 (k + 1) y0 y1 y2 y3))
 | 0 => fun _ _ _ _ r h => by simp [galoisref09_IsIrreducible.l0] at h
 | k + 1 => by
  have ih0 := galoisref09_IsIrreducible.mono_l k
  intro y0 y1 y2 y3
  unfold galoisref09_IsIrreducible.l0
  with_reducible repeat' first | exact ih0 _ _ _ _ | exact galoisref01_FromInt.mono _ _ | exact galoisref09_Gcd.mono _ _ _ _ | exact galoisref09_Mod.mono _ _ _ _ | exact galoisref09_PowMod.mono _ _ _ _ _ | exact galoisref09_Sub.mono _ _ _ _ | exact LeO.refl _ | exact LeO.none _ | refine LeO.ite ?_ ?_ | refine LeO.bind ?_ (fun _ => ?_)
theorem galoisref09_IsIrreducible.mono : ∀ a0 a1 k, LeO (galoisref09_IsIrreducible.f k a0 a1) (galoisref09_IsIrreducible.f (k + 1) a0 a1) := by
 intro a0 a1 k
 have ih0 := galoisref09_IsIrreducible.mono_l k
 unfold galoisref09_IsIrreducible.f
 with_reducible repeat' first | exact ih0 _ _ _ _ | exact galoisref01_FromInt.mono _ _ | exact galoisref09_Gcd.mono _ _ _ _ | exact galoisref09_Mod.mono _ _ _ _ | exact galoisref09_PowMod.mono _ _ _ _ _ | exact galoisref09_Sub.mono _ _ _ _ | exact LeO.refl _ | exact LeO.none _ | refine LeO.ite ?_ ?_ | refine LeO.bind ?_ (fun _ => ?_)
theorem galoisref09_IsIrreducible.calls (k : Nat) (a0 : Int) (A1 : Option Addr) (c1 : Nat) (l1 : List Int) (r : Bool) (w : World) (hr1 : Kd.C (Kd.int .i64) w A1 l1.length l1) (hc1 : l1.length ≤ c1) (h : galoisref09_IsIrreducible.f k a0 l1 = some r) :
  Calls Try.prog 48 #[.int .i64 a0, .slice A1 l1.length c1] w fun e w' => e = .returned (.bool r) ∧ Below w.heap.size w w' := by
 have HR1 := Aside0.mk hr1
 have HC1 := Aside0.mk hc1
 clear hr1 hc1
 have HB := Aside0.mk (Below.refl w.heap.size w)
 have H := h; clear h; unfold galoisref09_IsIrreducible.f at H
 by_cases c3 : (l1.length : Int) < 2
 ·rw [if_pos c3] at H
  have c3b0 : decide ((l1.length : Int) < 2) = true := decide_eq_true c3
  have c3b1 : decide (l1.length < 2) = true := decide_eq_true (by omega)
  clear c3
  obtain rfl := Option.some.inj H
  go_enter Try.func48, Try.ntmps48
  go_wp2
  go_ret
  exact ⟨zQ, zT⟩
 rw [if_neg c3] at H
 have c3b0 : decide ((l1.length : Int) < 2) = false := decide_eq_false c3
 have c3b1 : decide (l1.length < 2) = false := decide_eq_false (by omega)
 clear c3
 obtain ⟨t101, A4, H⟩ := zO H
 obtain ⟨t104, A5, H⟩ := zO H
 have H' := Aside0.mk H
 clear H
 go_enter Try.func48, Try.ntmps48
 go_wp2_with (first | ((with_reducible refine gate_callee (f := 87) rfl ?_); refine zG (some 11) Try.func87 #[] ?_; (with_reducible refine (galoisref09_X.calls  t101 _ A4.out).mono ?_); rintro e w6 ⟨v102, rfl, ho0, hb⟩; refine ⟨_, rfl, ?_⟩; have HO103 := Aside0.mk (Kd.R_lower ho0 (zS HB)); replace HB := zBb HB hb; (try clear hb); (try clear ho0); obtain ⟨Ao7, co7, eo7⟩ := Kd.R_slice HO103.out; subst eo7) | ((with_reducible refine gate_callee (f := 86) rfl ?_); refine zG (some 13) Try.func86 #[.int .i64 a0, .slice Ao7 t101.length co7, .slice A1 l1.length c1] ?_; (with_reducible refine (galoisref09_Mod.calls k a0 _ _ t101 _ _ l1 t104 _ (zC ((Kd.R_reads' HO103.out).2.2)) ((Kd.R_reads' HO103.out).2.1) (zC (Kd.C_below HR1.out HB.out)) HC1.out A5.out).mono ?_); rintro e w8 ⟨v105, rfl, ho0, hb⟩; refine ⟨_, rfl, ?_⟩; have HO106 := zWV (fun k_ => some k_ ≠ (.slice Ao7 t101.length co7 : Value).ownBlock) ho0 HB (fun k_ hk_ => (Kd.fresh' (Kd.R_lt (zR HO103.out)) k_ hk_)); replace HO103 := zRb HO103 hb; replace HB := zBb HB hb; (try clear hb); (try clear ho0)))
 go_loopg [5, 6] k (fun kq v5 v6 w' => ∃ (x5_1 : List Int) (x6_1 : Int), v6 = .int .i64 x6_1 ∧ Aside0 (galoisref09_IsIrreducible.l0 kq a0 l1 x5_1 x6_1 = some r) ∧ Aside0 (kq ≤ k) ∧ Aside0 (Kd.V (Kd.int .i64) 3 w' w.heap.size (fun _ => True) v5 x5_1) ∧ Aside0 (Below w.heap.size w w'))
 case atStart => exact ⟨(t104), (1), zX, H', ⟨Nat.le_refl _⟩, ⟨zV (Kd.V_mono HO106.out (fun _ hk => trivial))⟩, ⟨zT⟩⟩
 case round =>
  clear H'
  try clear c1; try clear p2; try clear c3; try clear c3b0; try clear c3b1; try clear c4; try clear c8
  obtain ⟨x5_1, x6_1, rfl, HA, HK1, HO_5, HB⟩ := hrel
  cases gk with
  | zero => exact absurd HA.out (by simp [galoisref09_IsIrreducible.l0])
  | succ k1 =>
   have H := HA.out
   clear HA
   simp only [galoisref09_IsIrreducible.l0] at H
   by_cases c9 : (wrap64 (2 * x6_1)) ≤ (wrap64 ((l1.length : Int) - 1))
   rotate_left
   ·rw [if_neg c9] at H
    have c9b0 := decide_eq_false c9; clear c9
    obtain rfl := Option.some.inj H
    go_wp2
    go_ret
    exact ⟨zQ, zT⟩
   rw [if_pos c9] at H
   have c9b0 := decide_eq_true c9; clear c9
   obtain ⟨t107, A10, H⟩ := zO H
   obtain ⟨t108, A11, H⟩ := zO H
   obtain ⟨t111, A12, H⟩ := zO H
   obtain ⟨t114, A13, H⟩ := zO H
   obtain ⟨t117, A14, H⟩ := zO H
   by_cases c15 : (t117.length : Int) = 1
   rotate_left
   ·rw [if_neg c15] at H
    obtain ⟨c15b0, c15b1⟩ := zU c15
    obtain rfl := Option.some.inj H
    go_wp2_with (first | ((with_reducible refine gate_callee (f := 35) rfl ?_); refine zG (some 25) Try.func35 #[.int .i64 a0] ?_; (with_reducible refine (galoisref01_FromInt.calls k1 a0 t107 _ A10.out).mono ?_); rintro e w26 ⟨rfl, hb⟩; refine ⟨_, rfl, ?_⟩; replace HO_5 := zVb HO_5 hb; replace HB := zBb HB hb; (try clear hb); obtain ⟨Ao27, co27, eo27⟩ := Kd.V_slice HO_5.out; subst eo27) | ((with_reducible refine gate_callee (f := 88) rfl ?_); refine zG (some 27) Try.func88 #[.int .i64 a0, .slice Ao27 x5_1.length co27, .string t107, .slice A1 l1.length c1] ?_; (with_reducible refine (galoisref09_PowMod.calls k1 a0 _ _ x5_1 t107 _ _ l1 t108 _ (zC ((Kd.V_reads' HO_5.out).2.2)) ((Kd.V_reads' HO_5.out).2.1) (zC (Kd.C_below HR1.out HB.out)) HC1.out A11.out).mono ?_); rintro e w28 ⟨v109, rfl, ho0, hb⟩; refine ⟨_, rfl, ?_⟩; replace HO_5 := zVb HO_5 hb; have HO110 := zWV (fun k_ => True) ho0 HB (fun k_ hk_ => trivial); replace HB := zBb HB hb; (try clear hb); (try clear ho0)) | ((with_reducible refine gate_callee (f := 87) rfl ?_); refine zG (some 31) Try.func87 #[] ?_; (with_reducible refine (galoisref09_X.calls  t111 _ A12.out).mono ?_); rintro e w29 ⟨v112, rfl, ho0, hb⟩; refine ⟨_, rfl, ?_⟩; replace HO_5 := Aside0.mk (Kd.V_elder' (zV HO_5.out) (Kd.R_base ho0) hb); replace HO110 := Aside0.mk (Kd.V_elder' (zV HO110.out) (Kd.R_base ho0) hb); have HO113 := Aside0.mk (Kd.R_lower ho0 (zS HB)); replace HB := zBb HB hb; (try clear hb); (try clear ho0); obtain ⟨Ao30, co30, eo30⟩ := Kd.V_slice HO110.out; subst eo30; obtain ⟨Ao31, co31, eo31⟩ := Kd.R_slice HO113.out; subst eo31) | ((with_reducible refine gate_callee (f := 65) rfl ?_); refine zG (some 32) Try.func65 #[.int .i64 a0, .slice Ao30 t108.length co30, .slice Ao31 t111.length co31] ?_; (with_reducible refine (galoisref09_Sub.calls k1 a0 _ _ t108 _ _ t111 t114 _ (zC ((Kd.V_reads' HO110.out).2.2)) ((Kd.V_reads' HO110.out).2.1) (zC ((Kd.R_reads' HO113.out).2.2)) ((Kd.R_reads' HO113.out).2.1) A13.out).mono ?_); rintro e w32 ⟨v115, rfl, ho0, hb⟩; refine ⟨_, rfl, ?_⟩; replace HO_5 := zVb HO_5 hb; replace HO110 := zVb HO110 hb; have HO116 := zWV (fun k_ => some k_ ≠ (.slice Ao31 t111.length co31 : Value).ownBlock) ho0 HB (fun k_ hk_ => (Kd.fresh' (Kd.R_lt (zR HO113.out)) k_ hk_)); replace HO113 := zRb HO113 hb; replace HB := zBb HB hb; (try clear hb); (try clear ho0); obtain ⟨Ao33, co33, eo33⟩ := Kd.V_slice HO116.out; subst eo33) | ((with_reducible refine gate_callee (f := 89) rfl ?_); refine zG (some 34) Try.func89 #[.int .i64 a0, .slice Ao33 t114.length co33, .slice A1 l1.length c1] ?_; (with_reducible refine (galoisref09_Gcd.calls k1 a0 (fun k_ => some k_ ≠ (.slice Ao31 t111.length co31 : Value).ownBlock) _ _ t114 (fun k_ => k_ < w.heap.size) _ _ l1 t117 _ HO116.out (Kd.V_mk HC1.out (Kd.F_below (Kd.C_F (Kd.heap_int .i64) HR1.out) (zT))) A14.out).mono ?_); rintro e w34 ⟨v118, rfl, ho0, hb⟩; refine ⟨_, rfl, ?_⟩; replace HO_5 := zVb HO_5 hb; replace HO110 := zVb HO110 hb; replace HO116 := zVb HO116 hb; have HO119 := zWV (fun k_ => some k_ ≠ (.slice Ao31 t111.length co31 : Value).ownBlock) ho0 HB (fun k_ hk_ => Or.elim hk_ (fun hs_ => Or.elim hs_ (fun hs_ => hs_) (fun hs_ => fun e_ => Nat.not_le.2 hs_ (Kd.R_base HO113.out k_ e_.symm))) (fun hn_ => (Kd.fresh' (Kd.R_lt (zR HO113.out)) k_ hn_))); replace HO113 := zRb HO113 hb; replace HB := zBb HB hb; (try clear hb); (try clear ho0); obtain ⟨Ao35, co35, eo35⟩ := Kd.V_slice HO119.out; subst eo35))
    go_ret
    exact ⟨zQ, zT⟩
   rw [if_pos c15] at H
   obtain ⟨c15b0, c15b1⟩ := zE c15; clear c15
   have H' := Aside0.mk H
   clear H
   go_wp2_with (first | ((with_reducible refine gate_callee (f := 35) rfl ?_); refine zG (some 25) Try.func35 #[.int .i64 a0] ?_; (with_reducible refine (galoisref01_FromInt.calls k1 a0 t107 _ A10.out).mono ?_); rintro e w16 ⟨rfl, hb⟩; refine ⟨_, rfl, ?_⟩; replace HO_5 := zVb HO_5 hb; replace HB := zBb HB hb; (try clear hb); obtain ⟨Ao17, co17, eo17⟩ := Kd.V_slice HO_5.out; subst eo17) | ((with_reducible refine gate_callee (f := 88) rfl ?_); refine zG (some 27) Try.func88 #[.int .i64 a0, .slice Ao17 x5_1.length co17, .string t107, .slice A1 l1.length c1] ?_; (with_reducible refine (galoisref09_PowMod.calls k1 a0 _ _ x5_1 t107 _ _ l1 t108 _ (zC ((Kd.V_reads' HO_5.out).2.2)) ((Kd.V_reads' HO_5.out).2.1) (zC (Kd.C_below HR1.out HB.out)) HC1.out A11.out).mono ?_); rintro e w18 ⟨v109, rfl, ho0, hb⟩; refine ⟨_, rfl, ?_⟩; replace HO_5 := zVb HO_5 hb; have HO110 := zWV (fun k_ => True) ho0 HB (fun k_ hk_ => trivial); replace HB := zBb HB hb; (try clear hb); (try clear ho0)) | ((with_reducible refine gate_callee (f := 87) rfl ?_); refine zG (some 31) Try.func87 #[] ?_; (with_reducible refine (galoisref09_X.calls  t111 _ A12.out).mono ?_); rintro e w19 ⟨v112, rfl, ho0, hb⟩; refine ⟨_, rfl, ?_⟩; replace HO_5 := Aside0.mk (Kd.V_elder' (zV HO_5.out) (Kd.R_base ho0) hb); replace HO110 := Aside0.mk (Kd.V_elder' (zV HO110.out) (Kd.R_base ho0) hb); have HO113 := Aside0.mk (Kd.R_lower ho0 (zS HB)); replace HB := zBb HB hb; (try clear hb); (try clear ho0); obtain ⟨Ao20, co20, eo20⟩ := Kd.V_slice HO110.out; subst eo20; obtain ⟨Ao21, co21, eo21⟩ := Kd.R_slice HO113.out; subst eo21) | ((with_reducible refine gate_callee (f := 65) rfl ?_); refine zG (some 32) Try.func65 #[.int .i64 a0, .slice Ao20 t108.length co20, .slice Ao21 t111.length co21] ?_; (with_reducible refine (galoisref09_Sub.calls k1 a0 _ _ t108 _ _ t111 t114 _ (zC ((Kd.V_reads' HO110.out).2.2)) ((Kd.V_reads' HO110.out).2.1) (zC ((Kd.R_reads' HO113.out).2.2)) ((Kd.R_reads' HO113.out).2.1) A13.out).mono ?_); rintro e w22 ⟨v115, rfl, ho0, hb⟩; refine ⟨_, rfl, ?_⟩; replace HO_5 := zVb HO_5 hb; replace HO110 := zVb HO110 hb; have HO116 := zWV (fun k_ => some k_ ≠ (.slice Ao21 t111.length co21 : Value).ownBlock) ho0 HB (fun k_ hk_ => (Kd.fresh' (Kd.R_lt (zR HO113.out)) k_ hk_)); replace HO113 := zRb HO113 hb; replace HB := zBb HB hb; (try clear hb); (try clear ho0); obtain ⟨Ao23, co23, eo23⟩ := Kd.V_slice HO116.out; subst eo23) | ((with_reducible refine gate_callee (f := 89) rfl ?_); refine zG (some 34) Try.func89 #[.int .i64 a0, .slice Ao23 t114.length co23, .slice A1 l1.length c1] ?_; (with_reducible refine (galoisref09_Gcd.calls k1 a0 (fun k_ => some k_ ≠ (.slice Ao21 t111.length co21 : Value).ownBlock) _ _ t114 (fun k_ => k_ < w.heap.size) _ _ l1 t117 _ HO116.out (Kd.V_mk HC1.out (Kd.F_below (Kd.C_F (Kd.heap_int .i64) HR1.out) (zT))) A14.out).mono ?_); rintro e w24 ⟨v118, rfl, ho0, hb⟩; refine ⟨_, rfl, ?_⟩; replace HO_5 := zVb HO_5 hb; replace HO110 := zVb HO110 hb; replace HO116 := zVb HO116 hb; have HO119 := zWV (fun k_ => some k_ ≠ (.slice Ao21 t111.length co21 : Value).ownBlock) ho0 HB (fun k_ hk_ => Or.elim hk_ (fun hs_ => Or.elim hs_ (fun hs_ => hs_) (fun hs_ => fun e_ => Nat.not_le.2 hs_ (Kd.R_base HO113.out k_ e_.symm))) (fun hn_ => (Kd.fresh' (Kd.R_lt (zR HO113.out)) k_ hn_))); replace HO113 := zRb HO113 hb; replace HB := zBb HB hb; (try clear hb); (try clear ho0); obtain ⟨Ao25, co25, eo25⟩ := Kd.V_slice HO119.out; subst eo25))
   go_roundg k1
   case measure => have := HK1.out; omega
   case rel => exact ⟨(t108), (wrap64 (x6_1 + 1)), zX, H', ⟨by have := HK1.out; omega⟩, ⟨zV (Kd.V_mono HO110.out (fun _ hk => trivial))⟩, ⟨zT⟩⟩
end Go.Proofs.Ytalnaafmonmlmaa.Q
end
section
namespace Go.Proofs.Ytalnaafmonmlmaa.Q
open Go.RowKit Go.Proofs.YtalnaafmonmlmaaW.PrintWords Go.Proofs.YtalnaafmonmlmaaW.PrintLast Go.Proofs.YtalnaafmonmlmaaW.PrintMore
attribute [local go_sem] max2_int min2_int max_two min_two max_three min_three max_four min_four
set_option linter.unusedVariables false
set_option linter.unusedSimpArgs false
set_option maxHeartbeats 8000000
set_option maxRecDepth 100000
def galoisref04_IsPrime.l0 : Nat → Int → Int → Option (Bool)
 | 0, _, _ => none
 | k + 1, x0, x3 => if (wrap64 (x3 * x3)) ≤ x0 then (if x3 = 0 then (none) else (if (Int.tmod x0 x3) = 0 then (some false) else (galoisref04_IsPrime.l0 k x0 (wrap64 (x3 + 1))))) else (some (decide (x0 > 1)))
def galoisref04_IsPrime.f (k : Nat) (a0 : Int) : Option (Bool) := galoisref04_IsPrime.l0 k a0 2
theorem galoisref04_IsPrime.mono_l : ∀ k, (∀ y0 y1, LeO (galoisref04_IsPrime.l0 k y0 y1) (galoisref04_IsPrime.l0 (k + 1) y0 y1))
 | 0 => fun _ _ r h => by simp [galoisref04_IsPrime.l0] at h
 | k + 1 => by
  have ih0 := galoisref04_IsPrime.mono_l k
  intro y0 y1
  unfold galoisref04_IsPrime.l0
  with_reducible repeat' first | exact ih0 _ _ | exact LeO.refl _ | exact LeO.none _ | refine LeO.ite ?_ ?_ | refine LeO.bind ?_ (fun _ => ?_)
theorem galoisref04_IsPrime.mono : ∀ a0 k, LeO (galoisref04_IsPrime.f k a0) (galoisref04_IsPrime.f (k + 1) a0) := by
 intro a0 k
 have ih0 := galoisref04_IsPrime.mono_l k
 unfold galoisref04_IsPrime.f
 with_reducible repeat' first | exact ih0 _ _ | exact LeO.refl _ | exact LeO.none _ | refine LeO.ite ?_ ?_ | refine LeO.bind ?_ (fun _ => ?_)
theorem galoisref04_IsPrime.calls (k : Nat) (a0 : Int) (r : Bool) (w : World) (h : galoisref04_IsPrime.f k a0 = some r) :
  Calls Try.prog 44 #[.int .i64 a0] w fun e w' => e = .returned (.bool r) ∧ Drawn0 w w' := by
 have H := h; clear h; unfold galoisref04_IsPrime.f at H
 have H' := Aside0.mk H
 clear H
 go_enter Try.func44, Try.ntmps44
 go_wp2
 go_loopg [3] k (fun kq v3 w' => ∃ (x3_1 : Int), v3 = .int .i64 x3_1 ∧ Aside0 (galoisref04_IsPrime.l0 kq a0 x3_1 = some r) ∧ Aside0 (kq ≤ k) ∧ Drawn0 w w')
 case atStart => exact ⟨(2), zX, H', ⟨Nat.le_refl _⟩, by repeat (first | exact Drawn0.refl _ | apply Drawn0.step)⟩
 case round =>
  clear H'
  obtain ⟨x3_1, rfl, HA, HK1, ⟨m1, rfl⟩⟩ := hrel
  cases gk with
  | zero => exact absurd HA.out (by simp [galoisref04_IsPrime.l0])
  | succ k1 =>
   have H := HA.out
   clear HA
   simp only [galoisref04_IsPrime.l0] at H
   by_cases c2 : (wrap64 (x3_1 * x3_1)) ≤ a0
   rotate_left
   ·rw [if_neg c2] at H
    have c2b0 := decide_eq_false c2; clear c2
    obtain rfl := Option.some.inj H
    go_wp2
    go_ret
    exact ⟨by first | rfl | (simp; done) | (simp [*]; done), by repeat (first | exact Drawn0.refl _ | apply Drawn0.step)⟩
   rw [if_pos c2] at H
   have c2b0 := decide_eq_true c2; clear c2
   by_cases c3 : x3_1 = 0
   ·rw [if_pos c3] at H
    exact absurd H (by simp)
   rw [if_neg c3] at H
   obtain ⟨c3b0, c3b1⟩ := zU c3
   by_cases c4 : (Int.tmod a0 x3_1) = 0
   ·rw [if_pos c4] at H
    obtain ⟨c4b0, c4b1⟩ := zE c4; clear c4
    obtain rfl := Option.some.inj H
    go_wp2
    go_ret
    exact ⟨by first | rfl | (simp; done) | (simp [*]; done), by repeat (first | exact Drawn0.refl _ | apply Drawn0.step)⟩
   rw [if_neg c4] at H
   obtain ⟨c4b0, c4b1⟩ := zU c4
   have H' := Aside0.mk H
   clear H
   go_wp2
   go_roundg k1
   case measure => have := HK1.out; omega
   case rel => exact ⟨(wrap64 (x3_1 + 1)), zX, H', ⟨by have := HK1.out; omega⟩, by repeat (first | exact Drawn0.refl _ | apply Drawn0.step)⟩
end Go.Proofs.Ytalnaafmonmlmaa.Q
end
section
namespace Go.Proofs.Ytalnaafmonmlmaa.Q
open Go.RowKit Go.Proofs.YtalnaafmonmlmaaW.PrintWords Go.Proofs.YtalnaafmonmlmaaW.PrintLast Go.Proofs.YtalnaafmonmlmaaW.PrintMore
attribute [local go_sem] max2_int min2_int max_two min_two max_three min_three max_four min_four
set_option linter.unusedVariables false
set_option linter.unusedSimpArgs false
set_option maxHeartbeats 8000000
set_option maxRecDepth 100000
def galoisref09_IsPrime.f (k : Nat) (a0 : Int) : Option (Bool) := if a0 ≥ 2 then (if a0 ≤ 65521 then ((galoisref04_IsPrime.f k a0).bind fun t101 => (some t101)) else (some false)) else (some false)
theorem galoisref09_IsPrime.mono : ∀ a0 k, LeO (galoisref09_IsPrime.f k a0) (galoisref09_IsPrime.f (k + 1) a0) := by
 intro a0 k
 unfold galoisref09_IsPrime.f
 with_reducible repeat' first | exact galoisref04_IsPrime.mono _ _ | exact LeO.refl _ | exact LeO.none _ | refine LeO.ite ?_ ?_ | refine LeO.bind ?_ (fun _ => ?_)
theorem galoisref09_IsPrime.calls (k : Nat) (a0 : Int) (r : Bool) (w : World) (h : galoisref09_IsPrime.f k a0 = some r) :
  Calls Try.prog 10 #[.int .i64 a0] w fun e w' => e = .returned (.bool r) ∧ Drawn0 w w' := by
 have H := h; clear h; unfold galoisref09_IsPrime.f at H
 by_cases c2 : a0 ≥ 2
 rotate_left
 ·rw [if_neg c2] at H
  have c2b0 := decide_eq_false c2; clear c2
  obtain rfl := Option.some.inj H
  go_enter Try.func10, Try.ntmps10
  go_wp2
  go_ret
  exact ⟨by first | rfl | (simp; done) | (simp [*]; done), by repeat (first | exact Drawn0.refl _ | apply Drawn0.step)⟩
 rw [if_pos c2] at H
 have c2b0 := decide_eq_true c2; clear c2
 by_cases c3 : a0 ≤ 65521
 rotate_left
 ·rw [if_neg c3] at H
  have c3b0 := decide_eq_false c3; clear c3
  obtain rfl := Option.some.inj H
  go_enter Try.func10, Try.ntmps10
  go_wp2
  go_ret
  exact ⟨by first | rfl | (simp; done) | (simp [*]; done), by repeat (first | exact Drawn0.refl _ | apply Drawn0.step)⟩
 rw [if_pos c3] at H
 have c3b0 := decide_eq_true c3; clear c3
 obtain ⟨t101, A4, H⟩ := zO H
 obtain rfl := Option.some.inj H
 go_enter Try.func10, Try.ntmps10
 go_wp2_with (first | (go_at_call 44; (with_reducible refine (galoisref04_IsPrime.calls k a0 t101 _ A4.out).mono ?_); rintro e w' ⟨rfl, ⟨nd, rfl⟩⟩))
 go_ret
 exact ⟨by first | rfl | (simp; done) | (simp [*]; done), by repeat (first | exact Drawn0.refl _ | apply Drawn0.step)⟩
end Go.Proofs.Ytalnaafmonmlmaa.Q
end
section
namespace Go.Proofs.Ytalnaafmonmlmaa.Q
open Go.RowKit Go.Proofs.YtalnaafmonmlmaaW.PrintWords Go.Proofs.YtalnaafmonmlmaaW.PrintLast Go.Proofs.YtalnaafmonmlmaaW.PrintMore
attribute [local go_sem] max2_int min2_int max_two min_two max_three min_three max_four min_four
set_option linter.unusedVariables false
set_option linter.unusedSimpArgs false
set_option maxHeartbeats 8000000
set_option maxRecDepth 100000
def galoisref09_Check.l0 : Nat → Int → List Int → Int → Option (Int)
 | 0, _, _, _ => none
 | k + 1, x0, x1, x5 => if x5 < (x1.length : Int) then (if 0 ≤ x5 then (if (rd x1 x5) < 0 then (some 1) else (if (rd x1 x5) ≥ x0 then (some 1) else (galoisref09_Check.l0 k x0 x1 (wrap64 (x5 + 1))))) else (none)) else (if (x1.length : Int) > 0 then (if 0 ≤ (wrap64 ((x1.length : Int) - 1)) then (if (wrap64 ((x1.length : Int) - 1)) < (x1.length : Int) then (if (rd x1 (wrap64 ((x1.length : Int) - 1))) = 0 then (some 1) else (some 0)) else (none)) else (none)) else (some 0))
def galoisref09_Check.f (k : Nat) (a0 : Int) (l1 : List Int) : Option (Int) := (galoisref09_IsPrime.f k a0).bind fun t101 => (if t101 = true then (if (l1.length : Int) > 65 then (some 4) else (galoisref09_Check.l0 k a0 l1 0)) else (some 7))
theorem galoisref09_Check.mono_l : ∀ k, (∀ y0 y1 y2, LeO (galoisref09_Check.l0 k y0 y1 y2) (galoisref09_Check.l0 (k + 1) y0 y1 y2))
 | 0 => fun _ _ _ r h => by simp [galoisref09_Check.l0] at h
 | k + 1 => by
  have ih0 := galoisref09_Check.mono_l k
  intro y0 y1 y2
  unfold galoisref09_Check.l0
  with_reducible repeat' first | exact ih0 _ _ _ | exact galoisref09_IsPrime.mono _ _ | exact LeO.refl _ | exact LeO.none _ | refine LeO.ite ?_ ?_ | refine LeO.bind ?_ (fun _ => ?_)
theorem galoisref09_Check.mono : ∀ a0 a1 k, LeO (galoisref09_Check.f k a0 a1) (galoisref09_Check.f (k + 1) a0 a1) := by
 intro a0 a1 k
 have ih0 := galoisref09_Check.mono_l k
 unfold galoisref09_Check.f
 with_reducible repeat' first | exact ih0 _ _ _ | exact galoisref09_IsPrime.mono _ _ | exact LeO.refl _ | exact LeO.none _ | refine LeO.ite ?_ ?_ | refine LeO.bind ?_ (fun _ => ?_)
theorem galoisref09_Check.calls (k : Nat) (a0 : Int) (A1 : Option Addr) (c1 : Nat) (l1 : List Int) (r : Int) (w : World) (hr1 : Kd.C (Kd.int .i64) w A1 l1.length l1) (hc1 : l1.length ≤ c1) (h : galoisref09_Check.f k a0 l1 = some r) :
  Calls Try.prog 62 #[.int .i64 a0, .slice A1 l1.length c1] w fun e w' => e = .returned (.int .i64 r) ∧ Drawn0 w w' := by
 have HR1 := Aside0.mk hr1
 have HC1 := Aside0.mk hc1
 clear hr1 hc1
 have H := h; clear h; unfold galoisref09_Check.f at H
 obtain ⟨t101, A3, H⟩ := zO H
 by_cases c4 : t101 = true
 rotate_left
 ·replace c4 := Bool.eq_false_iff.mpr c4
  subst c4
  rw [if_neg Bool.false_ne_true] at H
  obtain rfl := Option.some.inj H
  go_enter Try.func62, Try.ntmps62
  go_wp2_with (first | ((with_reducible refine gate_callee (f := 10) rfl ?_); refine zG (some 7) Try.func10 #[.int .i64 a0] ?_; (with_reducible refine (galoisref09_IsPrime.calls k a0 false _ A3.out).mono ?_); rintro e w' ⟨rfl, ⟨nd, rfl⟩⟩; refine ⟨_, rfl, ?_⟩))
  go_ret
  exact ⟨by first | rfl | (simp; done) | (simp [*]; done), by repeat (first | exact Drawn0.refl _ | apply Drawn0.step)⟩
 subst c4
 rw [if_pos rfl] at H
 by_cases c5 : (l1.length : Int) > 65
 ·rw [if_pos c5] at H
  have c5b0 : decide (65 < (l1.length : Int)) = true := decide_eq_true c5
  have c5b1 : decide (65 < l1.length) = true := decide_eq_true (by omega)
  clear c5
  obtain rfl := Option.some.inj H
  go_enter Try.func62, Try.ntmps62
  go_wp2_with (first | ((with_reducible refine gate_callee (f := 10) rfl ?_); refine zG (some 7) Try.func10 #[.int .i64 a0] ?_; (with_reducible refine (galoisref09_IsPrime.calls k a0 true _ A3.out).mono ?_); rintro e w' ⟨rfl, ⟨nd, rfl⟩⟩; refine ⟨_, rfl, ?_⟩))
  go_ret
  exact ⟨by first | rfl | (simp; done) | (simp [*]; done), by repeat (first | exact Drawn0.refl _ | apply Drawn0.step)⟩
 rw [if_neg c5] at H
 have c5b0 : decide (65 < (l1.length : Int)) = false := decide_eq_false c5
 have c5b1 : decide (65 < l1.length) = false := decide_eq_false (by omega)
 clear c5
 have H' := Aside0.mk H
 clear H
 go_enter Try.func62, Try.ntmps62
 go_wp2_with (first | ((with_reducible refine gate_callee (f := 10) rfl ?_); refine zG (some 7) Try.func10 #[.int .i64 a0] ?_; (with_reducible refine (galoisref09_IsPrime.calls k a0 true _ A3.out).mono ?_); rintro e w' ⟨rfl, ⟨nd, rfl⟩⟩; refine ⟨_, rfl, ?_⟩))
 go_loopg [5] k (fun kq v5 w' => ∃ (x5_1 : Int), v5 = .int .i64 x5_1 ∧ Aside0 (galoisref09_Check.l0 kq a0 l1 x5_1 = some r) ∧ Aside0 (kq ≤ k) ∧ Drawn0 w w')
 case atStart => exact ⟨(0), zX, H', ⟨Nat.le_refl _⟩, by repeat (first | exact Drawn0.refl _ | apply Drawn0.step)⟩
 case round =>
  clear H'
  try clear c1; try clear p2; try clear c4; try clear c5; try clear c5b0; try clear c5b1
  obtain ⟨x5_1, rfl, HA, HK1, ⟨m1, rfl⟩⟩ := hrel
  cases gk with
  | zero => exact absurd HA.out (by simp [galoisref09_Check.l0])
  | succ k1 =>
   have H := HA.out
   clear HA
   simp only [galoisref09_Check.l0] at H
   by_cases c6 : x5_1 < (l1.length : Int)
   ·rw [if_pos c6] at H
    have c6b0 := decide_eq_true c6; clear c6
    by_cases c7 : 0 ≤ x5_1
    rotate_left
    ·rw [if_neg c7] at H
     exact absurd H (by simp)
    rw [if_pos c7] at H
    have c7b0 := decide_eq_true c7; clear c7
    by_cases c8 : (rd l1 x5_1) < 0
    ·rw [if_pos c8] at H
     have c8b0 := decide_eq_true c8; clear c8
     obtain rfl := Option.some.inj H
     obtain ⟨p102, q102, ad102, e102, hx102_0⟩ := zI (HR1.out) (x5_1) zD zD
     cases e102
     go_wp2
     go_ret
     exact ⟨by first | rfl | (simp; done) | (simp [*]; done), by repeat (first | exact Drawn0.refl _ | apply Drawn0.step)⟩
    rw [if_neg c8] at H
    have c8b0 := decide_eq_false c8; clear c8
    by_cases c9 : (rd l1 x5_1) ≥ a0
    ·rw [if_pos c9] at H
     have c9b0 := decide_eq_true c9; clear c9
     obtain rfl := Option.some.inj H
     obtain ⟨p102, q102, ad102, e102, hx102_0⟩ := zI (HR1.out) (x5_1) zD zD
     cases e102
     obtain ⟨p103, q103, ad103, e103, hx103_0⟩ := zI (HR1.out) (x5_1) zD zD
     obtain rfl : ad102 = ad103 := (by injection e103)
     go_wp2
     go_ret
     exact ⟨by first | rfl | (simp; done) | (simp [*]; done), by repeat (first | exact Drawn0.refl _ | apply Drawn0.step)⟩
    rw [if_neg c9] at H
    have c9b0 := decide_eq_false c9; clear c9
    have H' := Aside0.mk H
    clear H
    obtain ⟨p102, q102, ad102, e102, hx102_0⟩ := zI (HR1.out) (x5_1) zD zD
    cases e102
    obtain ⟨p103, q103, ad103, e103, hx103_0⟩ := zI (HR1.out) (x5_1) zD zD
    obtain rfl : ad102 = ad103 := (by injection e103)
    go_wp2
    go_roundg k1
    case measure => have := HK1.out; omega
    case rel => exact ⟨(wrap64 (x5_1 + 1)), zX, H', ⟨by have := HK1.out; omega⟩, by repeat (first | exact Drawn0.refl _ | apply Drawn0.step)⟩
   rw [if_neg c6] at H
   have c6b0 := decide_eq_false c6; clear c6
   by_cases c10 : (l1.length : Int) > 0
   rotate_left
   ·rw [if_neg c10] at H
    have c10b0 : decide (0 < (l1.length : Int)) = false := decide_eq_false c10
    have c10b1 : decide (0 < l1.length) = false := decide_eq_false (by omega)
    clear c10
    obtain rfl := Option.some.inj H
    go_wp2
    go_ret
    exact ⟨by first | rfl | (simp; done) | (simp [*]; done), by repeat (first | exact Drawn0.refl _ | apply Drawn0.step)⟩
   rw [if_pos c10] at H
   have c10b0 : decide (0 < (l1.length : Int)) = true := decide_eq_true c10
   have c10b1 : decide (0 < l1.length) = true := decide_eq_true (by omega)
   clear c10
   obtain ⟨ji11, hji11⟩ : ∃ j_ : Int, (wrap64 ((l1.length : Int) - 1)) = j_ := ⟨_, rfl⟩
   first | rw [hji11] at H | simp only [hji11] at H
   have hji11w : (IntKind.i64.wrap ((l1.length : Int) - 1)) = ji11 := (i64_w _).trans hji11
   by_cases c12 : 0 ≤ (ji11)
   rotate_left
   ·rw [if_neg c12] at H
    exact absurd H (by simp)
   rw [if_pos c12] at H
   have c12b0 := decide_eq_true c12; clear c12
   by_cases c13 : (ji11) < (l1.length : Int)
   rotate_left
   ·rw [if_neg c13] at H
    exact absurd H (by simp)
   rw [if_pos c13] at H
   have c13b0 := decide_eq_true c13; clear c13
   by_cases c14 : (rd l1 (ji11)) = 0
   rotate_left
   ·rw [if_neg c14] at H
    obtain ⟨c14b0, c14b1⟩ := zU c14
    obtain rfl := Option.some.inj H
    obtain ⟨p104, q104, ad104, e104, hx104_0⟩ := zI (HR1.out) ((ji11)) zD zD
    cases e104
    go_wp2
    go_ret
    exact ⟨by first | rfl | (simp; done) | (simp only [← hji11] <;> (first | rfl | simp)) | (simp [*]; done), by repeat (first | exact Drawn0.refl _ | apply Drawn0.step)⟩
   rw [if_pos c14] at H
   obtain ⟨c14b0, c14b1⟩ := zE c14; clear c14
   obtain rfl := Option.some.inj H
   obtain ⟨p104, q104, ad104, e104, hx104_0⟩ := zI (HR1.out) ((ji11)) zD zD
   cases e104
   go_wp2
   go_ret
   exact ⟨by first | rfl | (simp; done) | (simp only [← hji11] <;> (first | rfl | simp)) | (simp [*]; done), by repeat (first | exact Drawn0.refl _ | apply Drawn0.step)⟩
end Go.Proofs.Ytalnaafmonmlmaa.Q
end
section
namespace Go.Proofs.Ytalnaafmonmlmaa.Q
open Go.RowKit Go.Proofs.YtalnaafmonmlmaaW.PrintWords Go.Proofs.YtalnaafmonmlmaaW.PrintLast Go.Proofs.YtalnaafmonmlmaaW.PrintMore
attribute [local go_sem] max2_int min2_int max_two min_two max_three min_three max_four min_four
set_option linter.unusedVariables false
set_option linter.unusedSimpArgs false
set_option maxHeartbeats 8000000
set_option maxRecDepth 100000
def galoisref15_Check.j0 : Nat → Bool → Int → List Int → Option (Int)
 | 0, _, _, _ => none
 | k + 1, x18, x102000, x102001 => if x18 = true then (some 1) else ((galoisref09_IsIrreducible.f k x102000 x102001).bind fun t104 => (if t104 = true then (some 0) else (some 8)))
def galoisref15_Check.f (k : Nat) (a0_0 : Int) (l0_1 : List Int) : Option (Int) := (galoisref09_Check.f k a0_0 l0_1).bind fun t102 => (if t102 = 0 then (if (l0_1.length : Int) > 17 then (some 4) else (if (l0_1.length : Int) < 2 then (galoisref15_Check.j0 k true a0_0 l0_1) else ((galoisref09_Lead.f l0_1).bind fun t103 => (galoisref15_Check.j0 k (t103 != 1) a0_0 l0_1)))) else (some t102))
theorem galoisref15_Check.mono_l : ∀ k, (∀ y0 y1 y2, LeO (galoisref15_Check.j0 k y0 y1 y2) (galoisref15_Check.j0 (k + 1) y0 y1 y2))
 | 0 => fun _ _ _ r h => by simp [galoisref15_Check.j0] at h
 | k + 1 => by
  have ih0 := galoisref15_Check.mono_l k
  intro y0 y1 y2
  unfold galoisref15_Check.j0
  with_reducible repeat' first | exact ih0 _ _ _ | exact galoisref09_Check.mono _ _ _ | exact galoisref09_IsIrreducible.mono _ _ _ | exact LeO.refl _ | exact LeO.none _ | refine LeO.ite ?_ ?_ | refine LeO.bind ?_ (fun _ => ?_)
theorem galoisref15_Check.mono : ∀ a0 a1 k, LeO (galoisref15_Check.f k a0 a1) (galoisref15_Check.f (k + 1) a0 a1) := by
 intro a0 a1 k
 have ih0 := galoisref15_Check.mono_l k
 unfold galoisref15_Check.f
 with_reducible repeat' first | exact ih0 _ _ _ | exact galoisref09_Check.mono _ _ _ | exact galoisref09_IsIrreducible.mono _ _ _ | exact LeO.refl _ | exact LeO.none _ | refine LeO.ite ?_ ?_ | refine LeO.bind ?_ (fun _ => ?_)
theorem galoisref15_Check.calls (k : Nat) (a0_0 : Int) (A0_1 : Option Addr) (c0_1 : Nat) (l0_1 : List Int) (r : Int) (w : World) (hr0_1 : Kd.C (Kd.int .i64) w A0_1 l0_1.length l0_1) (hc0_1 : l0_1.length ≤ c0_1) (h : galoisref15_Check.f k a0_0 l0_1 = some r) :
  Calls Try.prog 24 #[.agg #[.int .i64 a0_0, .slice A0_1 l0_1.length c0_1]] w fun e w' => e = .returned (.int .i64 r) ∧ Below w.heap.size w w' := by
 have hu33 := Try.underlying33
 have HR0_1 := Aside0.mk hr0_1
 have HC0_1 := Aside0.mk hc0_1
 clear hr0_1 hc0_1
 have HB := Aside0.mk (Below.refl w.heap.size w)
 have H := h; clear h; unfold galoisref15_Check.f at H
 obtain ⟨t102, A2, H⟩ := zO H
 by_cases c3 : t102 = 0
 rotate_left
 ·rw [if_neg c3] at H
  obtain ⟨c3b0, c3b1⟩ := zU c3
  obtain rfl := Option.some.inj H
  go_enter Try.func24, Try.ntmps24
  go_wp2_with (first | ((with_reducible refine gate_dst (N := 1) rfl ?_); refine zb 1 #[.int .i64 a0_0, .slice A0_1 l0_1.length c0_1] 33 ?_; intro gb101 hg w21 hbox hb; have BK101 := Aside0.mk (hbox); have GW101 := zg HB hg; have GE101 := GW101; replace HB := zBb HB hb; clear hb hbox hg; have hcz22_0 := zc BK101 0; have hcz22_1 := zc BK101 1; have hfz22_0 := blk_frozen BK101.out 0; have hfz22_1 := blk_frozen BK101.out 1) | ((with_reducible refine gate_callee (f := 62) rfl ?_); refine zG (some 8) Try.func62 #[.int .i64 a0_0, .slice A0_1 l0_1.length c0_1] ?_; (with_reducible refine (galoisref09_Check.calls k a0_0 _ _ l0_1 t102 _ (zC (Kd.C_below HR0_1.out HB.out)) HC0_1.out A2.out).mono ?_); rintro e w' ⟨rfl, ⟨nd, rfl⟩⟩; refine ⟨_, rfl, ?_⟩))
  go_ret
  exact ⟨zQ, zT⟩
 rw [if_pos c3] at H
 obtain ⟨c3b0, c3b1⟩ := zE c3; clear c3
 by_cases c4 : (l0_1.length : Int) > 17
 ·rw [if_pos c4] at H
  have c4b0 : decide (17 < (l0_1.length : Int)) = true := decide_eq_true c4
  have c4b1 : decide (17 < l0_1.length) = true := decide_eq_true (by omega)
  clear c4
  obtain rfl := Option.some.inj H
  go_enter Try.func24, Try.ntmps24
  go_wp2_with (first | ((with_reducible refine gate_dst (N := 1) rfl ?_); refine zb 1 #[.int .i64 a0_0, .slice A0_1 l0_1.length c0_1] 33 ?_; intro gb101 hg w5 hbox hb; have BK101 := Aside0.mk (hbox); have GW101 := zg HB hg; have GE101 := GW101; replace HB := zBb HB hb; clear hb hbox hg; have hcz6_0 := zc BK101 0; have hcz6_1 := zc BK101 1; have hfz6_0 := blk_frozen BK101.out 0; have hfz6_1 := blk_frozen BK101.out 1) | ((with_reducible refine gate_callee (f := 62) rfl ?_); refine zG (some 8) Try.func62 #[.int .i64 a0_0, .slice A0_1 l0_1.length c0_1] ?_; (with_reducible refine (galoisref09_Check.calls k a0_0 _ _ l0_1 t102 _ (zC (Kd.C_below HR0_1.out HB.out)) HC0_1.out A2.out).mono ?_); rintro e w' ⟨rfl, ⟨nd, rfl⟩⟩; refine ⟨_, rfl, ?_⟩))
  go_ret
  exact ⟨zQ, zT⟩
 rw [if_neg c4] at H
 have c4b0 : decide (17 < (l0_1.length : Int)) = false := decide_eq_false c4
 have c4b1 : decide (17 < l0_1.length) = false := decide_eq_false (by omega)
 clear c4
 have HC7 := Aside0.mk H
 clear H
 go_enter Try.func24, Try.ntmps24
 go_upto_region 6 with (first | ((with_reducible refine gate_dst (N := 1) rfl ?_); refine zb 1 #[.int .i64 a0_0, .slice A0_1 l0_1.length c0_1] 33 ?_; intro gb101 hg w8 hbox hb; have BK101 := Aside0.mk (hbox); have GW101 := zg HB hg; have GE101 := GW101; replace HB := zBb HB hb; clear hb hbox hg; have hcz9_0 := zc BK101 0; have hcz9_1 := zc BK101 1; have hfz9_0 := blk_frozen BK101.out 0; have hfz9_1 := blk_frozen BK101.out 1) | ((with_reducible refine gate_callee (f := 62) rfl ?_); refine zG (some 8) Try.func62 #[.int .i64 a0_0, .slice A0_1 l0_1.length c0_1] ?_; (with_reducible refine (galoisref09_Check.calls k a0_0 _ _ l0_1 t102 _ (zC (Kd.C_below HR0_1.out HB.out)) HC0_1.out A2.out).mono ?_); rintro e w' ⟨rfl, ⟨nd, rfl⟩⟩; refine ⟨_, rfl, ?_⟩))
 (try simp only [Act.put, List.setIfInBounds_toArray, List.set_cons_zero, List.set_cons_succ])
 go_cut [18] (fun v18 wc => ∃ (kq : Nat) (x18_6 : Bool), v18 = .bool x18_6 ∧ Aside0 (galoisref15_Check.j0 kq x18_6 a0_0 l0_1 = some r) ∧ Aside0 (kq ≤ k) ∧ Aside0 (wc.heap[gb101]? = some (.cells #[.int .i64 a0_0, (.slice A0_1 l0_1.length c0_1)] 33 (0, 0))) ∧ Aside0 (Below w.heap.size w wc))
 case first =>
  have H := HC7.out
  clear HC7
  by_cases c10 : (l0_1.length : Int) < 2
  ·rw [if_pos c10] at H
   have c10b0 : decide ((l0_1.length : Int) < 2) = true := decide_eq_true c10
   have c10b1 : decide (l0_1.length < 2) = true := decide_eq_true (by omega)
   clear c10
   (first | rw [c10b0] | (simp only [i64_w, i32_w]; rw [c10b0]) | skip)
   have H' := Aside0.mk H
   clear H
   have hcz11_0 := zc BK101 0
   have hcz11_1 := zc BK101 1
   have hfz11_0 := blk_frozen BK101.out 0
   have hfz11_1 := blk_frozen BK101.out 1
   go_wp2
   go_meet
   case rel => exact ⟨_, (true), zX, H', ⟨by first | omega | exact Nat.le_refl _⟩, ⟨zK BK101.out⟩, ⟨zT⟩⟩
  rw [if_neg c10] at H
  have c10b0 : decide ((l0_1.length : Int) < 2) = false := decide_eq_false c10
  have c10b1 : decide (l0_1.length < 2) = false := decide_eq_false (by omega)
  clear c10
  (first | rw [c10b0] | (simp only [i64_w, i32_w]; rw [c10b0]) | skip)
  obtain ⟨t103, A12, H⟩ := zO H
  have H' := Aside0.mk H
  clear H
  have hcz13_0 := zc BK101 0
  have hcz13_1 := zc BK101 1
  have hfz13_0 := blk_frozen BK101.out 0
  have hfz13_1 := blk_frozen BK101.out 1
  go_wp2_with (first | (go_at_call 63; (with_reducible refine (galoisref09_Lead.calls _ _ l0_1 t103 _ (zC (Kd.C_below HR0_1.out HB.out)) HC0_1.out A12.out).mono ?_); rintro e w' ⟨rfl, ⟨nd, rfl⟩⟩))
  go_meet
  case rel => exact ⟨_, ((t103 != 1)), zX, H', ⟨by first | omega | exact Nat.le_refl _⟩, ⟨zK BK101.out⟩, ⟨zT⟩⟩
 case rest =>
  clear HC7
  try clear c1; try clear c2; try clear p2; try clear c3; try clear c3b0; try clear c3b1; try clear c4; try clear c4b0; try clear c4b1; try clear c6; try clear c10; try clear c10b0; try clear c10b1; try clear hcz11_0; try clear hcz11_1; try clear hcz13_0; try clear hcz13_1; try clear hcz6_0; try clear hcz6_1; try clear hcz9_0; try clear hcz9_1; try clear hfz11_0; try clear hfz11_1; try clear hfz13_0; try clear hfz13_1; try clear hfz6_0; try clear hfz6_1; try clear hfz9_0; try clear hfz9_1
  obtain ⟨kq, x18_6, rfl, HA, HJ6, BK101, HB⟩ := hcut
  cases kq with
  | zero => exact absurd HA.out (by simp [galoisref15_Check.j0])
  | succ kj6 =>
   have H := HA.out
   clear HA
   simp only [galoisref15_Check.j0] at H
   by_cases c14 : x18_6 = true
   ·subst c14
    rw [if_pos rfl] at H
    obtain rfl := Option.some.inj H
    go_wp2
    go_ret
    exact ⟨zQ, zT⟩
   replace c14 := Bool.eq_false_iff.mpr c14
   subst c14
   rw [if_neg Bool.false_ne_true] at H
   obtain ⟨t104, A15, H⟩ := zO H
   by_cases c16 : t104 = true
   ·subst c16
    rw [if_pos rfl] at H
    obtain rfl := Option.some.inj H
    have hcz17_0 := zc BK101 0
    have hcz17_1 := zc BK101 1
    have hfz17_0 := blk_frozen BK101.out 0
    have hfz17_1 := blk_frozen BK101.out 1
    go_wp2_with (first | ((with_reducible refine gate_callee (f := 48) rfl ?_); refine zG (some 34) Try.func48 #[.int .i64 a0_0, .slice A0_1 l0_1.length c0_1] ?_; (with_reducible refine (galoisref09_IsIrreducible.calls kj6 a0_0 _ _ l0_1 true _ (zC (Kd.C_below HR0_1.out HB.out)) HC0_1.out A15.out).mono ?_); rintro e w18 ⟨rfl, hb⟩; refine ⟨_, rfl, ?_⟩; replace BK101 := zKb BK101 hb; replace HB := zBb HB hb; (try clear hb)))
    go_ret
    exact ⟨zQ, zT⟩
   replace c16 := Bool.eq_false_iff.mpr c16
   subst c16
   rw [if_neg Bool.false_ne_true] at H
   obtain rfl := Option.some.inj H
   have hcz19_0 := zc BK101 0
   have hcz19_1 := zc BK101 1
   have hfz19_0 := blk_frozen BK101.out 0
   have hfz19_1 := blk_frozen BK101.out 1
   go_wp2_with (first | ((with_reducible refine gate_callee (f := 48) rfl ?_); refine zG (some 34) Try.func48 #[.int .i64 a0_0, .slice A0_1 l0_1.length c0_1] ?_; (with_reducible refine (galoisref09_IsIrreducible.calls kj6 a0_0 _ _ l0_1 false _ (zC (Kd.C_below HR0_1.out HB.out)) HC0_1.out A15.out).mono ?_); rintro e w20 ⟨rfl, hb⟩; refine ⟨_, rfl, ?_⟩; replace BK101 := zKb BK101 hb; replace HB := zBb HB hb; (try clear hb)))
   go_ret
   exact ⟨zQ, zT⟩
end Go.Proofs.Ytalnaafmonmlmaa.Q
end
section
namespace Go.Proofs.Ytalnaafmonmlmaa.Q
open Go.RowKit Go.Proofs.YtalnaafmonmlmaaW.PrintWords Go.Proofs.YtalnaafmonmlmaaW.PrintLast Go.Proofs.YtalnaafmonmlmaaW.PrintMore
attribute [local go_sem] max2_int min2_int max_two min_two max_three min_three max_four min_four
set_option linter.unusedVariables false
set_option linter.unusedSimpArgs false
set_option maxHeartbeats 8000000
set_option maxRecDepth 100000
def finitefield_CheckElement.f (k : Nat) (a0_0 : Int) (l0_1 : List Int) (l1 : List Int) : Option (Int) := (finitefield_check.f k a0_0 l0_1 (([l1] : List (List Int)))).bind fun t105 => (some t105)
theorem finitefield_CheckElement.mono : ∀ a0 a1 a2 k, LeO (finitefield_CheckElement.f k a0 a1 a2) (finitefield_CheckElement.f (k + 1) a0 a1 a2) := by
 intro a0 a1 a2 k
 unfold finitefield_CheckElement.f
 with_reducible repeat' first | exact finitefield_check.mono _ _ _ _ | exact LeO.refl _ | exact LeO.none _ | refine LeO.ite ?_ ?_ | refine LeO.bind ?_ (fun _ => ?_)
theorem finitefield_CheckElement.calls (k : Nat) (a0_0 : Int) (A0_1 : Option Addr) (c0_1 : Nat) (l0_1 : List Int) (P1_ : Nat → Prop) (A1 : Option Addr) (c1 : Nat) (l1 : List Int) (r : Int) (w : World) (hr0_1 : Kd.C (Kd.int .i64) w A0_1 l0_1.length l0_1) (hc0_1 : l0_1.length ≤ c0_1) (hs1 : Kd.V (Kd.int .i64) 3 w w.heap.size (fun k_ => P1_ k_) (.slice A1 l1.length c1) l1) (h : finitefield_CheckElement.f k a0_0 l0_1 l1 = some r) :
  Calls Try.prog 25 #[.agg #[.int .i64 a0_0, .slice A0_1 l0_1.length c0_1], .slice A1 l1.length c1] w fun e w' => e = .returned (.int .i64 r) ∧ Below w.heap.size w w' := by
 have hu33 := Try.underlying33
 have HR0_1 := Aside0.mk hr0_1
 have HC0_1 := Aside0.mk hc0_1
 clear hr0_1 hc0_1
 have HO1 := Aside0.mk (show Kd.V (Kd.int .i64) 3 w w.heap.size (fun k_ => (P1_ k_ ∨ w.heap.size ≤ k_)) (.slice A1 l1.length c1) l1 from Kd.V_mono hs1 (fun k_ hk => .inl hk))
 have HB := Aside0.mk (Below.refl w.heap.size w)
 have H := h; clear h; unfold finitefield_CheckElement.f at H
 obtain ⟨y102, Ny102⟩ := zA ((([l1] : List (List Int))) : List (List Int)); rw [← Ny102.out] at H
 obtain ⟨t105, A3, H⟩ := zO H
 obtain rfl := Option.some.inj H
 go_enter Try.func25, Try.ntmps25
 go_wp2_with (first | ((with_reducible refine gate_dst (N := 2) rfl ?_); refine zb 2 #[.int .i64 a0_0, .slice A0_1 l0_1.length c0_1] 33 ?_; intro gb101 hg w4 hbox hb; replace HO1 := Aside0.mk (Kd.V_below (Kd.V_elderB (zV HO1.out) gb101 (Nat.le_of_eq hg.symm)) hb); have BK101 := Aside0.mk (hbox); have GW101 := zg HB hg; have GE101 := GW101; replace HB := zBb HB hb; clear hb hbox hg; have hcz5_0 := zc BK101 0; have hcz5_1 := zc BK101 1; have hfz5_0 := blk_frozen BK101.out 0; have hfz5_1 := blk_frozen BK101.out 1) | ((with_reducible refine gate_dst (N := 7) rfl ?_); refine Kd.N_lit (Kd.slice 3 (Kd.int .i64)) _ 25 ?hg (N' := 7) ?hd (xs := ([l1] : List (List Int))) (inner := [.slice A1 l1.length c1]) (ok := (fun k_ => (P1_ k_ ∨ w.heap.size ≤ k_) ∧ k_ ≠ gb101)) (okp := (fun k_ => (P1_ k_ ∨ w.heap.size ≤ k_) ∧ k_ ≠ gb101)) ?hr ?hp (fun _ hk => hk) ((show ∀ k_, w4.heap.size ≤ k_ → (fun k_ => (P1_ k_ ∨ w.heap.size ≤ k_) ∧ k_ ≠ gb101) k_ from fun k_ hk => ⟨(.inr (Nat.le_trans (zS HB) hk)), Kd.freshB (zK BK101.out) k_ hk⟩) _ (Nat.le_refl _)) (Below.refl _ _) (Nat.le_refl _) (by simp) ?_; (case hd => rfl); (case hg => rfl); (case hr => go_simp <;> rfl); (case hp => exact (Reps.one (show Kd.FK (Kd.slice 3 (Kd.int .i64)) _ _ l1 [.slice A1 l1.length c1] from (Kd.FK_slice_mk (Kd.V_reads' (Kd.V_mono (ok' := (fun k_ => (P1_ k_ ∨ w.heap.size ≤ k_) ∧ k_ ≠ gb101)) (HO1.out) (fun k_ hk => ⟨hk.1, hk.2⟩))).2.1 (Kd.V_F (Kd.V_mono (ok' := (fun k_ => (P1_ k_ ∨ w.heap.size ≤ k_) ∧ k_ ≠ gb101)) (HO1.out) (fun k_ hk => ⟨hk.1, hk.2⟩))))) (Reps.none _ _))); intro v103 w6 ho7 hb hg_ hnew_; clear hg_ hnew_; (first | rw [← Ny102.out] at ho7 | (simp only [Int.reduceToNat] at ho7; rw [← Ny102.out] at ho7)); replace HO1 := Aside0.mk (Kd.V_elder' (zV HO1.out) (Kd.N_base ho7) hb); have HO104 := Aside0.mk (Kd.N_lower ho7 (zS HB)); replace BK101 := zKb BK101 hb; replace HB := zBb HB hb; clear hb ho7; obtain ⟨Ao8, co8, eo8⟩ := Kd.N_slice HO104.out; subst eo8) | ((with_reducible refine gate_callee (f := 53) rfl ?_); refine zG (some 8) Try.func53 #[.agg #[.int .i64 a0_0, .slice A0_1 l0_1.length c0_1], .slice Ao8 y102.length co8] ?_; (with_reducible refine (finitefield_check.calls k a0_0 _ _ l0_1 _ _ y102 t105 _ (zC (Kd.C_below HR0_1.out HB.out)) HC0_1.out (zC ((Kd.N_reads' HO104.out).2.2)) ((Kd.N_reads' HO104.out).2.1) A3.out).mono ?_); rintro e w9 ⟨rfl, hb⟩; refine ⟨_, rfl, ?_⟩; replace HO1 := zVb HO1 hb; replace HO104 := zNb HO104 hb; replace BK101 := zKb BK101 hb; replace HB := zBb HB hb; (try clear hb)))
 go_ret
 exact ⟨zQ, zT⟩
end Go.Proofs.Ytalnaafmonmlmaa.Q
end
section
namespace Go.Proofs.Ytalnaafmonmlmaa.Q
open Go.RowKit Go.Proofs.YtalnaafmonmlmaaW.PrintWords Go.Proofs.YtalnaafmonmlmaaW.PrintLast Go.Proofs.YtalnaafmonmlmaaW.PrintMore
attribute [local go_sem] max2_int min2_int max_two min_two max_three min_three max_four min_four
set_option linter.unusedVariables false
set_option linter.unusedSimpArgs false
set_option maxHeartbeats 8000000
set_option maxRecDepth 100000
def galoisref15_Member.f (k : Nat) (a0_0 : Int) (l0_1 : List Int) (l1 : List Int) : Option (Int) := (galoisref09_Check.f k a0_0 l1).bind fun t102 => (if t102 = 0 then (if (l1.length : Int) ≥ (l0_1.length : Int) then (some 3) else (some t102)) else (some t102))
theorem galoisref15_Member.mono : ∀ a0 a1 a2 k, LeO (galoisref15_Member.f k a0 a1 a2) (galoisref15_Member.f (k + 1) a0 a1 a2) := by
 intro a0 a1 a2 k
 unfold galoisref15_Member.f
 with_reducible repeat' first | exact galoisref09_Check.mono _ _ _ | exact LeO.refl _ | exact LeO.none _ | refine LeO.ite ?_ ?_ | refine LeO.bind ?_ (fun _ => ?_)
theorem galoisref15_Member.calls (k : Nat) (a0_0 : Int) (A0_1 : Option Addr) (c0_1 : Nat) (l0_1 : List Int) (A1 : Option Addr) (c1 : Nat) (l1 : List Int) (r : Int) (w : World) (hr0_1 : Kd.C (Kd.int .i64) w A0_1 l0_1.length l0_1) (hc0_1 : l0_1.length ≤ c0_1) (hr1 : Kd.C (Kd.int .i64) w A1 l1.length l1) (hc1 : l1.length ≤ c1) (h : galoisref15_Member.f k a0_0 l0_1 l1 = some r) :
  Calls Try.prog 31 #[.agg #[.int .i64 a0_0, .slice A0_1 l0_1.length c0_1], .slice A1 l1.length c1] w fun e w' => e = .returned (.int .i64 r) ∧ Below w.heap.size w w' := by
 have hu33 := Try.underlying33
 have HR0_1 := Aside0.mk hr0_1
 have HC0_1 := Aside0.mk hc0_1
 clear hr0_1 hc0_1
 have HR1 := Aside0.mk hr1
 have HC1 := Aside0.mk hc1
 clear hr1 hc1
 have HB := Aside0.mk (Below.refl w.heap.size w)
 have H := h; clear h; unfold galoisref15_Member.f at H
 obtain ⟨t102, A3, H⟩ := zO H
 by_cases c4 : t102 = 0
 rotate_left
 ·rw [if_neg c4] at H
  obtain ⟨c4b0, c4b1⟩ := zU c4
  obtain rfl := Option.some.inj H
  go_enter Try.func31, Try.ntmps31
  go_wp2_with (first | ((with_reducible refine gate_dst (N := 2) rfl ?_); (try (refine gate_guard (by rfl) ?_; dsimp only)); refine zb 2 #[.int .i64 a0_0, .slice A0_1 l0_1.length c0_1] 33 ?_; intro gb101 hg w10 hbox hb; have BK101 := Aside0.mk (hbox); have GW101 := zg HB hg; have GE101 := GW101; replace HB := zBb HB hb; clear hb hbox hg; have hcz11_0 := zc BK101 0; have hcz11_1 := zc BK101 1; have hfz11_0 := blk_frozen BK101.out 0; have hfz11_1 := blk_frozen BK101.out 1) | ((with_reducible refine gate_callee (f := 62) rfl ?_); refine zG (some 9) Try.func62 #[.int .i64 a0_0, .slice A1 l1.length c1] ?_; (with_reducible refine (galoisref09_Check.calls k a0_0 _ _ l1 t102 _ (zC (Kd.C_below HR1.out HB.out)) HC1.out A3.out).mono ?_); rintro e w' ⟨rfl, ⟨nd, rfl⟩⟩; refine ⟨_, rfl, ?_⟩))
  go_ret
  exact ⟨zQ, zT⟩
 rw [if_pos c4] at H
 obtain ⟨c4b0, c4b1⟩ := zE c4; clear c4
 by_cases c5 : (l1.length : Int) ≥ (l0_1.length : Int)
 ·rw [if_pos c5] at H
  have c5b0 : decide ((l0_1.length : Int) ≤ (l1.length : Int)) = true := decide_eq_true c5
  have c5b1 : decide (l0_1.length ≤ l1.length) = true := decide_eq_true (Int.ofNat_le.mp c5)
  clear c5
  obtain rfl := Option.some.inj H
  go_enter Try.func31, Try.ntmps31
  go_wp2_with (first | ((with_reducible refine gate_dst (N := 2) rfl ?_); (try (refine gate_guard (by rfl) ?_; dsimp only)); refine zb 2 #[.int .i64 a0_0, .slice A0_1 l0_1.length c0_1] 33 ?_; intro gb101 hg w6 hbox hb; have BK101 := Aside0.mk (hbox); have GW101 := zg HB hg; have GE101 := GW101; replace HB := zBb HB hb; clear hb hbox hg; have hcz7_0 := zc BK101 0; have hcz7_1 := zc BK101 1; have hfz7_0 := blk_frozen BK101.out 0; have hfz7_1 := blk_frozen BK101.out 1) | ((with_reducible refine gate_callee (f := 62) rfl ?_); refine zG (some 9) Try.func62 #[.int .i64 a0_0, .slice A1 l1.length c1] ?_; (with_reducible refine (galoisref09_Check.calls k a0_0 _ _ l1 t102 _ (zC (Kd.C_below HR1.out HB.out)) HC1.out A3.out).mono ?_); rintro e w' ⟨rfl, ⟨nd, rfl⟩⟩; refine ⟨_, rfl, ?_⟩))
  go_ret
  exact ⟨zQ, zT⟩
 rw [if_neg c5] at H
 have c5b0 : decide ((l0_1.length : Int) ≤ (l1.length : Int)) = false := decide_eq_false c5
 have c5b1 : decide (l0_1.length ≤ l1.length) = false := decide_eq_false (fun h => c5 (Int.ofNat_le.mpr h))
 clear c5
 obtain rfl := Option.some.inj H
 go_enter Try.func31, Try.ntmps31
 go_wp2_with (first | ((with_reducible refine gate_dst (N := 2) rfl ?_); (try (refine gate_guard (by rfl) ?_; dsimp only)); refine zb 2 #[.int .i64 a0_0, .slice A0_1 l0_1.length c0_1] 33 ?_; intro gb101 hg w8 hbox hb; have BK101 := Aside0.mk (hbox); have GW101 := zg HB hg; have GE101 := GW101; replace HB := zBb HB hb; clear hb hbox hg; have hcz9_0 := zc BK101 0; have hcz9_1 := zc BK101 1; have hfz9_0 := blk_frozen BK101.out 0; have hfz9_1 := blk_frozen BK101.out 1) | ((with_reducible refine gate_callee (f := 62) rfl ?_); refine zG (some 9) Try.func62 #[.int .i64 a0_0, .slice A1 l1.length c1] ?_; (with_reducible refine (galoisref09_Check.calls k a0_0 _ _ l1 t102 _ (zC (Kd.C_below HR1.out HB.out)) HC1.out A3.out).mono ?_); rintro e w' ⟨rfl, ⟨nd, rfl⟩⟩; refine ⟨_, rfl, ?_⟩))
 go_ret
 exact ⟨zQ, zT⟩
end Go.Proofs.Ytalnaafmonmlmaa.Q
end
section
namespace Go.Proofs.Ytalnaafmonmlmaa.Q
open Go.RowKit Go.Proofs.YtalnaafmonmlmaaW.PrintWords Go.Proofs.YtalnaafmonmlmaaW.PrintLast Go.Proofs.YtalnaafmonmlmaaW.PrintMore
attribute [local go_sem] max2_int min2_int max_two min_two max_three min_three max_four min_four
set_option linter.unusedVariables false
set_option linter.unusedSimpArgs false
set_option maxHeartbeats 8000000
set_option maxRecDepth 100000
def galoisref15_CheckElement.f (k : Nat) (a0_0 : Int) (l0_1 : List Int) (l1 : List Int) : Option (Int) := (galoisref15_Check.f k a0_0 l0_1).bind fun t102 => (if t102 = 0 then ((galoisref15_Member.f k a0_0 l0_1 l1).bind fun t103 => (some t103)) else ((galoisref15_Check.f k a0_0 l0_1).bind fun t104 => (some t104)))
theorem galoisref15_CheckElement.mono : ∀ a0 a1 a2 k, LeO (galoisref15_CheckElement.f k a0 a1 a2) (galoisref15_CheckElement.f (k + 1) a0 a1 a2) := by
 intro a0 a1 a2 k
 unfold galoisref15_CheckElement.f
 with_reducible repeat' first | exact galoisref15_Check.mono _ _ _ | exact galoisref15_Member.mono _ _ _ _ | exact LeO.refl _ | exact LeO.none _ | refine LeO.ite ?_ ?_ | refine LeO.bind ?_ (fun _ => ?_)
theorem galoisref15_CheckElement.calls (k : Nat) (a0_0 : Int) (A0_1 : Option Addr) (c0_1 : Nat) (l0_1 : List Int) (A1 : Option Addr) (c1 : Nat) (l1 : List Int) (r : Int) (w : World) (hr0_1 : Kd.C (Kd.int .i64) w A0_1 l0_1.length l0_1) (hc0_1 : l0_1.length ≤ c0_1) (hr1 : Kd.C (Kd.int .i64) w A1 l1.length l1) (hc1 : l1.length ≤ c1) (h : galoisref15_CheckElement.f k a0_0 l0_1 l1 = some r) :
  Calls Try.prog 26 #[.agg #[.int .i64 a0_0, .slice A0_1 l0_1.length c0_1], .slice A1 l1.length c1] w fun e w' => e = .returned (.int .i64 r) ∧ Below w.heap.size w w' := by
 have hu33 := Try.underlying33
 have HR0_1 := Aside0.mk hr0_1
 have HC0_1 := Aside0.mk hc0_1
 clear hr0_1 hc0_1
 have HR1 := Aside0.mk hr1
 have HC1 := Aside0.mk hc1
 clear hr1 hc1
 have HB := Aside0.mk (Below.refl w.heap.size w)
 have H := h; clear h; unfold galoisref15_CheckElement.f at H
 obtain ⟨t102, A3, H⟩ := zO H
 by_cases c4 : t102 = 0
 rotate_left
 ·rw [if_neg c4] at H
  obtain ⟨c4b0, c4b1⟩ := zU c4
  obtain ⟨t104, A11, H⟩ := zO H
  obtain rfl := Option.some.inj H
  go_enter Try.func26, Try.ntmps26
  go_wp2_with (first | ((with_reducible refine gate_dst (N := 2) rfl ?_); refine zb 2 #[.int .i64 a0_0, .slice A0_1 l0_1.length c0_1] 33 ?_; intro gb101 hg w12 hbox hb; have BK101 := Aside0.mk (hbox); have GW101 := zg HB hg; have GE101 := GW101; replace HB := zBb HB hb; clear hb hbox hg; have hcz13_0 := zc BK101 0; have hcz13_1 := zc BK101 1; have hfz13_0 := blk_frozen BK101.out 0; have hfz13_1 := blk_frozen BK101.out 1) | ((with_reducible refine gate_callee (f := 24) rfl ?_); refine zG (some 6) Try.func24 #[.agg #[.int .i64 a0_0, .slice A0_1 l0_1.length c0_1]] ?_; (with_reducible refine (galoisref15_Check.calls k a0_0 _ _ l0_1 t102 _ (zC (Kd.C_below HR0_1.out HB.out)) HC0_1.out A3.out).mono ?_); rintro e w14 ⟨rfl, hb⟩; refine ⟨_, rfl, ?_⟩; replace BK101 := zKb BK101 hb; replace HB := zBb HB hb; (try clear hb); have hcz15_0 := zc BK101 0; have hcz15_1 := zc BK101 1; have hfz15_0 := blk_frozen BK101.out 0; have hfz15_1 := blk_frozen BK101.out 1) | ((with_reducible refine gate_callee (f := 24) rfl ?_); refine zG (some 9) Try.func24 #[.agg #[.int .i64 a0_0, .slice A0_1 l0_1.length c0_1]] ?_; (with_reducible refine (galoisref15_Check.calls k a0_0 _ _ l0_1 t104 _ (zC (Kd.C_below HR0_1.out HB.out)) HC0_1.out A11.out).mono ?_); rintro e w16 ⟨rfl, hb⟩; refine ⟨_, rfl, ?_⟩; replace BK101 := zKb BK101 hb; replace HB := zBb HB hb; (try clear hb)))
  go_ret
  exact ⟨zQ, zT⟩
 rw [if_pos c4] at H
 obtain ⟨c4b0, c4b1⟩ := zE c4; clear c4
 obtain ⟨t103, A5, H⟩ := zO H
 obtain rfl := Option.some.inj H
 go_enter Try.func26, Try.ntmps26
 go_wp2_with (first | ((with_reducible refine gate_dst (N := 2) rfl ?_); refine zb 2 #[.int .i64 a0_0, .slice A0_1 l0_1.length c0_1] 33 ?_; intro gb101 hg w6 hbox hb; have BK101 := Aside0.mk (hbox); have GW101 := zg HB hg; have GE101 := GW101; replace HB := zBb HB hb; clear hb hbox hg; have hcz7_0 := zc BK101 0; have hcz7_1 := zc BK101 1; have hfz7_0 := blk_frozen BK101.out 0; have hfz7_1 := blk_frozen BK101.out 1) | ((with_reducible refine gate_callee (f := 24) rfl ?_); refine zG (some 6) Try.func24 #[.agg #[.int .i64 a0_0, .slice A0_1 l0_1.length c0_1]] ?_; (with_reducible refine (galoisref15_Check.calls k a0_0 _ _ l0_1 t102 _ (zC (Kd.C_below HR0_1.out HB.out)) HC0_1.out A3.out).mono ?_); rintro e w8 ⟨rfl, hb⟩; refine ⟨_, rfl, ?_⟩; replace BK101 := zKb BK101 hb; replace HB := zBb HB hb; (try clear hb); have hcz9_0 := zc BK101 0; have hcz9_1 := zc BK101 1; have hfz9_0 := blk_frozen BK101.out 0; have hfz9_1 := blk_frozen BK101.out 1) | ((with_reducible refine gate_callee (f := 31) rfl ?_); refine zG (some 12) Try.func31 #[.agg #[.int .i64 a0_0, .slice A0_1 l0_1.length c0_1], .slice A1 l1.length c1] ?_; (with_reducible refine (galoisref15_Member.calls k a0_0 _ _ l0_1 _ _ l1 t103 _ (zC (Kd.C_below HR0_1.out HB.out)) HC0_1.out (zC (Kd.C_below HR1.out HB.out)) HC1.out A5.out).mono ?_); rintro e w10 ⟨rfl, hb⟩; refine ⟨_, rfl, ?_⟩; replace BK101 := zKb BK101 hb; replace HB := zBb HB hb; (try clear hb)))
 go_ret
 exact ⟨zQ, zT⟩
end Go.Proofs.Ytalnaafmonmlmaa.Q
end
section
namespace Go.Proofs.Ytalnaafmonmlmaa.Q
open Go.RowKit Go.Proofs.YtalnaafmonmlmaaW.PrintWords Go.Proofs.YtalnaafmonmlmaaW.PrintLast Go.Proofs.YtalnaafmonmlmaaW.PrintMore
attribute [local go_sem] max2_int min2_int max_two min_two max_three min_three max_four min_four
set_option linter.unusedVariables false
set_option linter.unusedSimpArgs false
set_option maxHeartbeats 8000000
set_option maxRecDepth 100000
def galoislaw15_right.f (k : Nat) (l0 : List Int) (a1 : Int) (a2 : Int) (l3 : List Int) : Option (Bool) := if a2 = 0 then ((galoisref09_Same.f k l0 l3).bind fun t101 => (if t101 = true then (some (a1 == 0)) else (some false))) else (if (l0.length : Int) = 0 then (some (a1 == a2)) else (some false))
theorem galoislaw15_right.mono : ∀ a0 a1 a2 a3 k, LeO (galoislaw15_right.f k a0 a1 a2 a3) (galoislaw15_right.f (k + 1) a0 a1 a2 a3) := by
 intro a0 a1 a2 a3 k
 unfold galoislaw15_right.f
 with_reducible repeat' first | exact galoisref09_Same.mono _ _ _ | exact LeO.refl _ | exact LeO.none _ | refine LeO.ite ?_ ?_ | refine LeO.bind ?_ (fun _ => ?_)
theorem galoislaw15_right.calls (k : Nat) (A0 : Option Addr) (c0 : Nat) (l0 : List Int) (a1 : Int) (a2 : Int) (A3 : Option Addr) (c3 : Nat) (l3 : List Int) (r : Bool) (w : World) (hr0 : Kd.C (Kd.int .i64) w A0 l0.length l0) (hc0 : l0.length ≤ c0) (hr3 : Kd.C (Kd.int .i64) w A3 l3.length l3) (hc3 : l3.length ≤ c3) (h : galoislaw15_right.f k l0 a1 a2 l3 = some r) :
  Calls Try.prog 12 #[.slice A0 l0.length c0, .int .i64 a1, .int .i64 a2, .slice A3 l3.length c3] w fun e w' => e = .returned (.bool r) ∧ Drawn0 w w' := by
 have HR0 := Aside0.mk hr0
 have HC0 := Aside0.mk hc0
 clear hr0 hc0
 have HR3 := Aside0.mk hr3
 have HC3 := Aside0.mk hc3
 clear hr3 hc3
 have H := h; clear h; unfold galoislaw15_right.f at H
 by_cases c5 : a2 = 0
 rotate_left
 ·rw [if_neg c5] at H
  obtain ⟨c5b0, c5b1⟩ := zU c5
  by_cases c8 : (l0.length : Int) = 0
  ·rw [if_pos c8] at H
   obtain ⟨c8b0, c8b1⟩ := zE c8; clear c8
   obtain rfl := Option.some.inj H
   go_enter Try.func12, Try.ntmps12
   go_wp2
   go_ret
   exact ⟨by first | rfl | (simp; done) | (simp [*]; done), by repeat (first | exact Drawn0.refl _ | apply Drawn0.step)⟩
  rw [if_neg c8] at H
  obtain ⟨c8b0, c8b1⟩ := zU c8
  have c8b2 : ¬ (l0 = []) := fun h_ => c8 (by rw [h_]; rfl)
  obtain rfl := Option.some.inj H
  go_enter Try.func12, Try.ntmps12
  go_wp2
  go_ret
  exact ⟨by first | rfl | (simp; done) | (simp [*]; done), by repeat (first | exact Drawn0.refl _ | apply Drawn0.step)⟩
 rw [if_pos c5] at H
 obtain ⟨c5b0, c5b1⟩ := zE c5; clear c5
 obtain ⟨t101, A6, H⟩ := zO H
 by_cases c7 : t101 = true
 ·subst c7
  rw [if_pos rfl] at H
  obtain rfl := Option.some.inj H
  go_enter Try.func12, Try.ntmps12
  go_wp2_with (first | ((with_reducible refine gate_callee (f := 19) rfl ?_); refine zG (some 21) Try.func19 #[.slice A0 l0.length c0, .slice A3 l3.length c3] ?_; (with_reducible refine (galoisref09_Same.calls k _ _ l0 _ _ l3 true _ (zC (HR0.out)) HC0.out (zC (HR3.out)) HC3.out A6.out).mono ?_); rintro e w' ⟨rfl, ⟨nd, rfl⟩⟩; refine ⟨_, rfl, ?_⟩))
  go_ret
  exact ⟨by first | rfl | (simp; done) | (simp [*]; done), by repeat (first | exact Drawn0.refl _ | apply Drawn0.step)⟩
 replace c7 := Bool.eq_false_iff.mpr c7
 subst c7
 rw [if_neg Bool.false_ne_true] at H
 obtain rfl := Option.some.inj H
 go_enter Try.func12, Try.ntmps12
 go_wp2_with (first | ((with_reducible refine gate_callee (f := 19) rfl ?_); refine zG (some 21) Try.func19 #[.slice A0 l0.length c0, .slice A3 l3.length c3] ?_; (with_reducible refine (galoisref09_Same.calls k _ _ l0 _ _ l3 false _ (zC (HR0.out)) HC0.out (zC (HR3.out)) HC3.out A6.out).mono ?_); rintro e w' ⟨rfl, ⟨nd, rfl⟩⟩; refine ⟨_, rfl, ?_⟩))
 go_ret
 exact ⟨by first | rfl | (simp; done) | (simp [*]; done), by repeat (first | exact Drawn0.refl _ | apply Drawn0.step)⟩
end Go.Proofs.Ytalnaafmonmlmaa.Q
end
section
namespace Go.Proofs.Ytalnaafmonmlmaa.Q
open Go.RowKit Go.Proofs.YtalnaafmonmlmaaW.PrintWords Go.Proofs.YtalnaafmonmlmaaW.PrintLast Go.Proofs.YtalnaafmonmlmaaW.PrintMore
attribute [local go_sem] max2_int min2_int max_two min_two max_three min_three max_four min_four
set_option linter.unusedVariables false
set_option linter.unusedSimpArgs false
set_option maxHeartbeats 8000000
set_option maxRecDepth 100000
def galoisref09_Next.l0 : Nat → Int → List Int → Int → Option (List Int × Bool)
 | 0, _, _, _ => none
 | k + 1, x0, x6, x7 => if x7 ≥ 0 then (if 0 ≤ x7 then (if x7 < (x6.length : Int) then ((some (x6.set (x7 : Int).toNat (wrap64 ((rd x6 x7) + 1)) : List Int)).bind fun y105 => (if (rd y105 x7) < x0 then (some (y105, true)) else (galoisref09_Next.l0 k x0 (y105.set (x7 : Int).toNat 0) (wrap64 (x7 - 1))))) else (none)) else (none)) else (some (x6, false))
def galoisref09_Next.f (k : Nat) (a0 : Int) (l1 : List Int) : Option (List Int × Bool) := (galoisref09_Copy.f l1).bind fun t101 => (galoisref09_Next.l0 k a0 t101 (wrap64 ((t101.length : Int) - 1)))
theorem galoisref09_Next.mono_l : ∀ k, (∀ y0 y1 y2, LeO (galoisref09_Next.l0 k y0 y1 y2) (galoisref09_Next.l0 (k + 1) y0 y1 y2))
 | 0 => fun _ _ _ r h => by simp [galoisref09_Next.l0] at h
 | k + 1 => by
  have ih0 := galoisref09_Next.mono_l k
  intro y0 y1 y2
  unfold galoisref09_Next.l0
  with_reducible repeat' first | exact ih0 _ _ _ | exact LeO.refl _ | exact LeO.none _ | refine LeO.ite ?_ ?_ | refine LeO.bind ?_ (fun _ => ?_)
theorem galoisref09_Next.mono : ∀ a0 a1 k, LeO (galoisref09_Next.f k a0 a1) (galoisref09_Next.f (k + 1) a0 a1) := by
 intro a0 a1 k
 have ih0 := galoisref09_Next.mono_l k
 unfold galoisref09_Next.f
 with_reducible repeat' first | exact ih0 _ _ _ | exact LeO.refl _ | exact LeO.none _ | refine LeO.ite ?_ ?_ | refine LeO.bind ?_ (fun _ => ?_)
theorem galoisref09_Next.calls (k : Nat) (a0 : Int) (A1 : Option Addr) (c1 : Nat) (l1 : List Int) (r1 : List Int) (r2 : Bool) (w : World) (hr1 : Kd.C (Kd.int .i64) w A1 l1.length l1) (hc1 : l1.length ≤ c1) (h : galoisref09_Next.f k a0 l1 = some (r1, r2)) :
  Calls Try.prog 49 #[.int .i64 a0, .slice A1 l1.length c1] w fun e w' => ∃ v0_ : Value, e = .returned (.tuple #[v0_, .bool r2]) ∧ Kd.R (Kd.int .i64) 3 w' w.heap.size (fun _ => True) v0_ r1 ∧ Below w.heap.size w w' := by
 have HR1 := Aside0.mk hr1
 have HC1 := Aside0.mk hc1
 clear hr1 hc1
 have HB := Aside0.mk (Below.refl w.heap.size w)
 have H := h; clear h; unfold galoisref09_Next.f at H
 obtain ⟨t101, A3, H⟩ := zO H
 have H' := Aside0.mk H
 clear H
 go_enter Try.func49, Try.ntmps49
 go_wp2_with (first | ((with_reducible refine gate_callee (f := 47) rfl ?_); refine zG (some 9) Try.func47 #[.slice A1 l1.length c1] ?_; (with_reducible refine (galoisref09_Copy.calls _ _ l1 t101 _ (zC (HR1.out)) HC1.out A3.out).mono ?_); rintro e w4 ⟨v102, rfl, ho0, hb⟩; refine ⟨_, rfl, ?_⟩; have HO103 := Aside0.mk (Kd.R_lower ho0 (zS HB)); replace HB := zBb HB hb; (try clear hb); (try clear ho0); obtain ⟨Ao5, co5, eo5⟩ := Kd.R_slice HO103.out; subst eo5))
 go_loopg [7] k (fun kq v7 w' => ∃ (x6_1 : List Int) (x7_1 : Int), v7 = .int .i64 x7_1 ∧ Aside0 (galoisref09_Next.l0 kq a0 x6_1 x7_1 = some (r1, r2)) ∧ Aside0 (kq ≤ k) ∧ Aside0 (Kd.R (Kd.int .i64) 3 w' w.heap.size (fun _ => True) (.slice Ao5 t101.length co5) x6_1) ∧ Aside0 (Below w.heap.size w w'))
 case atStart => exact ⟨(t101), (wrap64 ((t101.length : Int) - 1)), zX, H', ⟨Nat.le_refl _⟩, ⟨zR HO103.out⟩, ⟨zT⟩⟩
 case round =>
  clear H'
  try clear c1; try clear p2; try clear c4
  obtain ⟨x6_1, x7_1, rfl, HA, HK1, HO_6, HB⟩ := hrel
  have hl6_1 := (Kd.R_reads' HO_6.out).1
  rw [hl6_1] at HO_6
  (try simp only [hl6_1])
  cases gk with
  | zero => exact absurd HA.out (by simp [galoisref09_Next.l0])
  | succ k1 =>
   have H := HA.out
   clear HA
   simp only [galoisref09_Next.l0] at H
   by_cases c6 : x7_1 ≥ 0
   rotate_left
   ·rw [if_neg c6] at H
    have c6b0 := decide_eq_false c6; clear c6
    simp only [Option.some.injEq, Prod.mk.injEq] at H
    obtain ⟨rfl, rfl⟩ := H
    go_wp2
    go_ret2
    exact ⟨_, zQ, zR HO_6.out, zT⟩
   rw [if_pos c6] at H
   have c6b0 := decide_eq_true c6; clear c6
   by_cases c7 : 0 ≤ x7_1
   rotate_left
   ·rw [if_neg c7] at H
    exact absurd H (by simp)
   rw [if_pos c7] at H
   have c7b0 := decide_eq_true c7; clear c7
   by_cases c8 : x7_1 < (x6_1.length : Int)
   rotate_left
   ·rw [if_neg c8] at H
    exact absurd H (by simp)
   rw [if_pos c8] at H
   have c8b0 : decide (x7_1 < (x6_1.length : Int)) = true := decide_eq_true c8
   (try (have c8b0_hl6_1 := c8b0; simp only [hl6_1] at c8b0_hl6_1))
   clear c8
   obtain ⟨y105, Ny105, H⟩ := zY H
   by_cases c10 : (rd y105 x7_1) < a0
   ·rw [if_pos c10] at H
    have c10b0 := decide_eq_true c10; clear c10
    simp only [Option.some.injEq, Prod.mk.injEq] at H
    obtain ⟨rfl, rfl⟩ := H
    obtain ⟨p104, q104, ad104, e104, hx104_0⟩ := zI ((Kd.R_reads' HO_6.out).2.2) (x7_1) zD zD
    cases e104
    have p9 : 0 ≤ (x7_1 : Int) := zD
    have q9 : (x7_1 : Int) < ((x6_1.length : Int) : Int) := zD
    obtain ⟨go9, co9, eo9, gb9, gl9, cl9, HG9⟩ := Kd.R_form HO_6.out (by omega)
    (first | cases eo9 | (injection eo9 with ea_ en_ ec_; (first | subst ea_ | (injection ea_ with ea_; subst ea_)); subst ec_; clear en_))
    have GB9 := Aside0.mk gb9
    have GG9 := Aside0.mk HG9
    clear gb9 gl9 HG9
    (first | simp only [add_plain] at hx104_0 | skip)
    obtain ⟨hx9_0, hf9_0⟩ := Kd.R_celln 0 HO_6.out (x7_1 : Int) p9 q9
    replace p9 := eq_true p9
    replace q9 := eq_true q9
    have HP11 := Kd.R_putg HO_6.out (x7_1 : Int) (wrap64 ((rd x6_1 x7_1) + 1))
    go_wp2_with (first | ((with_reducible refine gate_store (t := 3) (p := 22) rfl ?_); refine store_event (t := 3) (p := 22) (v := ?vo_w12) (w1 := (wr.setCell ⟨go9, (x7_1 : Int).toNat, none⟩ (.int .i64 (wrap64 ((rd x6_1 x7_1) + 1))))) ?hg ?ho ?hn ?hr ?_; (case ho => rfl); (case hg => rfl); (case hn => rfl); (case hr => go_simp <;> rfl); intro w12 hw; have hg : wr.grownBy w12 (some go9) := (by rw [hw]; exact HP11.2); have hp_ : Kd.R (Kd.int .i64) 3 w12 w.heap.size (fun _ => True) (.slice (some ⟨go9, 0, none⟩) x6_1.length co5) y105 := (by rw [hw, Ny105.out]; exact HP11.1); clear HP11; replace HO_6 := Aside0.mk (hp_); replace HB := Aside0.mk ((by rw [hw]; exact below_set (HB.out) GB9.out : Below w.heap.size w w12)); clear hg hw hp_; have p106 : 0 ≤ (x7_1 : Int) := zD; have q106 : x7_1 < (y105.length : Int) := (by have h_ : (x7_1 : Int) < ((x6_1.length : Int) : Int) := zD; first | (have e_ := (Kd.R_reads' HO_6.out).1; omega) | simpa only [Ny105.out, List.length_set] using h_); have ql106 : ((x7_1 : Int) < ((x6_1.length : Int) : Int)) = True := eq_true zD; obtain ⟨ad106, e106, hx106_0⟩ := Kd.at_int (Kd.R_reads' HO_6.out).2.2 x7_1 p106 q106; obtain rfl : (⟨go9, 0, none⟩ : Addr) = ad106 := (by injection e106); (first | simp only [add_plain] at hx106_0 | simp only [add_at] at hx106_0 | simp only [Addr.add, Nat.zero_add] at hx106_0 | skip); replace p106 := eq_true p106; replace q106 := eq_true q106))
    go_ret2
    exact ⟨_, zQ, zR HO_6.out, zT⟩
   rw [if_neg c10] at H
   have c10b0 := decide_eq_false c10; clear c10
   obtain ⟨y107, Ny107⟩ := zA ((y105.set (x7_1 : Int).toNat 0) : List Int); rw [← Ny107.out] at H
   have H' := Aside0.mk H
   clear H
   obtain ⟨p104, q104, ad104, e104, hx104_0⟩ := zI ((Kd.R_reads' HO_6.out).2.2) (x7_1) zD zD
   cases e104
   have p9 : 0 ≤ (x7_1 : Int) := zD
   have q9 : (x7_1 : Int) < ((x6_1.length : Int) : Int) := zD
   obtain ⟨go9, co9, eo9, gb9, gl9, cl9, HG9⟩ := Kd.R_form HO_6.out (by omega)
   (first | cases eo9 | (injection eo9 with ea_ en_ ec_; (first | subst ea_ | (injection ea_ with ea_; subst ea_)); subst ec_; clear en_))
   have GB9 := Aside0.mk gb9
   have GG9 := Aside0.mk HG9
   clear gb9 gl9 HG9
   (first | simp only [add_plain] at hx104_0 | skip)
   obtain ⟨hx9_0, hf9_0⟩ := Kd.R_celln 0 HO_6.out (x7_1 : Int) p9 q9
   replace p9 := eq_true p9
   replace q9 := eq_true q9
   have HP14 := Kd.R_putg HO_6.out (x7_1 : Int) (wrap64 ((rd x6_1 x7_1) + 1))
   go_wp2_with (first | ((with_reducible refine gate_store (t := 3) (p := 22) rfl ?_); refine store_event (t := 3) (p := 22) (v := ?vo_w15) (w1 := (wr.setCell ⟨go9, (x7_1 : Int).toNat, none⟩ (.int .i64 (wrap64 ((rd x6_1 x7_1) + 1))))) ?hg ?ho ?hn ?hr ?_; (case ho => rfl); (case hg => rfl); (case hn => rfl); (case hr => go_simp <;> rfl); intro w15 hw; have hg : wr.grownBy w15 (some go9) := (by rw [hw]; exact HP14.2); have hp_ : Kd.R (Kd.int .i64) 3 w15 w.heap.size (fun _ => True) (.slice (some ⟨go9, 0, none⟩) x6_1.length co5) y105 := (by rw [hw, Ny105.out]; exact HP14.1); clear HP14; replace HO_6 := Aside0.mk (hp_); replace HB := Aside0.mk ((by rw [hw]; exact below_set (HB.out) GB9.out : Below w.heap.size w w15)); clear hg hw hp_; have p106 : 0 ≤ (x7_1 : Int) := zD; have q106 : x7_1 < (y105.length : Int) := (by have h_ : (x7_1 : Int) < ((x6_1.length : Int) : Int) := zD; first | (have e_ := (Kd.R_reads' HO_6.out).1; omega) | simpa only [Ny105.out, List.length_set] using h_); have ql106 : ((x7_1 : Int) < ((x6_1.length : Int) : Int)) = True := eq_true zD; obtain ⟨ad106, e106, hx106_0⟩ := Kd.at_int (Kd.R_reads' HO_6.out).2.2 x7_1 p106 q106; obtain rfl : (⟨go9, 0, none⟩ : Addr) = ad106 := (by injection e106); (first | simp only [add_plain] at hx106_0 | simp only [add_at] at hx106_0 | simp only [Addr.add, Nat.zero_add] at hx106_0 | skip); replace p106 := eq_true p106; replace q106 := eq_true q106; have p13 : 0 ≤ (x7_1 : Int) := zD; have q13 : (x7_1 : Int) < ((x6_1.length : Int) : Int) := zD; obtain ⟨hx13_0, hf13_0⟩ := Kd.R_celln 0 HO_6.out (x7_1 : Int) p13 q13; replace p13 := eq_true p13; replace q13 := eq_true q13; obtain ⟨hy16_, hz16_⟩ := Kd.R_celln 0 HO_6.out (x7_1 : Int) zD zD; have HP16 := Kd.R_putg HO_6.out (x7_1 : Int) 0) | ((with_reducible refine gate_store (t := 3) (p := 32) rfl ?_); refine store_event (t := 3) (p := 32) (v := ?vo_w17) (w1 := (w15.setCell ⟨go9, (x7_1 : Int).toNat, none⟩ (.int .i64 0))) ?hg ?ho ?hn ?hr ?_; (case ho => rfl); (case hg => rfl); (case hn => rfl); (case hr => go_simp <;> rfl); intro w17 hw; have hg : w15.grownBy w17 (some go9) := (by rw [hw]; exact HP16.2); have hp_ : Kd.R (Kd.int .i64) 3 w17 w.heap.size (fun _ => True) (.slice (some ⟨go9, 0, none⟩) x6_1.length co5) y107 := (by rw [hw, Ny107.out]; exact HP16.1); clear HP16; replace HO_6 := Aside0.mk (hp_); replace HB := Aside0.mk ((by rw [hw]; exact below_set (HB.out) GB9.out : Below w.heap.size w w17)); clear hg hw hp_))
   (try simp only [← hl6_1])
   go_roundg k1
   case measure => have := HK1.out; omega
   case rel => exact ⟨(y107), (wrap64 (x7_1 - 1)), zX, H', ⟨by have := HK1.out; omega⟩, ⟨by (try simp only [hl6_1]); (with_reducible repeat (first | apply Kd.R_alloc | apply Kd.R_drewN | apply Kd.R_drew)); exact HO_6.out⟩, ⟨zT⟩⟩
end Go.Proofs.Ytalnaafmonmlmaa.Q
end
section
namespace Go.Proofs.Ytalnaafmonmlmaa.Q
open Go.RowKit Go.Proofs.YtalnaafmonmlmaaW.PrintWords Go.Proofs.YtalnaafmonmlmaaW.PrintLast Go.Proofs.YtalnaafmonmlmaaW.PrintMore
attribute [local go_sem] max2_int min2_int max_two min_two max_three min_three max_four min_four
set_option linter.unusedVariables false
set_option linter.unusedSimpArgs false
set_option maxHeartbeats 8000000
set_option maxRecDepth 100000
mutual
def galoisref15_Modulus.j0 : Nat → Int → List Int → Option (List Int)
 | 0, _, _ => none
 | k + 1, x0, x5 => galoisref15_Modulus.l0 k x0 x5
def galoisref15_Modulus.l0 : Nat → Int → List Int → Option (List Int)
 | 0, _, _ => none
 | k + 1, x0, x5 => (galoisref09_Copy.f x5).bind fun t105 => (if t105.length < 17592186044416 then ((some (t105 ++ [1] : List Int)).bind fun y108 => ((galoisref09_IsIrreducible.f k x0 y108).bind fun t111 => (if t111 = true then (some y108) else ((galoisref09_Next.f k x0 x5).bind fun bt112 => (galoisref15_Modulus.l0 k x0 bt112.1))))) else (none))
end
def galoisref15_Modulus.f (k : Nat) (a0 : Int) (a1 : Int) : Option (List Int) := if 0 ≤ a1 then (if (a1 : Int).toNat ≤ 35184372088832 then ((some (List.replicate (a1 : Int).toNat 0 : List Int)).bind fun y101 => (if a1 > 1 then (if 0 < (y101.length : Int) then (galoisref15_Modulus.j0 k a0 (y101.set (0 : Int).toNat 1)) else (none)) else (galoisref15_Modulus.j0 k a0 y101))) else (none)) else (none)
theorem galoisref15_Modulus.mono_l : ∀ k, (∀ y0 y1, LeO (galoisref15_Modulus.j0 k y0 y1) (galoisref15_Modulus.j0 (k + 1) y0 y1)) ∧ (∀ y0 y1, LeO (galoisref15_Modulus.l0 k y0 y1) (galoisref15_Modulus.l0 (k + 1) y0 y1))
 | 0 => ⟨fun _ _ r h => by simp [galoisref15_Modulus.j0] at h, fun _ _ r h => by simp [galoisref15_Modulus.l0] at h⟩
 | k + 1 => by
  obtain ⟨ih0, ih1⟩ := galoisref15_Modulus.mono_l k
  refine ⟨?_, ?_⟩
  ·intro y0 y1
   unfold galoisref15_Modulus.j0
   with_reducible repeat' first | exact ih0 _ _ | exact ih1 _ _ | exact galoisref09_IsIrreducible.mono _ _ _ | exact galoisref09_Next.mono _ _ _ | exact LeO.refl _ | exact LeO.none _ | refine LeO.ite ?_ ?_ | refine LeO.bind ?_ (fun _ => ?_)
  intro y0 y1
  unfold galoisref15_Modulus.l0
  with_reducible repeat' first | exact ih0 _ _ | exact ih1 _ _ | exact galoisref09_IsIrreducible.mono _ _ _ | exact galoisref09_Next.mono _ _ _ | exact LeO.refl _ | exact LeO.none _ | refine LeO.ite ?_ ?_ | refine LeO.bind ?_ (fun _ => ?_)
theorem galoisref15_Modulus.mono : ∀ a0 a1 k, LeO (galoisref15_Modulus.f k a0 a1) (galoisref15_Modulus.f (k + 1) a0 a1) := by
 intro a0 a1 k
 obtain ⟨ih0, ih1⟩ := galoisref15_Modulus.mono_l k
 unfold galoisref15_Modulus.f
 with_reducible repeat' first | exact ih0 _ _ | exact ih1 _ _ | exact galoisref09_IsIrreducible.mono _ _ _ | exact galoisref09_Next.mono _ _ _ | exact LeO.refl _ | exact LeO.none _ | refine LeO.ite ?_ ?_ | refine LeO.bind ?_ (fun _ => ?_)
theorem galoisref15_Modulus.calls (k : Nat) (a0 : Int) (a1 : Int) (r : List Int) (w : World) (h : galoisref15_Modulus.f k a0 a1 = some r) :
  Calls Try.prog 13 #[.int .i64 a0, .int .i64 a1] w fun e w' => ∃ v0_ : Value, e = .returned (v0_) ∧ Kd.R (Kd.int .i64) 3 w' w.heap.size (fun _ => True) v0_ r ∧ Below w.heap.size w w' := by
 have HB := Aside0.mk (Below.refl w.heap.size w)
 have H := h; clear h; unfold galoisref15_Modulus.f at H
 by_cases c3 : 0 ≤ a1
 rotate_left
 ·rw [if_neg c3] at H
  exact absurd H (by simp)
 rw [if_pos c3] at H
 have c3b0 := eq_true c3; have c3b1 := decide_eq_true c3; clear c3
 by_cases c4 : (a1 : Int).toNat ≤ 35184372088832
 rotate_left
 ·rw [if_neg c4] at H
  exact absurd H (by simp)
 rw [if_pos c4] at H
 have c4b0 := eq_true c4; have c4b1 := decide_eq_true c4; clear c4
 obtain ⟨y101, Ny101, H⟩ := zY H
 have HC5 := Aside0.mk H
 clear H
 go_enter Try.func13, Try.ntmps13
 go_upto_if 10 with (first | ((with_reducible refine gate_dst (N := 8) rfl ?_); refine Kd.R_make (Kd.int .i64) _ 3 rfl (N := 8) rfl 25 _ _ rfl a1 rfl rfl Try.underlying25 (.int .i64 0) 8 info3 rfl (by decide) (by omega) 0 (ok := fun _ => True) (okp := fun _ => True) rfl (fun _ hk => hk) trivial zD (Nat.le_trans (Nat.mul_le_mul_right _ (zD : a1.toNat ≤ 35184372088832)) (by omega)) (Below.refl _ _) (Nat.le_refl _) ?_; intro v102 w6 ho7 hb hg_ hnew_; clear hg_ hnew_; (first | rw [← Ny101.out] at ho7 | (simp only [Int.reduceToNat] at ho7; rw [← Ny101.out] at ho7)); have HO103 := Aside0.mk (Kd.R_lower ho7 (zS HB)); replace HB := zBb HB hb; clear hb ho7))
 (try simp only [Act.put, List.setIfInBounds_toArray, List.set_cons_zero, List.set_cons_succ])
 go_cut [] (fun wc => ∃ (kq : Nat) (x5_4 : List Int), Aside0 (galoisref15_Modulus.j0 kq a0 x5_4 = some r) ∧ Aside0 (kq ≤ k) ∧ Aside0 (Kd.R (Kd.int .i64) 3 wc w.heap.size (fun _ => True) v102 x5_4) ∧ Aside0 (Below w.heap.size w wc))
 case first =>
  have H := HC5.out
  clear HC5
  by_cases c8 : a1 > 1
  rotate_left
  ·rw [if_neg c8] at H
   have c8b0 := decide_eq_false c8; clear c8
   (first | rw [c8b0] | (simp only [i64_w, i32_w]; rw [c8b0]) | skip)
   have H' := Aside0.mk H
   clear H
   go_wp2
   go_meet
   case rel => exact ⟨_, (y101), H', ⟨by first | omega | exact Nat.le_refl _⟩, ⟨zR HO103.out⟩, ⟨zT⟩⟩
  rw [if_pos c8] at H
  have c8b0 := decide_eq_true c8; clear c8
  (first | rw [c8b0] | (simp only [i64_w, i32_w]; rw [c8b0]) | skip)
  by_cases c9 : 0 < (y101.length : Int)
  rotate_left
  ·rw [if_neg c9] at H
   exact absurd H (by simp)
  rw [if_pos c9] at H
  have c9b0 : decide (0 < (y101.length : Int)) = true := decide_eq_true c9
  have c9b1 : decide (0 < y101.length) = true := decide_eq_true (by omega)
  clear c9
  obtain ⟨y104, Ny104⟩ := zA ((y101.set (0 : Int).toNat 1) : List Int); rw [← Ny104.out] at H
  have H' := Aside0.mk H
  clear H
  have p10 : 0 ≤ (0 : Int) := (by omega)
  have q10 : (0 : Int) < ((y101.length : Int) : Int) := zD
  have qi10 : (0 < y101.length) = True := eq_true (by omega)
  obtain ⟨go10, co10, eo10, gb10, gl10, cl10, HG10⟩ := Kd.R_form HO103.out (by omega)
  (first | cases eo10 | (injection eo10 with ea_ en_ ec_; (first | subst ea_ | (injection ea_ with ea_; subst ea_)); subst ec_; clear en_))
  have GB10 := Aside0.mk gb10
  have GG10 := Aside0.mk HG10
  clear gb10 gl10 HG10
  obtain ⟨hx10_0, hf10_0⟩ := Kd.R_celln 0 HO103.out (0 : Int) p10 q10
  (try rw [show ((0 : Int)).toNat = 0 from rfl] at hx10_0)
  (try simp only [Nat.reduceMul, Nat.zero_mul, Nat.zero_add, Nat.reduceAdd] at hx10_0)
  (try rw [show ((0 : Int)).toNat = 0 from rfl] at hf10_0)
  (try simp only [Nat.reduceMul, Nat.zero_mul, Nat.zero_add, Nat.reduceAdd] at hf10_0)
  replace p10 := eq_true p10
  replace q10 := eq_true q10
  have HP11 := Kd.R_putg HO103.out (0 : Int) 1
  go_wp2_with (first | ((with_reducible refine gate_store (t := 3) (p := 12) rfl ?_); refine store_event (t := 3) (p := 12) (v := ?vo_w12) (w1 := (w6.setCell ⟨go10, (0 : Int).toNat, none⟩ (.int .i64 1))) ?hg ?ho ?hn ?hr ?_; (case ho => rfl); (case hg => rfl); (case hn => rfl); (case hr => go_simp <;> rfl); intro w12 hw; have hg : w6.grownBy w12 (some go10) := (by rw [hw]; exact HP11.2); have hp_ : Kd.R (Kd.int .i64) 3 w12 w.heap.size (fun _ => True) (.slice (some ⟨go10, 0, none⟩) y101.length co10) y104 := (by rw [hw, Ny104.out]; exact HP11.1); clear HP11; replace HO103 := Aside0.mk (hp_); replace HB := Aside0.mk ((by rw [hw]; exact below_set (HB.out) GB10.out : Below w.heap.size w w12)); clear hg hw hp_))
  go_meet
  case rel => exact ⟨_, (y104), H', ⟨by first | omega | exact Nat.le_refl _⟩, ⟨zR HO103.out⟩, ⟨zT⟩⟩
 case rest =>
  clear HC5
  try clear c1; try clear p1; try clear q1; try clear hx1; try clear qi1; try clear p2; try clear c3; try clear c3b0; try clear c3b1; try clear c4; try clear c4b0; try clear c4b1; try clear c8; try clear c8b0; try clear c9; try clear c9b0; try clear c9b1; try clear p10; try clear q10; try clear hx10; try clear qi10; try clear hf10; try clear hx10_0; try clear p10; try clear q10
  obtain ⟨kq, x5_4, HA, HJ4, HO_5, HB⟩ := hcut
  cases kq with
  | zero => exact absurd HA.out (by simp [galoisref15_Modulus.j0])
  | succ kj4 =>
   have H := HA.out
   clear HA
   simp only [galoisref15_Modulus.j0] at H
   have H' := Aside0.mk H
   clear H
   go_wp2
   go_loopg [5] kj4 (fun kq v5 w' => ∃ (x5_2 : List Int), Aside0 (galoisref15_Modulus.l0 kq a0 x5_2 = some r) ∧ Aside0 (kq ≤ kj4) ∧ Aside0 (Kd.R (Kd.int .i64) 3 w' w.heap.size (fun _ => True) v5 x5_2) ∧ Aside0 (Below w.heap.size w w'))
   case atStart => exact ⟨(x5_4), H', ⟨Nat.le_refl _⟩, ⟨zR HO_5.out⟩, ⟨zT⟩⟩
   case round =>
    clear H'
    try clear c1; try clear p1; try clear q1; try clear hx1; try clear qi1; try clear p2; try clear c3; try clear c3b0; try clear c3b1; try clear c4; try clear c4b0; try clear c4b1; try clear c8; try clear c8b0; try clear c9; try clear c9b0; try clear c9b1; try clear p10; try clear q10; try clear hx10; try clear qi10; try clear hf10; try clear hx10_0; try clear p1; try clear p10; try clear p2; try clear q1; try clear q10
    obtain ⟨x5_2, HA, HK2, HO_5, HB⟩ := hrel
    cases gk with
    | zero => exact absurd HA.out (by simp [galoisref15_Modulus.l0])
    | succ k2 =>
     have H := HA.out
     clear HA
     simp only [galoisref15_Modulus.l0] at H
     obtain ⟨t105, A13, H⟩ := zO H
     by_cases c14 : t105.length < 17592186044416
     rotate_left
     ·rw [if_neg c14] at H
      exact absurd H (by simp)
     rw [if_pos c14] at H
     have LMc14 := Aside0.mk c14
     clear c14
     obtain ⟨y108, Ny108, H⟩ := zY H
     obtain ⟨t111, A15, H⟩ := zO H
     by_cases c16 : t111 = true
     ·subst c16
      rw [if_pos rfl] at H
      obtain rfl := Option.some.inj H
      obtain ⟨Ao17, co17, eo17⟩ := Kd.R_slice HO_5.out
      subst eo17
      go_wp2_with (first | ((with_reducible refine gate_callee (f := 47) rfl ?_); refine zG (some 14) Try.func47 #[.slice Ao17 x5_2.length co17] ?_; (with_reducible refine (galoisref09_Copy.calls _ _ x5_2 t105 _ (zC ((Kd.R_reads' HO_5.out).2.2)) ((Kd.R_reads' HO_5.out).2.1) A13.out).mono ?_); rintro e w18 ⟨v106, rfl, ho0, hb⟩; refine ⟨_, rfl, ?_⟩; have HO107 := Aside0.mk (Kd.R_lower (Kd.R_new' ho0 (Kd.R_lt (zR HO_5.out))) (zS HB)); replace HO_5 := Aside0.mk (Kd.R_elder' (zR HO_5.out) (Kd.R_base ho0) hb); replace HB := zBb HB hb; (try clear hb); (try clear ho0)) | ((with_reducible refine gate_builtin (b := .append) (xs := #[.tmp 14, .tmp 15]) rfl ?_); at_builtin; refine Kd.R_append (Kd.int .i64) (w0 := w) w.heap.size rfl (.tmp 14) (.tmp 15) 25 3 (.int .i64 0) 8 rfl Try.underlying25 info3 rfl (by decide) (by omega) v106 t105 1 [.int .i64 1] (fun k_ => some k_ ≠ (.slice Ao17 x5_2.length co17 : Value).ownBlock) (fun _ => False) rfl rfl ?aP (fun _ hk => hk.elim) ?aF ?aO ?aB ?aS ?aL ?_; (case aP => exact rfl); (case aB => exact (zT)); (case aF => exact (fun k_ hk => Kd.fresh' (Kd.R_lt (zR HO_5.out)) k_ hk)); (case aO => exact (zR (Kd.R_mono HO107.out (fun _ hk => hk.2)))); (case aS => exact (zS HB)); (case aL => have := LMc14.out; omega); intro v109 w19 ho hb hg hat; rw [← Ny108.out] at ho; replace HO_5 := Aside0.mk (Kd.R_after (ok := (fun _ => True)) (zR HO_5.out) hg hat); replace HB := Aside0.mk (hb); have HO110 := Aside0.mk (ho); clear HO107; clear ho hb hg hat; obtain ⟨Ao20, co20, eo20⟩ := Kd.R_slice HO110.out; subst eo20) | ((with_reducible refine gate_callee (f := 48) rfl ?_); refine zG (some 19) Try.func48 #[.int .i64 a0, .slice Ao20 y108.length co20] ?_; (with_reducible refine (galoisref09_IsIrreducible.calls k2 a0 _ _ y108 true _ (zC ((Kd.R_reads' HO110.out).2.2)) ((Kd.R_reads' HO110.out).2.1) A15.out).mono ?_); rintro e w21 ⟨rfl, hb⟩; refine ⟨_, rfl, ?_⟩; replace HO_5 := zRb HO_5 hb; replace HO110 := zRb HO110 hb; replace HB := zBb HB hb; (try clear hb)))
      go_ret
      exact ⟨_, zQ, zR (Kd.R_mono HO110.out (fun _ hk => trivial)), zT⟩
     replace c16 := Bool.eq_false_iff.mpr c16
     subst c16
     rw [if_neg Bool.false_ne_true] at H
     obtain ⟨⟨t112, t113⟩, A22, H⟩ := zO H; try dsimp only at H
     have H' := Aside0.mk H
     clear H
     obtain ⟨Ao23, co23, eo23⟩ := Kd.R_slice HO_5.out
     subst eo23
     go_wp2_with (first | ((with_reducible refine gate_callee (f := 47) rfl ?_); refine zG (some 14) Try.func47 #[.slice Ao23 x5_2.length co23] ?_; (with_reducible refine (galoisref09_Copy.calls _ _ x5_2 t105 _ (zC ((Kd.R_reads' HO_5.out).2.2)) ((Kd.R_reads' HO_5.out).2.1) A13.out).mono ?_); rintro e w24 ⟨v106, rfl, ho0, hb⟩; refine ⟨_, rfl, ?_⟩; have HO107 := Aside0.mk (Kd.R_lower (Kd.R_new' ho0 (Kd.R_lt (zR HO_5.out))) (zS HB)); replace HO_5 := Aside0.mk (Kd.R_elder' (zR HO_5.out) (Kd.R_base ho0) hb); replace HB := zBb HB hb; (try clear hb); (try clear ho0)) | ((with_reducible refine gate_builtin (b := .append) (xs := #[.tmp 14, .tmp 15]) rfl ?_); at_builtin; refine Kd.R_append (Kd.int .i64) (w0 := w) w.heap.size rfl (.tmp 14) (.tmp 15) 25 3 (.int .i64 0) 8 rfl Try.underlying25 info3 rfl (by decide) (by omega) v106 t105 1 [.int .i64 1] (fun k_ => some k_ ≠ (.slice Ao23 x5_2.length co23 : Value).ownBlock) (fun _ => False) rfl rfl ?aP (fun _ hk => hk.elim) ?aF ?aO ?aB ?aS ?aL ?_; (case aP => exact rfl); (case aB => exact (zT)); (case aF => exact (fun k_ hk => Kd.fresh' (Kd.R_lt (zR HO_5.out)) k_ hk)); (case aO => exact (zR (Kd.R_mono HO107.out (fun _ hk => hk.2)))); (case aS => exact (zS HB)); (case aL => have := LMc14.out; omega); intro v109 w25 ho hb hg hat; rw [← Ny108.out] at ho; replace HO_5 := Aside0.mk (Kd.R_after (ok := (fun _ => True)) (zR HO_5.out) hg hat); replace HB := Aside0.mk (hb); have HO110 := Aside0.mk (ho); clear HO107; clear ho hb hg hat; obtain ⟨Ao26, co26, eo26⟩ := Kd.R_slice HO110.out; subst eo26) | ((with_reducible refine gate_callee (f := 48) rfl ?_); refine zG (some 19) Try.func48 #[.int .i64 a0, .slice Ao26 y108.length co26] ?_; (with_reducible refine (galoisref09_IsIrreducible.calls k2 a0 _ _ y108 false _ (zC ((Kd.R_reads' HO110.out).2.2)) ((Kd.R_reads' HO110.out).2.1) A15.out).mono ?_); rintro e w27 ⟨rfl, hb⟩; refine ⟨_, rfl, ?_⟩; replace HO_5 := zRb HO_5 hb; replace HO110 := zRb HO110 hb; replace HB := zBb HB hb; (try clear hb)) | ((with_reducible refine gate_callee (f := 49) rfl ?_); refine zG (some 24) Try.func49 #[.int .i64 a0, .slice Ao23 x5_2.length co23] ?_; (with_reducible refine (galoisref09_Next.calls k2 a0 _ _ x5_2 t112 t113 _ (zC ((Kd.R_reads' HO_5.out).2.2)) ((Kd.R_reads' HO_5.out).2.1) A22.out).mono ?_); rintro e w28 ⟨v114, rfl, ho0, hb⟩; refine ⟨_, rfl, ?_⟩; have HO115 := Aside0.mk (Kd.R_lower (Kd.R_new' (Kd.R_new' ho0 (Kd.R_lt (zR HO_5.out))) (Kd.R_lt (zR HO110.out))) (zS HB)); replace HO_5 := Aside0.mk (Kd.R_elder' (zR HO_5.out) (Kd.R_base ho0) hb); replace HO110 := Aside0.mk (Kd.R_elder' (zR HO110.out) (Kd.R_base ho0) hb); replace HB := zBb HB hb; (try clear hb); (try clear ho0)))
     go_roundg k2
     case measure => have := HJ4.out; have := HK2.out; omega
     case rel => exact ⟨(t112), H', ⟨by have := HJ4.out; have := HK2.out; omega⟩, ⟨zR (Kd.R_mono HO115.out (fun _ hk => trivial))⟩, ⟨zT⟩⟩
end Go.Proofs.Ytalnaafmonmlmaa.Q
end

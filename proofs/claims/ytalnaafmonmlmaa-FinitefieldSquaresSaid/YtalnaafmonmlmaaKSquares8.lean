/- Machine side and arithmetic of the law, put together by a program of the session. No conditions. -/
import Derived.Test.YtalnaafmonmlmaaKSquares5
import Derived.Test.YtalnaafmonmlmaaKSquares6
import Derived.Test.YtalnaafmonmlmaaKSquares7
section
namespace Go.Proofs.Ytalnaafmonmlmaa.Q
open Go.RowKit Go.Proofs.YtalnaafmonmlmaaW.PrintWords Go.Proofs.YtalnaafmonmlmaaW.PrintLast Go.Proofs.YtalnaafmonmlmaaW.PrintMore
attribute [local go_sem] max2_int min2_int max_two min_two max_three min_three max_four min_four
set_option linter.unusedVariables false
set_option linter.unusedSimpArgs false
set_option maxHeartbeats 8000000
set_option maxRecDepth 100000
def galoisref09_Gcd.l0 : Nat → Int → List Int → List Int → Option (List Int)
 | 0, _, _, _ => none
 | k + 1, x0, x1, x2 => if (x2.length : Int) > 0 then ((galoisref09_Mod.f k x0 x1 x2).bind fun t101 => (galoisref09_Gcd.l0 k x0 x2 t101)) else ((galoisref09_Monic.f k x0 x1).bind fun t104 => (some t104))
def galoisref09_Gcd.f (k : Nat) (a0 : Int) (l1 : List Int) (l2 : List Int) : Option (List Int) := galoisref09_Gcd.l0 k a0 l1 l2
theorem galoisref09_Gcd.mono_l : ∀ k, (∀ y0 y1 y2, LeO (galoisref09_Gcd.l0 k y0 y1 y2) (galoisref09_Gcd.l0 (k + 1) y0 y1 y2))
 | 0 => fun _ _ _ r h => by simp [galoisref09_Gcd.l0] at h
 | k + 1 => by
  have ih0 := galoisref09_Gcd.mono_l k
  intro y0 y1 y2
  unfold galoisref09_Gcd.l0
  with_reducible repeat' first | exact ih0 _ _ _ | exact galoisref09_Mod.mono _ _ _ _ | exact galoisref09_Monic.mono _ _ _ | exact LeO.refl _ | exact LeO.none _ | refine LeO.ite ?_ ?_ | refine LeO.bind ?_ (fun _ => ?_)
theorem galoisref09_Gcd.mono : ∀ a0 a1 a2 k, LeO (galoisref09_Gcd.f k a0 a1 a2) (galoisref09_Gcd.f (k + 1) a0 a1 a2) := by
 intro a0 a1 a2 k
 have ih0 := galoisref09_Gcd.mono_l k
 unfold galoisref09_Gcd.f
 with_reducible repeat' first | exact ih0 _ _ _ | exact galoisref09_Mod.mono _ _ _ _ | exact galoisref09_Monic.mono _ _ _ | exact LeO.refl _ | exact LeO.none _ | refine LeO.ite ?_ ?_ | refine LeO.bind ?_ (fun _ => ?_)
theorem galoisref09_Gcd.calls (k : Nat) (a0 : Int) (P1_ : Nat → Prop) (A1 : Option Addr) (c1 : Nat) (l1 : List Int) (P2_ : Nat → Prop) (A2 : Option Addr) (c2 : Nat) (l2 : List Int) (r : List Int) (w : World) (hs1 : Kd.V (Kd.int .i64) 3 w w.heap.size (fun k_ => P1_ k_) (.slice A1 l1.length c1) l1) (hs2 : Kd.V (Kd.int .i64) 3 w w.heap.size (fun k_ => P2_ k_) (.slice A2 l2.length c2) l2) (h : galoisref09_Gcd.f k a0 l1 l2 = some r) :
  Calls Try.prog 89 #[.int .i64 a0, .slice A1 l1.length c1, .slice A2 l2.length c2] w fun e w' => ∃ v0_ : Value, e = .returned (v0_) ∧ Kd.V (Kd.int .i64) 3 w' w.heap.size (fun k_ => ((P1_ k_ ∨ P2_ k_) ∨ w.heap.size ≤ k_)) v0_ r ∧ Below w.heap.size w w' := by
 have HO1 := Aside0.mk (show Kd.V (Kd.int .i64) 3 w w.heap.size (fun k_ => ((P1_ k_ ∨ P2_ k_) ∨ w.heap.size ≤ k_)) (.slice A1 l1.length c1) l1 from Kd.V_mono hs1 (fun k_ hk => .inl (.inl hk)))
 have HO2 := Aside0.mk (show Kd.V (Kd.int .i64) 3 w w.heap.size (fun k_ => ((P1_ k_ ∨ P2_ k_) ∨ w.heap.size ≤ k_)) (.slice A2 l2.length c2) l2 from Kd.V_mono hs2 (fun k_ hk => .inl (.inr hk)))
 have HB := Aside0.mk (Below.refl w.heap.size w)
 have H := h; clear h; unfold galoisref09_Gcd.f at H
 have H' := Aside0.mk H
 clear H
 go_enter Try.func89, Try.ntmps89
 go_wp2
 go_loopg [1, 2] k (fun kq v1 v2 w' => ∃ (x1_1 : List Int) (x2_1 : List Int), Aside0 (galoisref09_Gcd.l0 kq a0 x1_1 x2_1 = some r) ∧ Aside0 (kq ≤ k) ∧ Aside0 (Kd.V (Kd.int .i64) 3 w' w.heap.size (fun k_ => ((P1_ k_ ∨ P2_ k_) ∨ w.heap.size ≤ k_)) v1 x1_1) ∧ Aside0 (Kd.V (Kd.int .i64) 3 w' w.heap.size (fun k_ => ((P1_ k_ ∨ P2_ k_) ∨ w.heap.size ≤ k_)) v2 x2_1) ∧ Aside0 (Below w.heap.size w w'))
 case atStart => exact ⟨(l1), (l2), H', ⟨Nat.le_refl _⟩, ⟨zV HO1.out⟩, ⟨zV HO2.out⟩, ⟨zT⟩⟩
 case round =>
  clear H'
  try clear c1; try clear c2; try clear p2
  obtain ⟨x1_1, x2_1, HA, HK1, HO_1, HO_2, HB⟩ := hrel
  cases gk with
  | zero => exact absurd HA.out (by simp [galoisref09_Gcd.l0])
  | succ k1 =>
   have H := HA.out
   clear HA
   simp only [galoisref09_Gcd.l0] at H
   by_cases c4 : (x2_1.length : Int) > 0
   rotate_left
   ·rw [if_neg c4] at H
    have c4b0 : decide (0 < (x2_1.length : Int)) = false := decide_eq_false c4
    have c4b1 : decide (0 < x2_1.length) = false := decide_eq_false (by omega)
    clear c4
    obtain ⟨t104, A9, H⟩ := zO H
    obtain rfl := Option.some.inj H
    obtain ⟨Ao10, co10, eo10⟩ := Kd.V_slice HO_2.out
    subst eo10
    obtain ⟨Ao11, co11, eo11⟩ := Kd.V_slice HO_1.out
    subst eo11
    go_wp2_with (first | ((with_reducible refine gate_callee (f := 109) rfl ?_); refine zG (some 17) Try.func109 #[.int .i64 a0, .slice Ao11 x1_1.length co11] ?_; (with_reducible refine (galoisref09_Monic.calls k1 a0 _ _ x1_1 t104 _ (zC ((Kd.V_reads' HO_1.out).2.2)) ((Kd.V_reads' HO_1.out).2.1) A9.out).mono ?_); rintro e w12 ⟨v105, rfl, ho0, hb⟩; refine ⟨_, rfl, ?_⟩; replace HO_1 := zVb HO_1 hb; replace HO_2 := zVb HO_2 hb; have HO106 := zWV (fun k_ => ((P1_ k_ ∨ P2_ k_) ∨ w.heap.size ≤ k_)) ho0 HB (fun k_ hk_ => (.inr (Nat.le_trans (zS HB) hk_))); replace HB := zBb HB hb; (try clear hb); (try clear ho0)))
    go_ret
    exact ⟨_, zQ, zV HO106.out, zT⟩
   rw [if_pos c4] at H
   have c4b0 : decide (0 < (x2_1.length : Int)) = true := decide_eq_true c4
   have c4b1 : decide (0 < x2_1.length) = true := decide_eq_true (by omega)
   clear c4
   obtain ⟨t101, A5, H⟩ := zO H
   have H' := Aside0.mk H
   clear H
   obtain ⟨Ao6, co6, eo6⟩ := Kd.V_slice HO_2.out
   subst eo6
   obtain ⟨Ao7, co7, eo7⟩ := Kd.V_slice HO_1.out
   subst eo7
   go_wp2_with (first | ((with_reducible refine gate_callee (f := 86) rfl ?_); refine zG (some 14) Try.func86 #[.int .i64 a0, .slice Ao7 x1_1.length co7, .slice Ao6 x2_1.length co6] ?_; (with_reducible refine (galoisref09_Mod.calls k1 a0 _ _ x1_1 _ _ x2_1 t101 _ (zC ((Kd.V_reads' HO_1.out).2.2)) ((Kd.V_reads' HO_1.out).2.1) (zC ((Kd.V_reads' HO_2.out).2.2)) ((Kd.V_reads' HO_2.out).2.1) A5.out).mono ?_); rintro e w8 ⟨v102, rfl, ho0, hb⟩; refine ⟨_, rfl, ?_⟩; replace HO_1 := zVb HO_1 hb; replace HO_2 := zVb HO_2 hb; have HO103 := zWV (fun k_ => ((P1_ k_ ∨ P2_ k_) ∨ w.heap.size ≤ k_)) ho0 HB (fun k_ hk_ => (.inr (Nat.le_trans (zS HB) hk_))); replace HB := zBb HB hb; (try clear hb); (try clear ho0)))
   go_roundg k1
   case measure => have := HK1.out; omega
   case rel => exact ⟨(x2_1), (t101), H', ⟨by have := HK1.out; omega⟩, ⟨zV HO_2.out⟩, ⟨zV HO103.out⟩, ⟨zT⟩⟩
end Go.Proofs.Ytalnaafmonmlmaa.Q
end
section
namespace Go.Proofs.Ytalnaafmonmlmaa.Q
open Go.RowKit Go.Proofs.YtalnaafmonmlmaaW.PrintWords Go.Proofs.YtalnaafmonmlmaaW.PrintLast Go.Proofs.YtalnaafmonmlmaaW.PrintMore
attribute [local go_sem] max2_int min2_int max_two min_two max_three min_three max_four min_four
set_option linter.unusedVariables false
set_option linter.unusedSimpArgs false
set_option maxHeartbeats 8000000
set_option maxRecDepth 100000
def galoisref09_IsIrreducible.l0 : Nat → Int → List Int → List Int → Int → Option (Bool)
 | 0, _, _, _, _ => none
 | k + 1, x0, x1, x5, x6 => if (wrap64 (2 * x6)) ≤ (wrap64 ((x1.length : Int) - 1)) then ((galoisref01_FromInt.f k x0).bind fun t107 => ((galoisref09_PowMod.f k x0 x5 t107 x1).bind fun t108 => ((galoisref09_X.f).bind fun t111 => ((galoisref09_Sub.f k x0 t108 t111).bind fun t114 => ((galoisref09_Gcd.f k x0 t114 x1).bind fun t117 => (if (t117.length : Int) = 1 then (galoisref09_IsIrreducible.l0 k x0 x1 t108 (wrap64 (x6 + 1))) else (some false))))))) else (some true)
def galoisref09_IsIrreducible.f (k : Nat) (a0 : Int) (l1 : List Int) : Option (Bool) := if (l1.length : Int) < 2 then (some false) else ((galoisref09_X.f).bind fun t101 => ((galoisref09_Mod.f k a0 t101 l1).bind fun t104 => (galoisref09_IsIrreducible.l0 k a0 l1 t104 1)))
theorem galoisref09_IsIrreducible.mono_l : ∀ k, (∀ y0 y1 y2 y3, LeO (galoisref09_IsIrreducible.l0 k y0 y1 y2 y3) (galoisref09_IsIrreducible.l0 (k + 1) y0 y1 y2 y3))
 | 0 => fun _ _ _ _ r h => by simp [galoisref09_IsIrreducible.l0] at h
 | k + 1 => by
  have ih0 := galoisref09_IsIrreducible.mono_l k
  intro y0 y1 y2 y3
  unfold galoisref09_IsIrreducible.l0
  with_reducible repeat' first | exact ih0 _ _ _ _ | exact galoisref01_FromInt.mono _ _ | exact galoisref09_Gcd.mono _ _ _ _ | exact galoisref09_Mod.mono _ _ _ _ | exact galoisref09_PowMod.mono _ _ _ _ _ | exact galoisref09_Sub.mono _ _ _ _ | exact LeO.refl _ | exact LeO.none _ | refine LeO.ite ?_ ?_ | refine LeO.bind ?_ (fun _ => ?_)
theorem galoisref09_IsIrreducible.mono : ∀ a0 a1 k, LeO (galoisref09_IsIrreducible.f k a0 a1) (galoisref09_IsIrreducible.f (k + 1) a0 a1) := by
 intro a0 a1 k
 have ih0 := galoisref09_IsIrreducible.mono_l k
 unfold galoisref09_IsIrreducible.f
 with_reducible repeat' first | exact ih0 _ _ _ _ | exact galoisref01_FromInt.mono _ _ | exact galoisref09_Gcd.mono _ _ _ _ | exact galoisref09_Mod.mono _ _ _ _ | exact galoisref09_PowMod.mono _ _ _ _ _ | exact galoisref09_Sub.mono _ _ _ _ | exact LeO.refl _ | exact LeO.none _ | refine LeO.ite ?_ ?_ | refine LeO.bind ?_ (fun _ => ?_)
theorem galoisref09_IsIrreducible.calls (k : Nat) (a0 : Int) (A1 : Option Addr) (c1 : Nat) (l1 : List Int) (r : Bool) (w : World) (hr1 : Kd.C (Kd.int .i64) w A1 l1.length l1) (hc1 : l1.length ≤ c1) (h : galoisref09_IsIrreducible.f k a0 l1 = some r) :
  Calls Try.prog 48 #[.int .i64 a0, .slice A1 l1.length c1] w fun e w' => e = .returned (.bool r) ∧ Below w.heap.size w w' := by
 have HR1 := Aside0.mk hr1
 have HC1 := Aside0.mk hc1
 clear hr1 hc1
 have HB := Aside0.mk (Below.refl w.heap.size w)
 have H := h; clear h; unfold galoisref09_IsIrreducible.f at H
 by_cases c3 : (l1.length : Int) < 2
 ·rw [if_pos c3] at H
  have c3b0 : decide ((l1.length : Int) < 2) = true := decide_eq_true c3
  have c3b1 : decide (l1.length < 2) = true := decide_eq_true (by omega)
  clear c3
  obtain rfl := Option.some.inj H
  go_enter Try.func48, Try.ntmps48
  go_wp2
  go_ret
  exact ⟨zQ, zT⟩
 rw [if_neg c3] at H
 have c3b0 : decide ((l1.length : Int) < 2) = false := decide_eq_false c3
 have c3b1 : decide (l1.length < 2) = false := decide_eq_false (by omega)
 clear c3
 obtain ⟨t101, A4, H⟩ := zO H
 obtain ⟨t104, A5, H⟩ := zO H
 have H' := Aside0.mk H
 clear H
 go_enter Try.func48, Try.ntmps48
 go_wp2_with (first | ((with_reducible refine gate_callee (f := 87) rfl ?_); refine zG (some 11) Try.func87 #[] ?_; (with_reducible refine (galoisref09_X.calls  t101 _ A4.out).mono ?_); rintro e w6 ⟨v102, rfl, ho0, hb⟩; refine ⟨_, rfl, ?_⟩; have HO103 := Aside0.mk (Kd.R_lower ho0 (zS HB)); replace HB := zBb HB hb; (try clear hb); (try clear ho0); obtain ⟨Ao7, co7, eo7⟩ := Kd.R_slice HO103.out; subst eo7) | ((with_reducible refine gate_callee (f := 86) rfl ?_); refine zG (some 13) Try.func86 #[.int .i64 a0, .slice Ao7 t101.length co7, .slice A1 l1.length c1] ?_; (with_reducible refine (galoisref09_Mod.calls k a0 _ _ t101 _ _ l1 t104 _ (zC ((Kd.R_reads' HO103.out).2.2)) ((Kd.R_reads' HO103.out).2.1) (zC (Kd.C_below HR1.out HB.out)) HC1.out A5.out).mono ?_); rintro e w8 ⟨v105, rfl, ho0, hb⟩; refine ⟨_, rfl, ?_⟩; have HO106 := zWV (fun k_ => some k_ ≠ (.slice Ao7 t101.length co7 : Value).ownBlock) ho0 HB (fun k_ hk_ => (Kd.fresh' (Kd.R_lt (zR HO103.out)) k_ hk_)); replace HO103 := zRb HO103 hb; replace HB := zBb HB hb; (try clear hb); (try clear ho0)))
 go_loopg [5, 6] k (fun kq v5 v6 w' => ∃ (x5_1 : List Int) (x6_1 : Int), v6 = .int .i64 x6_1 ∧ Aside0 (galoisref09_IsIrreducible.l0 kq a0 l1 x5_1 x6_1 = some r) ∧ Aside0 (kq ≤ k) ∧ Aside0 (Kd.V (Kd.int .i64) 3 w' w.heap.size (fun _ => True) v5 x5_1) ∧ Aside0 (Below w.heap.size w w'))
 case atStart => exact ⟨(t104), (1), zX, H', ⟨Nat.le_refl _⟩, ⟨zV (Kd.V_mono HO106.out (fun _ hk => trivial))⟩, ⟨zT⟩⟩
 case round =>
  clear H'
  try clear c1; try clear p2; try clear c3; try clear c3b0; try clear c3b1; try clear c4; try clear c8
  obtain ⟨x5_1, x6_1, rfl, HA, HK1, HO_5, HB⟩ := hrel
  cases gk with
  | zero => exact absurd HA.out (by simp [galoisref09_IsIrreducible.l0])
  | succ k1 =>
   have H := HA.out
   clear HA
   simp only [galoisref09_IsIrreducible.l0] at H
   by_cases c9 : (wrap64 (2 * x6_1)) ≤ (wrap64 ((l1.length : Int) - 1))
   rotate_left
   ·rw [if_neg c9] at H
    have c9b0 := decide_eq_false c9; clear c9
    obtain rfl := Option.some.inj H
    go_wp2
    go_ret
    exact ⟨zQ, zT⟩
   rw [if_pos c9] at H
   have c9b0 := decide_eq_true c9; clear c9
   obtain ⟨t107, A10, H⟩ := zO H
   obtain ⟨t108, A11, H⟩ := zO H
   obtain ⟨t111, A12, H⟩ := zO H
   obtain ⟨t114, A13, H⟩ := zO H
   obtain ⟨t117, A14, H⟩ := zO H
   by_cases c15 : (t117.length : Int) = 1
   rotate_left
   ·rw [if_neg c15] at H
    obtain ⟨c15b0, c15b1⟩ := zU c15
    obtain rfl := Option.some.inj H
    go_wp2_with (first | ((with_reducible refine gate_callee (f := 35) rfl ?_); refine zG (some 25) Try.func35 #[.int .i64 a0] ?_; (with_reducible refine (galoisref01_FromInt.calls k1 a0 t107 _ A10.out).mono ?_); rintro e w26 ⟨rfl, hb⟩; refine ⟨_, rfl, ?_⟩; replace HO_5 := zVb HO_5 hb; replace HB := zBb HB hb; (try clear hb); obtain ⟨Ao27, co27, eo27⟩ := Kd.V_slice HO_5.out; subst eo27) | ((with_reducible refine gate_callee (f := 88) rfl ?_); refine zG (some 27) Try.func88 #[.int .i64 a0, .slice Ao27 x5_1.length co27, .string t107, .slice A1 l1.length c1] ?_; (with_reducible refine (galoisref09_PowMod.calls k1 a0 _ _ x5_1 t107 _ _ l1 t108 _ (zC ((Kd.V_reads' HO_5.out).2.2)) ((Kd.V_reads' HO_5.out).2.1) (zC (Kd.C_below HR1.out HB.out)) HC1.out A11.out).mono ?_); rintro e w28 ⟨v109, rfl, ho0, hb⟩; refine ⟨_, rfl, ?_⟩; replace HO_5 := zVb HO_5 hb; have HO110 := zWV (fun k_ => True) ho0 HB (fun k_ hk_ => trivial); replace HB := zBb HB hb; (try clear hb); (try clear ho0)) | ((with_reducible refine gate_callee (f := 87) rfl ?_); refine zG (some 31) Try.func87 #[] ?_; (with_reducible refine (galoisref09_X.calls  t111 _ A12.out).mono ?_); rintro e w29 ⟨v112, rfl, ho0, hb⟩; refine ⟨_, rfl, ?_⟩; replace HO_5 := Aside0.mk (Kd.V_elder' (zV HO_5.out) (Kd.R_base ho0) hb); replace HO110 := Aside0.mk (Kd.V_elder' (zV HO110.out) (Kd.R_base ho0) hb); have HO113 := Aside0.mk (Kd.R_lower ho0 (zS HB)); replace HB := zBb HB hb; (try clear hb); (try clear ho0); obtain ⟨Ao30, co30, eo30⟩ := Kd.V_slice HO110.out; subst eo30; obtain ⟨Ao31, co31, eo31⟩ := Kd.R_slice HO113.out; subst eo31) | ((with_reducible refine gate_callee (f := 65) rfl ?_); refine zG (some 32) Try.func65 #[.int .i64 a0, .slice Ao30 t108.length co30, .slice Ao31 t111.length co31] ?_; (with_reducible refine (galoisref09_Sub.calls k1 a0 _ _ t108 _ _ t111 t114 _ (zC ((Kd.V_reads' HO110.out).2.2)) ((Kd.V_reads' HO110.out).2.1) (zC ((Kd.R_reads' HO113.out).2.2)) ((Kd.R_reads' HO113.out).2.1) A13.out).mono ?_); rintro e w32 ⟨v115, rfl, ho0, hb⟩; refine ⟨_, rfl, ?_⟩; replace HO_5 := zVb HO_5 hb; replace HO110 := zVb HO110 hb; have HO116 := zWV (fun k_ => some k_ ≠ (.slice Ao31 t111.length co31 : Value).ownBlock) ho0 HB (fun k_ hk_ => (Kd.fresh' (Kd.R_lt (zR HO113.out)) k_ hk_)); replace HO113 := zRb HO113 hb; replace HB := zBb HB hb; (try clear hb); (try clear ho0); obtain ⟨Ao33, co33, eo33⟩ := Kd.V_slice HO116.out; subst eo33) | ((with_reducible refine gate_callee (f := 89) rfl ?_); refine zG (some 34) Try.func89 #[.int .i64 a0, .slice Ao33 t114.length co33, .slice A1 l1.length c1] ?_; (with_reducible refine (galoisref09_Gcd.calls k1 a0 (fun k_ => some k_ ≠ (.slice Ao31 t111.length co31 : Value).ownBlock) _ _ t114 (fun k_ => k_ < w.heap.size) _ _ l1 t117 _ HO116.out (Kd.V_mk HC1.out (Kd.F_below (Kd.C_F (Kd.heap_int .i64) HR1.out) (zT))) A14.out).mono ?_); rintro e w34 ⟨v118, rfl, ho0, hb⟩; refine ⟨_, rfl, ?_⟩; replace HO_5 := zVb HO_5 hb; replace HO110 := zVb HO110 hb; replace HO116 := zVb HO116 hb; have HO119 := zWV (fun k_ => some k_ ≠ (.slice Ao31 t111.length co31 : Value).ownBlock) ho0 HB (fun k_ hk_ => Or.elim hk_ (fun hs_ => Or.elim hs_ (fun hs_ => hs_) (fun hs_ => fun e_ => Nat.not_le.2 hs_ (Kd.R_base HO113.out k_ e_.symm))) (fun hn_ => (Kd.fresh' (Kd.R_lt (zR HO113.out)) k_ hn_))); replace HO113 := zRb HO113 hb; replace HB := zBb HB hb; (try clear hb); (try clear ho0); obtain ⟨Ao35, co35, eo35⟩ := Kd.V_slice HO119.out; subst eo35))
    go_ret
    exact ⟨zQ, zT⟩
   rw [if_pos c15] at H
   obtain ⟨c15b0, c15b1⟩ := zE c15; clear c15
   have H' := Aside0.mk H
   clear H
   go_wp2_with (first | ((with_reducible refine gate_callee (f := 35) rfl ?_); refine zG (some 25) Try.func35 #[.int .i64 a0] ?_; (with_reducible refine (galoisref01_FromInt.calls k1 a0 t107 _ A10.out).mono ?_); rintro e w16 ⟨rfl, hb⟩; refine ⟨_, rfl, ?_⟩; replace HO_5 := zVb HO_5 hb; replace HB := zBb HB hb; (try clear hb); obtain ⟨Ao17, co17, eo17⟩ := Kd.V_slice HO_5.out; subst eo17) | ((with_reducible refine gate_callee (f := 88) rfl ?_); refine zG (some 27) Try.func88 #[.int .i64 a0, .slice Ao17 x5_1.length co17, .string t107, .slice A1 l1.length c1] ?_; (with_reducible refine (galoisref09_PowMod.calls k1 a0 _ _ x5_1 t107 _ _ l1 t108 _ (zC ((Kd.V_reads' HO_5.out).2.2)) ((Kd.V_reads' HO_5.out).2.1) (zC (Kd.C_below HR1.out HB.out)) HC1.out A11.out).mono ?_); rintro e w18 ⟨v109, rfl, ho0, hb⟩; refine ⟨_, rfl, ?_⟩; replace HO_5 := zVb HO_5 hb; have HO110 := zWV (fun k_ => True) ho0 HB (fun k_ hk_ => trivial); replace HB := zBb HB hb; (try clear hb); (try clear ho0)) | ((with_reducible refine gate_callee (f := 87) rfl ?_); refine zG (some 31) Try.func87 #[] ?_; (with_reducible refine (galoisref09_X.calls  t111 _ A12.out).mono ?_); rintro e w19 ⟨v112, rfl, ho0, hb⟩; refine ⟨_, rfl, ?_⟩; replace HO_5 := Aside0.mk (Kd.V_elder' (zV HO_5.out) (Kd.R_base ho0) hb); replace HO110 := Aside0.mk (Kd.V_elder' (zV HO110.out) (Kd.R_base ho0) hb); have HO113 := Aside0.mk (Kd.R_lower ho0 (zS HB)); replace HB := zBb HB hb; (try clear hb); (try clear ho0); obtain ⟨Ao20, co20, eo20⟩ := Kd.V_slice HO110.out; subst eo20; obtain ⟨Ao21, co21, eo21⟩ := Kd.R_slice HO113.out; subst eo21) | ((with_reducible refine gate_callee (f := 65) rfl ?_); refine zG (some 32) Try.func65 #[.int .i64 a0, .slice Ao20 t108.length co20, .slice Ao21 t111.length co21] ?_; (with_reducible refine (galoisref09_Sub.calls k1 a0 _ _ t108 _ _ t111 t114 _ (zC ((Kd.V_reads' HO110.out).2.2)) ((Kd.V_reads' HO110.out).2.1) (zC ((Kd.R_reads' HO113.out).2.2)) ((Kd.R_reads' HO113.out).2.1) A13.out).mono ?_); rintro e w22 ⟨v115, rfl, ho0, hb⟩; refine ⟨_, rfl, ?_⟩; replace HO_5 := zVb HO_5 hb; replace HO110 := zVb HO110 hb; have HO116 := zWV (fun k_ => some k_ ≠ (.slice Ao21 t111.length co21 : Value).ownBlock) ho0 HB (fun k_ hk_ => (Kd.fresh' (Kd.R_lt (zR HO113.out)) k_ hk_)); replace HO113 := zRb HO113 hb; replace HB := zBb HB hb; (try clear hb); (try clear ho0); obtain ⟨Ao23, co23, eo23⟩ := Kd.V_slice HO116.out; subst eo23) | ((with_reducible refine gate_callee (f := 89) rfl ?_); refine zG (some 34) Try.func89 #[.int .i64 a0, .slice Ao23 t114.length co23, .slice A1 l1.length c1] ?_; (with_reducible refine (galoisref09_Gcd.calls k1 a0 (fun k_ => some k_ ≠ (.slice Ao21 t111.length co21 : Value).ownBlock) _ _ t114 (fun k_ => k_ < w.heap.size) _ _ l1 t117 _ HO116.out (Kd.V_mk HC1.out (Kd.F_below (Kd.C_F (Kd.heap_int .i64) HR1.out) (zT))) A14.out).mono ?_); rintro e w24 ⟨v118, rfl, ho0, hb⟩; refine ⟨_, rfl, ?_⟩; replace HO_5 := zVb HO_5 hb; replace HO110 := zVb HO110 hb; replace HO116 := zVb HO116 hb; have HO119 := zWV (fun k_ => some k_ ≠ (.slice Ao21 t111.length co21 : Value).ownBlock) ho0 HB (fun k_ hk_ => Or.elim hk_ (fun hs_ => Or.elim hs_ (fun hs_ => hs_) (fun hs_ => fun e_ => Nat.not_le.2 hs_ (Kd.R_base HO113.out k_ e_.symm))) (fun hn_ => (Kd.fresh' (Kd.R_lt (zR HO113.out)) k_ hn_))); replace HO113 := zRb HO113 hb; replace HB := zBb HB hb; (try clear hb); (try clear ho0); obtain ⟨Ao25, co25, eo25⟩ := Kd.V_slice HO119.out; subst eo25))
   go_roundg k1
   case measure => have := HK1.out; omega
   case rel => exact ⟨(t108), (wrap64 (x6_1 + 1)), zX, H', ⟨by have := HK1.out; omega⟩, ⟨zV (Kd.V_mono HO110.out (fun _ hk => trivial))⟩, ⟨zT⟩⟩
end Go.Proofs.Ytalnaafmonmlmaa.Q
end
section
namespace Go.Proofs.Ytalnaafmonmlmaa.Q
open Go.RowKit Go.Proofs.YtalnaafmonmlmaaW.PrintWords Go.Proofs.YtalnaafmonmlmaaW.PrintLast Go.Proofs.YtalnaafmonmlmaaW.PrintMore
attribute [local go_sem] max2_int min2_int max_two min_two max_three min_three max_four min_four
set_option linter.unusedVariables false
set_option linter.unusedSimpArgs false
set_option maxHeartbeats 8000000
set_option maxRecDepth 100000
def galoisref04_IsPrime.l0 : Nat → Int → Int → Option (Bool)
 | 0, _, _ => none
 | k + 1, x0, x3 => if (wrap64 (x3 * x3)) ≤ x0 then (if x3 = 0 then (none) else (if (Int.tmod x0 x3) = 0 then (some false) else (galoisref04_IsPrime.l0 k x0 (wrap64 (x3 + 1))))) else (some (decide (x0 > 1)))
def galoisref04_IsPrime.f (k : Nat) (a0 : Int) : Option (Bool) := galoisref04_IsPrime.l0 k a0 2
theorem galoisref04_IsPrime.mono_l : ∀ k, (∀ y0 y1, LeO (galoisref04_IsPrime.l0 k y0 y1) (galoisref04_IsPrime.l0 (k + 1) y0 y1))
 | 0 => fun _ _ r h => by simp [galoisref04_IsPrime.l0] at h
 | k + 1 => by
  have ih0 := galoisref04_IsPrime.mono_l k
  intro y0 y1
  unfold galoisref04_IsPrime.l0
  with_reducible repeat' first | exact ih0 _ _ | exact LeO.refl _ | exact LeO.none _ | refine LeO.ite ?_ ?_ | refine LeO.bind ?_ (fun _ => ?_)
theorem galoisref04_IsPrime.mono : ∀ a0 k, LeO (galoisref04_IsPrime.f k a0) (galoisref04_IsPrime.f (k + 1) a0) := by
 intro a0 k
 have ih0 := galoisref04_IsPrime.mono_l k
 unfold galoisref04_IsPrime.f
 with_reducible repeat' first | exact ih0 _ _ | exact LeO.refl _ | exact LeO.none _ | refine LeO.ite ?_ ?_ | refine LeO.bind ?_ (fun _ => ?_)
theorem galoisref04_IsPrime.calls (k : Nat) (a0 : Int) (r : Bool) (w : World) (h : galoisref04_IsPrime.f k a0 = some r) :
  Calls Try.prog 44 #[.int .i64 a0] w fun e w' => e = .returned (.bool r) ∧ Drawn0 w w' := by
 have H := h; clear h; unfold galoisref04_IsPrime.f at H
 have H' := Aside0.mk H
 clear H
 go_enter Try.func44, Try.ntmps44
 go_wp2
 go_loopg [3] k (fun kq v3 w' => ∃ (x3_1 : Int), v3 = .int .i64 x3_1 ∧ Aside0 (galoisref04_IsPrime.l0 kq a0 x3_1 = some r) ∧ Aside0 (kq ≤ k) ∧ Drawn0 w w')
 case atStart => exact ⟨(2), zX, H', ⟨Nat.le_refl _⟩, by repeat (first | exact Drawn0.refl _ | apply Drawn0.step)⟩
 case round =>
  clear H'
  obtain ⟨x3_1, rfl, HA, HK1, ⟨m1, rfl⟩⟩ := hrel
  cases gk with
  | zero => exact absurd HA.out (by simp [galoisref04_IsPrime.l0])
  | succ k1 =>
   have H := HA.out
   clear HA
   simp only [galoisref04_IsPrime.l0] at H
   by_cases c2 : (wrap64 (x3_1 * x3_1)) ≤ a0
   rotate_left
   ·rw [if_neg c2] at H
    have c2b0 := decide_eq_false c2; clear c2
    obtain rfl := Option.some.inj H
    go_wp2
    go_ret
    exact ⟨by first | rfl | (simp; done) | (simp [*]; done), by repeat (first | exact Drawn0.refl _ | apply Drawn0.step)⟩
   rw [if_pos c2] at H
   have c2b0 := decide_eq_true c2; clear c2
   by_cases c3 : x3_1 = 0
   ·rw [if_pos c3] at H
    exact absurd H (by simp)
   rw [if_neg c3] at H
   obtain ⟨c3b0, c3b1⟩ := zU c3
   by_cases c4 : (Int.tmod a0 x3_1) = 0
   ·rw [if_pos c4] at H
    obtain ⟨c4b0, c4b1⟩ := zE c4; clear c4
    obtain rfl := Option.some.inj H
    go_wp2
    go_ret
    exact ⟨by first | rfl | (simp; done) | (simp [*]; done), by repeat (first | exact Drawn0.refl _ | apply Drawn0.step)⟩
   rw [if_neg c4] at H
   obtain ⟨c4b0, c4b1⟩ := zU c4
   have H' := Aside0.mk H
   clear H
   go_wp2
   go_roundg k1
   case measure => have := HK1.out; omega
   case rel => exact ⟨(wrap64 (x3_1 + 1)), zX, H', ⟨by have := HK1.out; omega⟩, by repeat (first | exact Drawn0.refl _ | apply Drawn0.step)⟩
end Go.Proofs.Ytalnaafmonmlmaa.Q
end
section
namespace Go.Proofs.Ytalnaafmonmlmaa.Q
open Go.RowKit Go.Proofs.YtalnaafmonmlmaaW.PrintWords Go.Proofs.YtalnaafmonmlmaaW.PrintLast Go.Proofs.YtalnaafmonmlmaaW.PrintMore
attribute [local go_sem] max2_int min2_int max_two min_two max_three min_three max_four min_four
set_option linter.unusedVariables false
set_option linter.unusedSimpArgs false
set_option maxHeartbeats 8000000
set_option maxRecDepth 100000
def galoisref09_IsPrime.f (k : Nat) (a0 : Int) : Option (Bool) := if a0 ≥ 2 then (if a0 ≤ 65521 then ((galoisref04_IsPrime.f k a0).bind fun t101 => (some t101)) else (some false)) else (some false)
theorem galoisref09_IsPrime.mono : ∀ a0 k, LeO (galoisref09_IsPrime.f k a0) (galoisref09_IsPrime.f (k + 1) a0) := by
 intro a0 k
 unfold galoisref09_IsPrime.f
 with_reducible repeat' first | exact galoisref04_IsPrime.mono _ _ | exact LeO.refl _ | exact LeO.none _ | refine LeO.ite ?_ ?_ | refine LeO.bind ?_ (fun _ => ?_)
theorem galoisref09_IsPrime.calls (k : Nat) (a0 : Int) (r : Bool) (w : World) (h : galoisref09_IsPrime.f k a0 = some r) :
  Calls Try.prog 10 #[.int .i64 a0] w fun e w' => e = .returned (.bool r) ∧ Drawn0 w w' := by
 have H := h; clear h; unfold galoisref09_IsPrime.f at H
 by_cases c2 : a0 ≥ 2
 rotate_left
 ·rw [if_neg c2] at H
  have c2b0 := decide_eq_false c2; clear c2
  obtain rfl := Option.some.inj H
  go_enter Try.func10, Try.ntmps10
  go_wp2
  go_ret
  exact ⟨by first | rfl | (simp; done) | (simp [*]; done), by repeat (first | exact Drawn0.refl _ | apply Drawn0.step)⟩
 rw [if_pos c2] at H
 have c2b0 := decide_eq_true c2; clear c2
 by_cases c3 : a0 ≤ 65521
 rotate_left
 ·rw [if_neg c3] at H
  have c3b0 := decide_eq_false c3; clear c3
  obtain rfl := Option.some.inj H
  go_enter Try.func10, Try.ntmps10
  go_wp2
  go_ret
  exact ⟨by first | rfl | (simp; done) | (simp [*]; done), by repeat (first | exact Drawn0.refl _ | apply Drawn0.step)⟩
 rw [if_pos c3] at H
 have c3b0 := decide_eq_true c3; clear c3
 obtain ⟨t101, A4, H⟩ := zO H
 obtain rfl := Option.some.inj H
 go_enter Try.func10, Try.ntmps10
 go_wp2_with (first | (go_at_call 44; (with_reducible refine (galoisref04_IsPrime.calls k a0 t101 _ A4.out).mono ?_); rintro e w' ⟨rfl, ⟨nd, rfl⟩⟩))
 go_ret
 exact ⟨by first | rfl | (simp; done) | (simp [*]; done), by repeat (first | exact Drawn0.refl _ | apply Drawn0.step)⟩
end Go.Proofs.Ytalnaafmonmlmaa.Q
end
section
namespace Go.Proofs.Ytalnaafmonmlmaa.Q
open Go.RowKit Go.Proofs.YtalnaafmonmlmaaW.PrintWords Go.Proofs.YtalnaafmonmlmaaW.PrintLast Go.Proofs.YtalnaafmonmlmaaW.PrintMore
attribute [local go_sem] max2_int min2_int max_two min_two max_three min_three max_four min_four
set_option linter.unusedVariables false
set_option linter.unusedSimpArgs false
set_option maxHeartbeats 8000000
set_option maxRecDepth 100000
def galoisref09_Check.l0 : Nat → Int → List Int → Int → Option (Int)
 | 0, _, _, _ => none
 | k + 1, x0, x1, x5 => if x5 < (x1.length : Int) then (if 0 ≤ x5 then (if (rd x1 x5) < 0 then (some 1) else (if (rd x1 x5) ≥ x0 then (some 1) else (galoisref09_Check.l0 k x0 x1 (wrap64 (x5 + 1))))) else (none)) else (if (x1.length : Int) > 0 then (if 0 ≤ (wrap64 ((x1.length : Int) - 1)) then (if (wrap64 ((x1.length : Int) - 1)) < (x1.length : Int) then (if (rd x1 (wrap64 ((x1.length : Int) - 1))) = 0 then (some 1) else (some 0)) else (none)) else (none)) else (some 0))
def galoisref09_Check.f (k : Nat) (a0 : Int) (l1 : List Int) : Option (Int) := (galoisref09_IsPrime.f k a0).bind fun t101 => (if t101 = true then (if (l1.length : Int) > 65 then (some 4) else (galoisref09_Check.l0 k a0 l1 0)) else (some 7))
theorem galoisref09_Check.mono_l : ∀ k, (∀ y0 y1 y2, LeO (galoisref09_Check.l0 k y0 y1 y2) (galoisref09_Check.l0 (k + 1) y0 y1 y2))
 | 0 => fun _ _ _ r h => by simp [galoisref09_Check.l0] at h
 | k + 1 => by
  have ih0 := galoisref09_Check.mono_l k
  intro y0 y1 y2
  unfold galoisref09_Check.l0
  with_reducible repeat' first | exact ih0 _ _ _ | exact galoisref09_IsPrime.mono _ _ | exact LeO.refl _ | exact LeO.none _ | refine LeO.ite ?_ ?_ | refine LeO.bind ?_ (fun _ => ?_)
theorem galoisref09_Check.mono : ∀ a0 a1 k, LeO (galoisref09_Check.f k a0 a1) (galoisref09_Check.f (k + 1) a0 a1) := by
 intro a0 a1 k
 have ih0 := galoisref09_Check.mono_l k
 unfold galoisref09_Check.f
 with_reducible repeat' first | exact ih0 _ _ _ | exact galoisref09_IsPrime.mono _ _ | exact LeO.refl _ | exact LeO.none _ | refine LeO.ite ?_ ?_ | refine LeO.bind ?_ (fun _ => ?_)
theorem galoisref09_Check.calls (k : Nat) (a0 : Int) (A1 : Option Addr) (c1 : Nat) (l1 : List Int) (r : Int) (w : World) (hr1 : Kd.C (Kd.int .i64) w A1 l1.length l1) (hc1 : l1.length ≤ c1) (h : galoisref09_Check.f k a0 l1 = some r) :
  Calls Try.prog 62 #[.int .i64 a0, .slice A1 l1.length c1] w fun e w' => e = .returned (.int .i64 r) ∧ Drawn0 w w' := by
 have HR1 := Aside0.mk hr1
 have HC1 := Aside0.mk hc1
 clear hr1 hc1
 have H := h; clear h; unfold galoisref09_Check.f at H
 obtain ⟨t101, A3, H⟩ := zO H
 by_cases c4 : t101 = true
 rotate_left
 ·replace c4 := Bool.eq_false_iff.mpr c4
  subst c4
  rw [if_neg Bool.false_ne_true] at H
  obtain rfl := Option.some.inj H
  go_enter Try.func62, Try.ntmps62
  go_wp2_with (first | ((with_reducible refine gate_callee (f := 10) rfl ?_); refine zG (some 7) Try.func10 #[.int .i64 a0] ?_; (with_reducible refine (galoisref09_IsPrime.calls k a0 false _ A3.out).mono ?_); rintro e w' ⟨rfl, ⟨nd, rfl⟩⟩; refine ⟨_, rfl, ?_⟩))
  go_ret
  exact ⟨by first | rfl | (simp; done) | (simp [*]; done), by repeat (first | exact Drawn0.refl _ | apply Drawn0.step)⟩
 subst c4
 rw [if_pos rfl] at H
 by_cases c5 : (l1.length : Int) > 65
 ·rw [if_pos c5] at H
  have c5b0 : decide (65 < (l1.length : Int)) = true := decide_eq_true c5
  have c5b1 : decide (65 < l1.length) = true := decide_eq_true (by omega)
  clear c5
  obtain rfl := Option.some.inj H
  go_enter Try.func62, Try.ntmps62
  go_wp2_with (first | ((with_reducible refine gate_callee (f := 10) rfl ?_); refine zG (some 7) Try.func10 #[.int .i64 a0] ?_; (with_reducible refine (galoisref09_IsPrime.calls k a0 true _ A3.out).mono ?_); rintro e w' ⟨rfl, ⟨nd, rfl⟩⟩; refine ⟨_, rfl, ?_⟩))
  go_ret
  exact ⟨by first | rfl | (simp; done) | (simp [*]; done), by repeat (first | exact Drawn0.refl _ | apply Drawn0.step)⟩
 rw [if_neg c5] at H
 have c5b0 : decide (65 < (l1.length : Int)) = false := decide_eq_false c5
 have c5b1 : decide (65 < l1.length) = false := decide_eq_false (by omega)
 clear c5
 have H' := Aside0.mk H
 clear H
 go_enter Try.func62, Try.ntmps62
 go_wp2_with (first | ((with_reducible refine gate_callee (f := 10) rfl ?_); refine zG (some 7) Try.func10 #[.int .i64 a0] ?_; (with_reducible refine (galoisref09_IsPrime.calls k a0 true _ A3.out).mono ?_); rintro e w' ⟨rfl, ⟨nd, rfl⟩⟩; refine ⟨_, rfl, ?_⟩))
 go_loopg [5] k (fun kq v5 w' => ∃ (x5_1 : Int), v5 = .int .i64 x5_1 ∧ Aside0 (galoisref09_Check.l0 kq a0 l1 x5_1 = some r) ∧ Aside0 (kq ≤ k) ∧ Drawn0 w w')
 case atStart => exact ⟨(0), zX, H', ⟨Nat.le_refl _⟩, by repeat (first | exact Drawn0.refl _ | apply Drawn0.step)⟩
 case round =>
  clear H'
  try clear c1; try clear p2; try clear c4; try clear c5; try clear c5b0; try clear c5b1
  obtain ⟨x5_1, rfl, HA, HK1, ⟨m1, rfl⟩⟩ := hrel
  cases gk with
  | zero => exact absurd HA.out (by simp [galoisref09_Check.l0])
  | succ k1 =>
   have H := HA.out
   clear HA
   simp only [galoisref09_Check.l0] at H
   by_cases c6 : x5_1 < (l1.length : Int)
   ·rw [if_pos c6] at H
    have c6b0 := decide_eq_true c6; clear c6
    by_cases c7 : 0 ≤ x5_1
    rotate_left
    ·rw [if_neg c7] at H
     exact absurd H (by simp)
    rw [if_pos c7] at H
    have c7b0 := decide_eq_true c7; clear c7
    by_cases c8 : (rd l1 x5_1) < 0
    ·rw [if_pos c8] at H
     have c8b0 := decide_eq_true c8; clear c8
     obtain rfl := Option.some.inj H
     obtain ⟨p102, q102, ad102, e102, hx102_0⟩ := zI (HR1.out) (x5_1) zD zD
     cases e102
     go_wp2
     go_ret
     exact ⟨by first | rfl | (simp; done) | (simp [*]; done), by repeat (first | exact Drawn0.refl _ | apply Drawn0.step)⟩
    rw [if_neg c8] at H
    have c8b0 := decide_eq_false c8; clear c8
    by_cases c9 : (rd l1 x5_1) ≥ a0
    ·rw [if_pos c9] at H
     have c9b0 := decide_eq_true c9; clear c9
     obtain rfl := Option.some.inj H
     obtain ⟨p102, q102, ad102, e102, hx102_0⟩ := zI (HR1.out) (x5_1) zD zD
     cases e102
     obtain ⟨p103, q103, ad103, e103, hx103_0⟩ := zI (HR1.out) (x5_1) zD zD
     obtain rfl : ad102 = ad103 := (by injection e103)
     go_wp2
     go_ret
     exact ⟨by first | rfl | (simp; done) | (simp [*]; done), by repeat (first | exact Drawn0.refl _ | apply Drawn0.step)⟩
    rw [if_neg c9] at H
    have c9b0 := decide_eq_false c9; clear c9
    have H' := Aside0.mk H
    clear H
    obtain ⟨p102, q102, ad102, e102, hx102_0⟩ := zI (HR1.out) (x5_1) zD zD
    cases e102
    obtain ⟨p103, q103, ad103, e103, hx103_0⟩ := zI (HR1.out) (x5_1) zD zD
    obtain rfl : ad102 = ad103 := (by injection e103)
    go_wp2
    go_roundg k1
    case measure => have := HK1.out; omega
    case rel => exact ⟨(wrap64 (x5_1 + 1)), zX, H', ⟨by have := HK1.out; omega⟩, by repeat (first | exact Drawn0.refl _ | apply Drawn0.step)⟩
   rw [if_neg c6] at H
   have c6b0 := decide_eq_false c6; clear c6
   by_cases c10 : (l1.length : Int) > 0
   rotate_left
   ·rw [if_neg c10] at H
    have c10b0 : decide (0 < (l1.length : Int)) = false := decide_eq_false c10
    have c10b1 : decide (0 < l1.length) = false := decide_eq_false (by omega)
    clear c10
    obtain rfl := Option.some.inj H
    go_wp2
    go_ret
    exact ⟨by first | rfl | (simp; done) | (simp [*]; done), by repeat (first | exact Drawn0.refl _ | apply Drawn0.step)⟩
   rw [if_pos c10] at H
   have c10b0 : decide (0 < (l1.length : Int)) = true := decide_eq_true c10
   have c10b1 : decide (0 < l1.length) = true := decide_eq_true (by omega)
   clear c10
   obtain ⟨ji11, hji11⟩ : ∃ j_ : Int, (wrap64 ((l1.length : Int) - 1)) = j_ := ⟨_, rfl⟩
   first | rw [hji11] at H | simp only [hji11] at H
   have hji11w : (IntKind.i64.wrap ((l1.length : Int) - 1)) = ji11 := (i64_w _).trans hji11
   by_cases c12 : 0 ≤ (ji11)
   rotate_left
   ·rw [if_neg c12] at H
    exact absurd H (by simp)
   rw [if_pos c12] at H
   have c12b0 := decide_eq_true c12; clear c12
   by_cases c13 : (ji11) < (l1.length : Int)
   rotate_left
   ·rw [if_neg c13] at H
    exact absurd H (by simp)
   rw [if_pos c13] at H
   have c13b0 := decide_eq_true c13; clear c13
   by_cases c14 : (rd l1 (ji11)) = 0
   rotate_left
   ·rw [if_neg c14] at H
    obtain ⟨c14b0, c14b1⟩ := zU c14
    obtain rfl := Option.some.inj H
    obtain ⟨p104, q104, ad104, e104, hx104_0⟩ := zI (HR1.out) ((ji11)) zD zD
    cases e104
    go_wp2
    go_ret
    exact ⟨by first | rfl | (simp; done) | (simp only [← hji11] <;> (first | rfl | simp)) | (simp [*]; done), by repeat (first | exact Drawn0.refl _ | apply Drawn0.step)⟩
   rw [if_pos c14] at H
   obtain ⟨c14b0, c14b1⟩ := zE c14; clear c14
   obtain rfl := Option.some.inj H
   obtain ⟨p104, q104, ad104, e104, hx104_0⟩ := zI (HR1.out) ((ji11)) zD zD
   cases e104
   go_wp2
   go_ret
   exact ⟨by first | rfl | (simp; done) | (simp only [← hji11] <;> (first | rfl | simp)) | (simp [*]; done), by repeat (first | exact Drawn0.refl _ | apply Drawn0.step)⟩
end Go.Proofs.Ytalnaafmonmlmaa.Q
end
section
namespace Go.Proofs.Ytalnaafmonmlmaa.Q
open Go.RowKit Go.Proofs.YtalnaafmonmlmaaW.PrintWords Go.Proofs.YtalnaafmonmlmaaW.PrintLast Go.Proofs.YtalnaafmonmlmaaW.PrintMore
attribute [local go_sem] max2_int min2_int max_two min_two max_three min_three max_four min_four
set_option linter.unusedVariables false
set_option linter.unusedSimpArgs false
set_option maxHeartbeats 8000000
set_option maxRecDepth 100000
def galoisref15_Check.j0 : Nat → Bool → Int → List Int → Option (Int)
 | 0, _, _, _ => none
 | k + 1, x18, x102000, x102001 => if x18 = true then (some 1) else ((galoisref09_IsIrreducible.f k x102000 x102001).bind fun t104 => (if t104 = true then (some 0) else (some 8)))
def galoisref15_Check.f (k : Nat) (a0_0 : Int) (l0_1 : List Int) : Option (Int) := (galoisref09_Check.f k a0_0 l0_1).bind fun t102 => (if t102 = 0 then (if (l0_1.length : Int) > 17 then (some 4) else (if (l0_1.length : Int) < 2 then (galoisref15_Check.j0 k true a0_0 l0_1) else ((galoisref09_Lead.f l0_1).bind fun t103 => (galoisref15_Check.j0 k (t103 != 1) a0_0 l0_1)))) else (some t102))
theorem galoisref15_Check.mono_l : ∀ k, (∀ y0 y1 y2, LeO (galoisref15_Check.j0 k y0 y1 y2) (galoisref15_Check.j0 (k + 1) y0 y1 y2))
 | 0 => fun _ _ _ r h => by simp [galoisref15_Check.j0] at h
 | k + 1 => by
  have ih0 := galoisref15_Check.mono_l k
  intro y0 y1 y2
  unfold galoisref15_Check.j0
  with_reducible repeat' first | exact ih0 _ _ _ | exact galoisref09_Check.mono _ _ _ | exact galoisref09_IsIrreducible.mono _ _ _ | exact LeO.refl _ | exact LeO.none _ | refine LeO.ite ?_ ?_ | refine LeO.bind ?_ (fun _ => ?_)
theorem galoisref15_Check.mono : ∀ a0 a1 k, LeO (galoisref15_Check.f k a0 a1) (galoisref15_Check.f (k + 1) a0 a1) := by
 intro a0 a1 k
 have ih0 := galoisref15_Check.mono_l k
 unfold galoisref15_Check.f
 with_reducible repeat' first | exact ih0 _ _ _ | exact galoisref09_Check.mono _ _ _ | exact galoisref09_IsIrreducible.mono _ _ _ | exact LeO.refl _ | exact LeO.none _ | refine LeO.ite ?_ ?_ | refine LeO.bind ?_ (fun _ => ?_)
theorem galoisref15_Check.calls (k : Nat) (a0_0 : Int) (A0_1 : Option Addr) (c0_1 : Nat) (l0_1 : List Int) (r : Int) (w : World) (hr0_1 : Kd.C (Kd.int .i64) w A0_1 l0_1.length l0_1) (hc0_1 : l0_1.length ≤ c0_1) (h : galoisref15_Check.f k a0_0 l0_1 = some r) :
  Calls Try.prog 24 #[.agg #[.int .i64 a0_0, .slice A0_1 l0_1.length c0_1]] w fun e w' => e = .returned (.int .i64 r) ∧ Below w.heap.size w w' := by
 have hu33 := Try.underlying33
 have HR0_1 := Aside0.mk hr0_1
 have HC0_1 := Aside0.mk hc0_1
 clear hr0_1 hc0_1
 have HB := Aside0.mk (Below.refl w.heap.size w)
 have H := h; clear h; unfold galoisref15_Check.f at H
 obtain ⟨t102, A2, H⟩ := zO H
 by_cases c3 : t102 = 0
 rotate_left
 ·rw [if_neg c3] at H
  obtain ⟨c3b0, c3b1⟩ := zU c3
  obtain rfl := Option.some.inj H
  go_enter Try.func24, Try.ntmps24
  go_wp2_with (first | ((with_reducible refine gate_dst (N := 1) rfl ?_); refine zb 1 #[.int .i64 a0_0, .slice A0_1 l0_1.length c0_1] 33 ?_; intro gb101 hg w21 hbox hb; have BK101 := Aside0.mk (hbox); have GW101 := zg HB hg; have GE101 := GW101; replace HB := zBb HB hb; clear hb hbox hg; have hcz22_0 := zc BK101 0; have hcz22_1 := zc BK101 1; have hfz22_0 := blk_frozen BK101.out 0; have hfz22_1 := blk_frozen BK101.out 1) | ((with_reducible refine gate_callee (f := 62) rfl ?_); refine zG (some 8) Try.func62 #[.int .i64 a0_0, .slice A0_1 l0_1.length c0_1] ?_; (with_reducible refine (galoisref09_Check.calls k a0_0 _ _ l0_1 t102 _ (zC (Kd.C_below HR0_1.out HB.out)) HC0_1.out A2.out).mono ?_); rintro e w' ⟨rfl, ⟨nd, rfl⟩⟩; refine ⟨_, rfl, ?_⟩))
  go_ret
  exact ⟨zQ, zT⟩
 rw [if_pos c3] at H
 obtain ⟨c3b0, c3b1⟩ := zE c3; clear c3
 by_cases c4 : (l0_1.length : Int) > 17
 ·rw [if_pos c4] at H
  have c4b0 : decide (17 < (l0_1.length : Int)) = true := decide_eq_true c4
  have c4b1 : decide (17 < l0_1.length) = true := decide_eq_true (by omega)
  clear c4
  obtain rfl := Option.some.inj H
  go_enter Try.func24, Try.ntmps24
  go_wp2_with (first | ((with_reducible refine gate_dst (N := 1) rfl ?_); refine zb 1 #[.int .i64 a0_0, .slice A0_1 l0_1.length c0_1] 33 ?_; intro gb101 hg w5 hbox hb; have BK101 := Aside0.mk (hbox); have GW101 := zg HB hg; have GE101 := GW101; replace HB := zBb HB hb; clear hb hbox hg; have hcz6_0 := zc BK101 0; have hcz6_1 := zc BK101 1; have hfz6_0 := blk_frozen BK101.out 0; have hfz6_1 := blk_frozen BK101.out 1) | ((with_reducible refine gate_callee (f := 62) rfl ?_); refine zG (some 8) Try.func62 #[.int .i64 a0_0, .slice A0_1 l0_1.length c0_1] ?_; (with_reducible refine (galoisref09_Check.calls k a0_0 _ _ l0_1 t102 _ (zC (Kd.C_below HR0_1.out HB.out)) HC0_1.out A2.out).mono ?_); rintro e w' ⟨rfl, ⟨nd, rfl⟩⟩; refine ⟨_, rfl, ?_⟩))
  go_ret
  exact ⟨zQ, zT⟩
 rw [if_neg c4] at H
 have c4b0 : decide (17 < (l0_1.length : Int)) = false := decide_eq_false c4
 have c4b1 : decide (17 < l0_1.length) = false := decide_eq_false (by omega)
 clear c4
 have HC7 := Aside0.mk H
 clear H
 go_enter Try.func24, Try.ntmps24
 go_upto_region 6 with (first | ((with_reducible refine gate_dst (N := 1) rfl ?_); refine zb 1 #[.int .i64 a0_0, .slice A0_1 l0_1.length c0_1] 33 ?_; intro gb101 hg w8 hbox hb; have BK101 := Aside0.mk (hbox); have GW101 := zg HB hg; have GE101 := GW101; replace HB := zBb HB hb; clear hb hbox hg; have hcz9_0 := zc BK101 0; have hcz9_1 := zc BK101 1; have hfz9_0 := blk_frozen BK101.out 0; have hfz9_1 := blk_frozen BK101.out 1) | ((with_reducible refine gate_callee (f := 62) rfl ?_); refine zG (some 8) Try.func62 #[.int .i64 a0_0, .slice A0_1 l0_1.length c0_1] ?_; (with_reducible refine (galoisref09_Check.calls k a0_0 _ _ l0_1 t102 _ (zC (Kd.C_below HR0_1.out HB.out)) HC0_1.out A2.out).mono ?_); rintro e w' ⟨rfl, ⟨nd, rfl⟩⟩; refine ⟨_, rfl, ?_⟩))
 (try simp only [Act.put, List.setIfInBounds_toArray, List.set_cons_zero, List.set_cons_succ])
 go_cut [18] (fun v18 wc => ∃ (kq : Nat) (x18_6 : Bool), v18 = .bool x18_6 ∧ Aside0 (galoisref15_Check.j0 kq x18_6 a0_0 l0_1 = some r) ∧ Aside0 (kq ≤ k) ∧ Aside0 (wc.heap[gb101]? = some (.cells #[.int .i64 a0_0, (.slice A0_1 l0_1.length c0_1)] 33 (0, 0))) ∧ Aside0 (Below w.heap.size w wc))
 case first =>
  have H := HC7.out
  clear HC7
  by_cases c10 : (l0_1.length : Int) < 2
  ·rw [if_pos c10] at H
   have c10b0 : decide ((l0_1.length : Int) < 2) = true := decide_eq_true c10
   have c10b1 : decide (l0_1.length < 2) = true := decide_eq_true (by omega)
   clear c10
   (first | rw [c10b0] | (simp only [i64_w, i32_w]; rw [c10b0]) | skip)
   have H' := Aside0.mk H
   clear H
   have hcz11_0 := zc BK101 0
   have hcz11_1 := zc BK101 1
   have hfz11_0 := blk_frozen BK101.out 0
   have hfz11_1 := blk_frozen BK101.out 1
   go_wp2
   go_meet
   case rel => exact ⟨_, (true), zX, H', ⟨by first | omega | exact Nat.le_refl _⟩, ⟨zK BK101.out⟩, ⟨zT⟩⟩
  rw [if_neg c10] at H
  have c10b0 : decide ((l0_1.length : Int) < 2) = false := decide_eq_false c10
  have c10b1 : decide (l0_1.length < 2) = false := decide_eq_false (by omega)
  clear c10
  (first | rw [c10b0] | (simp only [i64_w, i32_w]; rw [c10b0]) | skip)
  obtain ⟨t103, A12, H⟩ := zO H
  have H' := Aside0.mk H
  clear H
  have hcz13_0 := zc BK101 0
  have hcz13_1 := zc BK101 1
  have hfz13_0 := blk_frozen BK101.out 0
  have hfz13_1 := blk_frozen BK101.out 1
  go_wp2_with (first | (go_at_call 63; (with_reducible refine (galoisref09_Lead.calls _ _ l0_1 t103 _ (zC (Kd.C_below HR0_1.out HB.out)) HC0_1.out A12.out).mono ?_); rintro e w' ⟨rfl, ⟨nd, rfl⟩⟩))
  go_meet
  case rel => exact ⟨_, ((t103 != 1)), zX, H', ⟨by first | omega | exact Nat.le_refl _⟩, ⟨zK BK101.out⟩, ⟨zT⟩⟩
 case rest =>
  clear HC7
  try clear c1; try clear c2; try clear p2; try clear c3; try clear c3b0; try clear c3b1; try clear c4; try clear c4b0; try clear c4b1; try clear c6; try clear c10; try clear c10b0; try clear c10b1; try clear hcz11_0; try clear hcz11_1; try clear hcz13_0; try clear hcz13_1; try clear hcz6_0; try clear hcz6_1; try clear hcz9_0; try clear hcz9_1; try clear hfz11_0; try clear hfz11_1; try clear hfz13_0; try clear hfz13_1; try clear hfz6_0; try clear hfz6_1; try clear hfz9_0; try clear hfz9_1
  obtain ⟨kq, x18_6, rfl, HA, HJ6, BK101, HB⟩ := hcut
  cases kq with
  | zero => exact absurd HA.out (by simp [galoisref15_Check.j0])
  | succ kj6 =>
   have H := HA.out
   clear HA
   simp only [galoisref15_Check.j0] at H
   by_cases c14 : x18_6 = true
   ·subst c14
    rw [if_pos rfl] at H
    obtain rfl := Option.some.inj H
    go_wp2
    go_ret
    exact ⟨zQ, zT⟩
   replace c14 := Bool.eq_false_iff.mpr c14
   subst c14
   rw [if_neg Bool.false_ne_true] at H
   obtain ⟨t104, A15, H⟩ := zO H
   by_cases c16 : t104 = true
   ·subst c16
    rw [if_pos rfl] at H
    obtain rfl := Option.some.inj H
    have hcz17_0 := zc BK101 0
    have hcz17_1 := zc BK101 1
    have hfz17_0 := blk_frozen BK101.out 0
    have hfz17_1 := blk_frozen BK101.out 1
    go_wp2_with (first | ((with_reducible refine gate_callee (f := 48) rfl ?_); refine zG (some 34) Try.func48 #[.int .i64 a0_0, .slice A0_1 l0_1.length c0_1] ?_; (with_reducible refine (galoisref09_IsIrreducible.calls kj6 a0_0 _ _ l0_1 true _ (zC (Kd.C_below HR0_1.out HB.out)) HC0_1.out A15.out).mono ?_); rintro e w18 ⟨rfl, hb⟩; refine ⟨_, rfl, ?_⟩; replace BK101 := zKb BK101 hb; replace HB := zBb HB hb; (try clear hb)))
    go_ret
    exact ⟨zQ, zT⟩
   replace c16 := Bool.eq_false_iff.mpr c16
   subst c16
   rw [if_neg Bool.false_ne_true] at H
   obtain rfl := Option.some.inj H
   have hcz19_0 := zc BK101 0
   have hcz19_1 := zc BK101 1
   have hfz19_0 := blk_frozen BK101.out 0
   have hfz19_1 := blk_frozen BK101.out 1
   go_wp2_with (first | ((with_reducible refine gate_callee (f := 48) rfl ?_); refine zG (some 34) Try.func48 #[.int .i64 a0_0, .slice A0_1 l0_1.length c0_1] ?_; (with_reducible refine (galoisref09_IsIrreducible.calls kj6 a0_0 _ _ l0_1 false _ (zC (Kd.C_below HR0_1.out HB.out)) HC0_1.out A15.out).mono ?_); rintro e w20 ⟨rfl, hb⟩; refine ⟨_, rfl, ?_⟩; replace BK101 := zKb BK101 hb; replace HB := zBb HB hb; (try clear hb)))
   go_ret
   exact ⟨zQ, zT⟩
end Go.Proofs.Ytalnaafmonmlmaa.Q
end
section
namespace Go.Proofs.Ytalnaafmonmlmaa.Q
open Go.RowKit Go.Proofs.YtalnaafmonmlmaaW.PrintWords Go.Proofs.YtalnaafmonmlmaaW.PrintLast Go.Proofs.YtalnaafmonmlmaaW.PrintMore
attribute [local go_sem] max2_int min2_int max_two min_two max_three min_three max_four min_four
set_option linter.unusedVariables false
set_option linter.unusedSimpArgs false
set_option maxHeartbeats 8000000
set_option maxRecDepth 100000
def finitefield_CheckElement.f (k : Nat) (a0_0 : Int) (l0_1 : List Int) (l1 : List Int) : Option (Int) := (finitefield_check.f k a0_0 l0_1 (([l1] : List (List Int)))).bind fun t105 => (some t105)
theorem finitefield_CheckElement.mono : ∀ a0 a1 a2 k, LeO (finitefield_CheckElement.f k a0 a1 a2) (finitefield_CheckElement.f (k + 1) a0 a1 a2) := by
 intro a0 a1 a2 k
 unfold finitefield_CheckElement.f
 with_reducible repeat' first | exact finitefield_check.mono _ _ _ _ | exact LeO.refl _ | exact LeO.none _ | refine LeO.ite ?_ ?_ | refine LeO.bind ?_ (fun _ => ?_)
theorem finitefield_CheckElement.calls (k : Nat) (a0_0 : Int) (A0_1 : Option Addr) (c0_1 : Nat) (l0_1 : List Int) (P1_ : Nat → Prop) (A1 : Option Addr) (c1 : Nat) (l1 : List Int) (r : Int) (w : World) (hr0_1 : Kd.C (Kd.int .i64) w A0_1 l0_1.length l0_1) (hc0_1 : l0_1.length ≤ c0_1) (hs1 : Kd.V (Kd.int .i64) 3 w w.heap.size (fun k_ => P1_ k_) (.slice A1 l1.length c1) l1) (h : finitefield_CheckElement.f k a0_0 l0_1 l1 = some r) :
  Calls Try.prog 25 #[.agg #[.int .i64 a0_0, .slice A0_1 l0_1.length c0_1], .slice A1 l1.length c1] w fun e w' => e = .returned (.int .i64 r) ∧ Below w.heap.size w w' := by
 have hu33 := Try.underlying33
 have HR0_1 := Aside0.mk hr0_1
 have HC0_1 := Aside0.mk hc0_1
 clear hr0_1 hc0_1
 have HO1 := Aside0.mk (show Kd.V (Kd.int .i64) 3 w w.heap.size (fun k_ => (P1_ k_ ∨ w.heap.size ≤ k_)) (.slice A1 l1.length c1) l1 from Kd.V_mono hs1 (fun k_ hk => .inl hk))
 have HB := Aside0.mk (Below.refl w.heap.size w)
 have H := h; clear h; unfold finitefield_CheckElement.f at H
 obtain ⟨y102, Ny102⟩ := zA ((([l1] : List (List Int))) : List (List Int)); rw [← Ny102.out] at H
 obtain ⟨t105, A3, H⟩ := zO H
 obtain rfl := Option.some.inj H
 go_enter Try.func25, Try.ntmps25
 go_wp2_with (first | ((with_reducible refine gate_dst (N := 2) rfl ?_); refine zb 2 #[.int .i64 a0_0, .slice A0_1 l0_1.length c0_1] 33 ?_; intro gb101 hg w4 hbox hb; replace HO1 := Aside0.mk (Kd.V_below (Kd.V_elderB (zV HO1.out) gb101 (Nat.le_of_eq hg.symm)) hb); have BK101 := Aside0.mk (hbox); have GW101 := zg HB hg; have GE101 := GW101; replace HB := zBb HB hb; clear hb hbox hg; have hcz5_0 := zc BK101 0; have hcz5_1 := zc BK101 1; have hfz5_0 := blk_frozen BK101.out 0; have hfz5_1 := blk_frozen BK101.out 1) | ((with_reducible refine gate_dst (N := 7) rfl ?_); refine Kd.N_lit (Kd.slice 3 (Kd.int .i64)) _ 25 ?hg (N' := 7) ?hd (xs := ([l1] : List (List Int))) (inner := [.slice A1 l1.length c1]) (ok := (fun k_ => (P1_ k_ ∨ w.heap.size ≤ k_) ∧ k_ ≠ gb101)) (okp := (fun k_ => (P1_ k_ ∨ w.heap.size ≤ k_) ∧ k_ ≠ gb101)) ?hr ?hp (fun _ hk => hk) ((show ∀ k_, w4.heap.size ≤ k_ → (fun k_ => (P1_ k_ ∨ w.heap.size ≤ k_) ∧ k_ ≠ gb101) k_ from fun k_ hk => ⟨(.inr (Nat.le_trans (zS HB) hk)), Kd.freshB (zK BK101.out) k_ hk⟩) _ (Nat.le_refl _)) (Below.refl _ _) (Nat.le_refl _) (by simp) ?_; (case hd => rfl); (case hg => rfl); (case hr => go_simp <;> rfl); (case hp => exact (Reps.one (show Kd.FK (Kd.slice 3 (Kd.int .i64)) _ _ l1 [.slice A1 l1.length c1] from (Kd.FK_slice_mk (Kd.V_reads' (Kd.V_mono (ok' := (fun k_ => (P1_ k_ ∨ w.heap.size ≤ k_) ∧ k_ ≠ gb101)) (HO1.out) (fun k_ hk => ⟨hk.1, hk.2⟩))).2.1 (Kd.V_F (Kd.V_mono (ok' := (fun k_ => (P1_ k_ ∨ w.heap.size ≤ k_) ∧ k_ ≠ gb101)) (HO1.out) (fun k_ hk => ⟨hk.1, hk.2⟩))))) (Reps.none _ _))); intro v103 w6 ho7 hb hg_ hnew_; clear hg_ hnew_; (first | rw [← Ny102.out] at ho7 | (simp only [Int.reduceToNat] at ho7; rw [← Ny102.out] at ho7)); replace HO1 := Aside0.mk (Kd.V_elder' (zV HO1.out) (Kd.N_base ho7) hb); have HO104 := Aside0.mk (Kd.N_lower ho7 (zS HB)); replace BK101 := zKb BK101 hb; replace HB := zBb HB hb; clear hb ho7; obtain ⟨Ao8, co8, eo8⟩ := Kd.N_slice HO104.out; subst eo8) | ((with_reducible refine gate_callee (f := 53) rfl ?_); refine zG (some 8) Try.func53 #[.agg #[.int .i64 a0_0, .slice A0_1 l0_1.length c0_1], .slice Ao8 y102.length co8] ?_; (with_reducible refine (finitefield_check.calls k a0_0 _ _ l0_1 _ _ y102 t105 _ (zC (Kd.C_below HR0_1.out HB.out)) HC0_1.out (zC ((Kd.N_reads' HO104.out).2.2)) ((Kd.N_reads' HO104.out).2.1) A3.out).mono ?_); rintro e w9 ⟨rfl, hb⟩; refine ⟨_, rfl, ?_⟩; replace HO1 := zVb HO1 hb; replace HO104 := zNb HO104 hb; replace BK101 := zKb BK101 hb; replace HB := zBb HB hb; (try clear hb)))
 go_ret
 exact ⟨zQ, zT⟩
end Go.Proofs.Ytalnaafmonmlmaa.Q
end
section
namespace Go.Proofs.Ytalnaafmonmlmaa.Q
open Go.RowKit Go.Proofs.YtalnaafmonmlmaaW.PrintWords Go.Proofs.YtalnaafmonmlmaaW.PrintLast Go.Proofs.YtalnaafmonmlmaaW.PrintMore
attribute [local go_sem] max2_int min2_int max_two min_two max_three min_three max_four min_four
set_option linter.unusedVariables false
set_option linter.unusedSimpArgs false
set_option maxHeartbeats 8000000
set_option maxRecDepth 100000
def galoisref15_Member.f (k : Nat) (a0_0 : Int) (l0_1 : List Int) (l1 : List Int) : Option (Int) := (galoisref09_Check.f k a0_0 l1).bind fun t102 => (if t102 = 0 then (if (l1.length : Int) ≥ (l0_1.length : Int) then (some 3) else (some t102)) else (some t102))
theorem galoisref15_Member.mono : ∀ a0 a1 a2 k, LeO (galoisref15_Member.f k a0 a1 a2) (galoisref15_Member.f (k + 1) a0 a1 a2) := by
 intro a0 a1 a2 k
 unfold galoisref15_Member.f
 with_reducible repeat' first | exact galoisref09_Check.mono _ _ _ | exact LeO.refl _ | exact LeO.none _ | refine LeO.ite ?_ ?_ | refine LeO.bind ?_ (fun _ => ?_)
theorem galoisref15_Member.calls (k : Nat) (a0_0 : Int) (A0_1 : Option Addr) (c0_1 : Nat) (l0_1 : List Int) (A1 : Option Addr) (c1 : Nat) (l1 : List Int) (r : Int) (w : World) (hr0_1 : Kd.C (Kd.int .i64) w A0_1 l0_1.length l0_1) (hc0_1 : l0_1.length ≤ c0_1) (hr1 : Kd.C (Kd.int .i64) w A1 l1.length l1) (hc1 : l1.length ≤ c1) (h : galoisref15_Member.f k a0_0 l0_1 l1 = some r) :
  Calls Try.prog 31 #[.agg #[.int .i64 a0_0, .slice A0_1 l0_1.length c0_1], .slice A1 l1.length c1] w fun e w' => e = .returned (.int .i64 r) ∧ Below w.heap.size w w' := by
 have hu33 := Try.underlying33
 have HR0_1 := Aside0.mk hr0_1
 have HC0_1 := Aside0.mk hc0_1
 clear hr0_1 hc0_1
 have HR1 := Aside0.mk hr1
 have HC1 := Aside0.mk hc1
 clear hr1 hc1
 have HB := Aside0.mk (Below.refl w.heap.size w)
 have H := h; clear h; unfold galoisref15_Member.f at H
 obtain ⟨t102, A3, H⟩ := zO H
 by_cases c4 : t102 = 0
 rotate_left
 ·rw [if_neg c4] at H
  obtain ⟨c4b0, c4b1⟩ := zU c4
  obtain rfl := Option.some.inj H
  go_enter Try.func31, Try.ntmps31
  go_wp2_with (first | ((with_reducible refine gate_dst (N := 2) rfl ?_); (try (refine gate_guard (by rfl) ?_; dsimp only)); refine zb 2 #[.int .i64 a0_0, .slice A0_1 l0_1.length c0_1] 33 ?_; intro gb101 hg w10 hbox hb; have BK101 := Aside0.mk (hbox); have GW101 := zg HB hg; have GE101 := GW101; replace HB := zBb HB hb; clear hb hbox hg; have hcz11_0 := zc BK101 0; have hcz11_1 := zc BK101 1; have hfz11_0 := blk_frozen BK101.out 0; have hfz11_1 := blk_frozen BK101.out 1) | ((with_reducible refine gate_callee (f := 62) rfl ?_); refine zG (some 9) Try.func62 #[.int .i64 a0_0, .slice A1 l1.length c1] ?_; (with_reducible refine (galoisref09_Check.calls k a0_0 _ _ l1 t102 _ (zC (Kd.C_below HR1.out HB.out)) HC1.out A3.out).mono ?_); rintro e w' ⟨rfl, ⟨nd, rfl⟩⟩; refine ⟨_, rfl, ?_⟩))
  go_ret
  exact ⟨zQ, zT⟩
 rw [if_pos c4] at H
 obtain ⟨c4b0, c4b1⟩ := zE c4; clear c4
 by_cases c5 : (l1.length : Int) ≥ (l0_1.length : Int)
 ·rw [if_pos c5] at H
  have c5b0 : decide ((l0_1.length : Int) ≤ (l1.length : Int)) = true := decide_eq_true c5
  have c5b1 : decide (l0_1.length ≤ l1.length) = true := decide_eq_true (Int.ofNat_le.mp c5)
  clear c5
  obtain rfl := Option.some.inj H
  go_enter Try.func31, Try.ntmps31
  go_wp2_with (first | ((with_reducible refine gate_dst (N := 2) rfl ?_); (try (refine gate_guard (by rfl) ?_; dsimp only)); refine zb 2 #[.int .i64 a0_0, .slice A0_1 l0_1.length c0_1] 33 ?_; intro gb101 hg w6 hbox hb; have BK101 := Aside0.mk (hbox); have GW101 := zg HB hg; have GE101 := GW101; replace HB := zBb HB hb; clear hb hbox hg; have hcz7_0 := zc BK101 0; have hcz7_1 := zc BK101 1; have hfz7_0 := blk_frozen BK101.out 0; have hfz7_1 := blk_frozen BK101.out 1) | ((with_reducible refine gate_callee (f := 62) rfl ?_); refine zG (some 9) Try.func62 #[.int .i64 a0_0, .slice A1 l1.length c1] ?_; (with_reducible refine (galoisref09_Check.calls k a0_0 _ _ l1 t102 _ (zC (Kd.C_below HR1.out HB.out)) HC1.out A3.out).mono ?_); rintro e w' ⟨rfl, ⟨nd, rfl⟩⟩; refine ⟨_, rfl, ?_⟩))
  go_ret
  exact ⟨zQ, zT⟩
 rw [if_neg c5] at H
 have c5b0 : decide ((l0_1.length : Int) ≤ (l1.length : Int)) = false := decide_eq_false c5
 have c5b1 : decide (l0_1.length ≤ l1.length) = false := decide_eq_false (fun h => c5 (Int.ofNat_le.mpr h))
 clear c5
 obtain rfl := Option.some.inj H
 go_enter Try.func31, Try.ntmps31
 go_wp2_with (first | ((with_reducible refine gate_dst (N := 2) rfl ?_); (try (refine gate_guard (by rfl) ?_; dsimp only)); refine zb 2 #[.int .i64 a0_0, .slice A0_1 l0_1.length c0_1] 33 ?_; intro gb101 hg w8 hbox hb; have BK101 := Aside0.mk (hbox); have GW101 := zg HB hg; have GE101 := GW101; replace HB := zBb HB hb; clear hb hbox hg; have hcz9_0 := zc BK101 0; have hcz9_1 := zc BK101 1; have hfz9_0 := blk_frozen BK101.out 0; have hfz9_1 := blk_frozen BK101.out 1) | ((with_reducible refine gate_callee (f := 62) rfl ?_); refine zG (some 9) Try.func62 #[.int .i64 a0_0, .slice A1 l1.length c1] ?_; (with_reducible refine (galoisref09_Check.calls k a0_0 _ _ l1 t102 _ (zC (Kd.C_below HR1.out HB.out)) HC1.out A3.out).mono ?_); rintro e w' ⟨rfl, ⟨nd, rfl⟩⟩; refine ⟨_, rfl, ?_⟩))
 go_ret
 exact ⟨zQ, zT⟩
end Go.Proofs.Ytalnaafmonmlmaa.Q
end
section
namespace Go.Proofs.Ytalnaafmonmlmaa.Q
open Go.RowKit Go.Proofs.YtalnaafmonmlmaaW.PrintWords Go.Proofs.YtalnaafmonmlmaaW.PrintLast Go.Proofs.YtalnaafmonmlmaaW.PrintMore
attribute [local go_sem] max2_int min2_int max_two min_two max_three min_three max_four min_four
set_option linter.unusedVariables false
set_option linter.unusedSimpArgs false
set_option maxHeartbeats 8000000
set_option maxRecDepth 100000
def galoisref15_CheckElement.f (k : Nat) (a0_0 : Int) (l0_1 : List Int) (l1 : List Int) : Option (Int) := (galoisref15_Check.f k a0_0 l0_1).bind fun t102 => (if t102 = 0 then ((galoisref15_Member.f k a0_0 l0_1 l1).bind fun t103 => (some t103)) else ((galoisref15_Check.f k a0_0 l0_1).bind fun t104 => (some t104)))
theorem galoisref15_CheckElement.mono : ∀ a0 a1 a2 k, LeO (galoisref15_CheckElement.f k a0 a1 a2) (galoisref15_CheckElement.f (k + 1) a0 a1 a2) := by
 intro a0 a1 a2 k
 unfold galoisref15_CheckElement.f
 with_reducible repeat' first | exact galoisref15_Check.mono _ _ _ | exact galoisref15_Member.mono _ _ _ _ | exact LeO.refl _ | exact LeO.none _ | refine LeO.ite ?_ ?_ | refine LeO.bind ?_ (fun _ => ?_)
theorem galoisref15_CheckElement.calls (k : Nat) (a0_0 : Int) (A0_1 : Option Addr) (c0_1 : Nat) (l0_1 : List Int) (A1 : Option Addr) (c1 : Nat) (l1 : List Int) (r : Int) (w : World) (hr0_1 : Kd.C (Kd.int .i64) w A0_1 l0_1.length l0_1) (hc0_1 : l0_1.length ≤ c0_1) (hr1 : Kd.C (Kd.int .i64) w A1 l1.length l1) (hc1 : l1.length ≤ c1) (h : galoisref15_CheckElement.f k a0_0 l0_1 l1 = some r) :
  Calls Try.prog 26 #[.agg #[.int .i64 a0_0, .slice A0_1 l0_1.length c0_1], .slice A1 l1.length c1] w fun e w' => e = .returned (.int .i64 r) ∧ Below w.heap.size w w' := by
 have hu33 := Try.underlying33
 have HR0_1 := Aside0.mk hr0_1
 have HC0_1 := Aside0.mk hc0_1
 clear hr0_1 hc0_1
 have HR1 := Aside0.mk hr1
 have HC1 := Aside0.mk hc1
 clear hr1 hc1
 have HB := Aside0.mk (Below.refl w.heap.size w)
 have H := h; clear h; unfold galoisref15_CheckElement.f at H
 obtain ⟨t102, A3, H⟩ := zO H
 by_cases c4 : t102 = 0
 rotate_left
 ·rw [if_neg c4] at H
  obtain ⟨c4b0, c4b1⟩ := zU c4
  obtain ⟨t104, A11, H⟩ := zO H
  obtain rfl := Option.some.inj H
  go_enter Try.func26, Try.ntmps26
  go_wp2_with (first | ((with_reducible refine gate_dst (N := 2) rfl ?_); refine zb 2 #[.int .i64 a0_0, .slice A0_1 l0_1.length c0_1] 33 ?_; intro gb101 hg w12 hbox hb; have BK101 := Aside0.mk (hbox); have GW101 := zg HB hg; have GE101 := GW101; replace HB := zBb HB hb; clear hb hbox hg; have hcz13_0 := zc BK101 0; have hcz13_1 := zc BK101 1; have hfz13_0 := blk_frozen BK101.out 0; have hfz13_1 := blk_frozen BK101.out 1) | ((with_reducible refine gate_callee (f := 24) rfl ?_); refine zG (some 6) Try.func24 #[.agg #[.int .i64 a0_0, .slice A0_1 l0_1.length c0_1]] ?_; (with_reducible refine (galoisref15_Check.calls k a0_0 _ _ l0_1 t102 _ (zC (Kd.C_below HR0_1.out HB.out)) HC0_1.out A3.out).mono ?_); rintro e w14 ⟨rfl, hb⟩; refine ⟨_, rfl, ?_⟩; replace BK101 := zKb BK101 hb; replace HB := zBb HB hb; (try clear hb); have hcz15_0 := zc BK101 0; have hcz15_1 := zc BK101 1; have hfz15_0 := blk_frozen BK101.out 0; have hfz15_1 := blk_frozen BK101.out 1) | ((with_reducible refine gate_callee (f := 24) rfl ?_); refine zG (some 9) Try.func24 #[.agg #[.int .i64 a0_0, .slice A0_1 l0_1.length c0_1]] ?_; (with_reducible refine (galoisref15_Check.calls k a0_0 _ _ l0_1 t104 _ (zC (Kd.C_below HR0_1.out HB.out)) HC0_1.out A11.out).mono ?_); rintro e w16 ⟨rfl, hb⟩; refine ⟨_, rfl, ?_⟩; replace BK101 := zKb BK101 hb; replace HB := zBb HB hb; (try clear hb)))
  go_ret
  exact ⟨zQ, zT⟩
 rw [if_pos c4] at H
 obtain ⟨c4b0, c4b1⟩ := zE c4; clear c4
 obtain ⟨t103, A5, H⟩ := zO H
 obtain rfl := Option.some.inj H
 go_enter Try.func26, Try.ntmps26
 go_wp2_with (first | ((with_reducible refine gate_dst (N := 2) rfl ?_); refine zb 2 #[.int .i64 a0_0, .slice A0_1 l0_1.length c0_1] 33 ?_; intro gb101 hg w6 hbox hb; have BK101 := Aside0.mk (hbox); have GW101 := zg HB hg; have GE101 := GW101; replace HB := zBb HB hb; clear hb hbox hg; have hcz7_0 := zc BK101 0; have hcz7_1 := zc BK101 1; have hfz7_0 := blk_frozen BK101.out 0; have hfz7_1 := blk_frozen BK101.out 1) | ((with_reducible refine gate_callee (f := 24) rfl ?_); refine zG (some 6) Try.func24 #[.agg #[.int .i64 a0_0, .slice A0_1 l0_1.length c0_1]] ?_; (with_reducible refine (galoisref15_Check.calls k a0_0 _ _ l0_1 t102 _ (zC (Kd.C_below HR0_1.out HB.out)) HC0_1.out A3.out).mono ?_); rintro e w8 ⟨rfl, hb⟩; refine ⟨_, rfl, ?_⟩; replace BK101 := zKb BK101 hb; replace HB := zBb HB hb; (try clear hb); have hcz9_0 := zc BK101 0; have hcz9_1 := zc BK101 1; have hfz9_0 := blk_frozen BK101.out 0; have hfz9_1 := blk_frozen BK101.out 1) | ((with_reducible refine gate_callee (f := 31) rfl ?_); refine zG (some 12) Try.func31 #[.agg #[.int .i64 a0_0, .slice A0_1 l0_1.length c0_1], .slice A1 l1.length c1] ?_; (with_reducible refine (galoisref15_Member.calls k a0_0 _ _ l0_1 _ _ l1 t103 _ (zC (Kd.C_below HR0_1.out HB.out)) HC0_1.out (zC (Kd.C_below HR1.out HB.out)) HC1.out A5.out).mono ?_); rintro e w10 ⟨rfl, hb⟩; refine ⟨_, rfl, ?_⟩; replace BK101 := zKb BK101 hb; replace HB := zBb HB hb; (try clear hb)))
 go_ret
 exact ⟨zQ, zT⟩
end Go.Proofs.Ytalnaafmonmlmaa.Q
end
section
namespace Go.Proofs.Ytalnaafmonmlmaa.Q
open Go.RowKit Go.Proofs.YtalnaafmonmlmaaW.PrintWords Go.Proofs.YtalnaafmonmlmaaW.PrintLast Go.Proofs.YtalnaafmonmlmaaW.PrintMore
attribute [local go_sem] max2_int min2_int max_two min_two max_three min_three max_four min_four
set_option linter.unusedVariables false
set_option linter.unusedSimpArgs false
set_option maxHeartbeats 8000000
set_option maxRecDepth 100000
def finitefield_Add.f (k : Nat) (a0_0 : Int) (l0_1 : List Int) (l1 : List Int) (l2 : List Int) : Option (List Int × Int) := (finitefield_check.f k a0_0 l0_1 (([l1, l2] : List (List Int)))).bind fun t105 => (if t105 = 0 then ((fp_Add.f k a0_0 l1 l2).bind fun t106 => (some (t106, 0))) else (some (([] : List Int), t105)))
theorem finitefield_Add.mono : ∀ a0 a1 a2 a3 k, LeO (finitefield_Add.f k a0 a1 a2 a3) (finitefield_Add.f (k + 1) a0 a1 a2 a3) := by
 intro a0 a1 a2 a3 k
 unfold finitefield_Add.f
 with_reducible repeat' first | exact finitefield_check.mono _ _ _ _ | exact fp_Add.mono _ _ _ _ | exact LeO.refl _ | exact LeO.none _ | refine LeO.ite ?_ ?_ | refine LeO.bind ?_ (fun _ => ?_)
theorem finitefield_Add.calls (k : Nat) (a0_0 : Int) (A0_1 : Option Addr) (c0_1 : Nat) (l0_1 : List Int) (P1_ : Nat → Prop) (A1 : Option Addr) (c1 : Nat) (l1 : List Int) (P2_ : Nat → Prop) (A2 : Option Addr) (c2 : Nat) (l2 : List Int) (r1 : List Int) (r2 : Int) (w : World) (hr0_1 : Kd.C (Kd.int .i64) w A0_1 l0_1.length l0_1) (hc0_1 : l0_1.length ≤ c0_1) (hs1 : Kd.V (Kd.int .i64) 3 w w.heap.size (fun k_ => P1_ k_) (.slice A1 l1.length c1) l1) (hs2 : Kd.V (Kd.int .i64) 3 w w.heap.size (fun k_ => P2_ k_) (.slice A2 l2.length c2) l2) (h : finitefield_Add.f k a0_0 l0_1 l1 l2 = some (r1, r2)) :
  Calls Try.prog 21 #[.agg #[.int .i64 a0_0, .slice A0_1 l0_1.length c0_1], .slice A1 l1.length c1, .slice A2 l2.length c2] w fun e w' => ∃ v0_ : Value, e = .returned (.tuple #[v0_, .int .i64 r2]) ∧ Kd.V (Kd.int .i64) 3 w' w.heap.size (fun k_ => ((P1_ k_ ∨ P2_ k_) ∨ w.heap.size ≤ k_)) v0_ r1 ∧ Below w.heap.size w w' := by
 have hu33 := Try.underlying33
 have HR0_1 := Aside0.mk hr0_1
 have HC0_1 := Aside0.mk hc0_1
 clear hr0_1 hc0_1
 have HO1 := Aside0.mk (show Kd.V (Kd.int .i64) 3 w w.heap.size (fun k_ => ((P1_ k_ ∨ P2_ k_) ∨ w.heap.size ≤ k_)) (.slice A1 l1.length c1) l1 from Kd.V_mono hs1 (fun k_ hk => .inl (.inl hk)))
 have HO2 := Aside0.mk (show Kd.V (Kd.int .i64) 3 w w.heap.size (fun k_ => ((P1_ k_ ∨ P2_ k_) ∨ w.heap.size ≤ k_)) (.slice A2 l2.length c2) l2 from Kd.V_mono hs2 (fun k_ hk => .inl (.inr hk)))
 have HB := Aside0.mk (Below.refl w.heap.size w)
 have H := h; clear h; unfold finitefield_Add.f at H
 obtain ⟨y102, Ny102⟩ := zA ((([l1, l2] : List (List Int))) : List (List Int)); rw [← Ny102.out] at H
 obtain ⟨t105, A4, H⟩ := zO H
 by_cases c5 : t105 = 0
 rotate_left
 ·rw [if_neg c5] at H
  obtain ⟨c5b0, c5b1⟩ := zU c5
  simp only [Option.some.injEq, Prod.mk.injEq] at H
  obtain ⟨rfl, rfl⟩ := H
  go_enter Try.func21, Try.ntmps21
  go_wp2_with (first | ((with_reducible refine gate_dst (N := 3) rfl ?_); refine zb 3 #[.int .i64 a0_0, .slice A0_1 l0_1.length c0_1] 33 ?_; intro gb101 hg w15 hbox hb; replace HO1 := Aside0.mk (Kd.V_below (Kd.V_elderB (zV HO1.out) gb101 (Nat.le_of_eq hg.symm)) hb); replace HO2 := Aside0.mk (Kd.V_below (Kd.V_elderB (zV HO2.out) gb101 (Nat.le_of_eq hg.symm)) hb); have BK101 := Aside0.mk (hbox); have GW101 := zg HB hg; have GE101 := GW101; replace HB := zBb HB hb; clear hb hbox hg; have hcz16_0 := zc BK101 0; have hcz16_1 := zc BK101 1; have hfz16_0 := blk_frozen BK101.out 0; have hfz16_1 := blk_frozen BK101.out 1) | ((with_reducible refine gate_dst (N := 12) rfl ?_); refine Kd.N_lit (Kd.slice 3 (Kd.int .i64)) _ 25 ?hg (N' := 12) ?hd (xs := ([l1, l2] : List (List Int))) (inner := [.slice A1 l1.length c1, .slice A2 l2.length c2]) (ok := (fun k_ => ((P1_ k_ ∨ P2_ k_) ∨ w.heap.size ≤ k_) ∧ k_ ≠ gb101)) (okp := (fun k_ => ((P1_ k_ ∨ P2_ k_) ∨ w.heap.size ≤ k_) ∧ k_ ≠ gb101)) ?hr ?hp (fun _ hk => hk) ((show ∀ k_, w15.heap.size ≤ k_ → (fun k_ => ((P1_ k_ ∨ P2_ k_) ∨ w.heap.size ≤ k_) ∧ k_ ≠ gb101) k_ from fun k_ hk => ⟨(.inr (Nat.le_trans (zS HB) hk)), Kd.freshB (zK BK101.out) k_ hk⟩) _ (Nat.le_refl _)) (Below.refl _ _) (Nat.le_refl _) (by simp) ?_; (case hd => rfl); (case hg => rfl); (case hr => go_simp <;> rfl); (case hp => exact (Reps.one (show Kd.FK (Kd.slice 3 (Kd.int .i64)) _ _ l1 [.slice A1 l1.length c1] from (Kd.FK_slice_mk (Kd.V_reads' (Kd.V_mono (ok' := (fun k_ => ((P1_ k_ ∨ P2_ k_) ∨ w.heap.size ≤ k_) ∧ k_ ≠ gb101)) (HO1.out) (fun k_ hk => ⟨hk.1, hk.2⟩))).2.1 (Kd.V_F (Kd.V_mono (ok' := (fun k_ => ((P1_ k_ ∨ P2_ k_) ∨ w.heap.size ≤ k_) ∧ k_ ≠ gb101)) (HO1.out) (fun k_ hk => ⟨hk.1, hk.2⟩))))) (Reps.one (show Kd.FK (Kd.slice 3 (Kd.int .i64)) _ _ l2 [.slice A2 l2.length c2] from (Kd.FK_slice_mk (Kd.V_reads' (Kd.V_mono (ok' := (fun k_ => ((P1_ k_ ∨ P2_ k_) ∨ w.heap.size ≤ k_) ∧ k_ ≠ gb101)) (HO2.out) (fun k_ hk => ⟨hk.1, hk.2⟩))).2.1 (Kd.V_F (Kd.V_mono (ok' := (fun k_ => ((P1_ k_ ∨ P2_ k_) ∨ w.heap.size ≤ k_) ∧ k_ ≠ gb101)) (HO2.out) (fun k_ hk => ⟨hk.1, hk.2⟩))))) (Reps.none _ _)))); intro v103 w17 ho18 hb hg_ hnew_; clear hg_ hnew_; (first | rw [← Ny102.out] at ho18 | (simp only [Int.reduceToNat] at ho18; rw [← Ny102.out] at ho18)); replace HO1 := Aside0.mk (Kd.V_elder' (zV HO1.out) (Kd.N_base ho18) hb); replace HO2 := Aside0.mk (Kd.V_elder' (zV HO2.out) (Kd.N_base ho18) hb); have HO104 := Aside0.mk (Kd.N_lower ho18 (zS HB)); replace BK101 := zKb BK101 hb; replace HB := zBb HB hb; clear hb ho18; obtain ⟨Ao19, co19, eo19⟩ := Kd.N_slice HO104.out; subst eo19) | ((with_reducible refine gate_callee (f := 53) rfl ?_); refine zG (some 13) Try.func53 #[.agg #[.int .i64 a0_0, .slice A0_1 l0_1.length c0_1], .slice Ao19 y102.length co19] ?_; (with_reducible refine (finitefield_check.calls k a0_0 _ _ l0_1 _ _ y102 t105 _ (zC (Kd.C_below HR0_1.out HB.out)) HC0_1.out (zC ((Kd.N_reads' HO104.out).2.2)) ((Kd.N_reads' HO104.out).2.1) A4.out).mono ?_); rintro e w20 ⟨rfl, hb⟩; refine ⟨_, rfl, ?_⟩; replace HO1 := zVb HO1 hb; replace HO2 := zVb HO2 hb; replace HO104 := zNb HO104 hb; replace BK101 := zKb BK101 hb; replace HB := zBb HB hb; (try clear hb)))
  go_ret2
  exact ⟨_, zQ, zL, zT⟩
 rw [if_pos c5] at H
 obtain ⟨c5b0, c5b1⟩ := zE c5; clear c5
 obtain ⟨t106, A6, H⟩ := zO H
 simp only [Option.some.injEq, Prod.mk.injEq] at H
 obtain ⟨rfl, rfl⟩ := H
 go_enter Try.func21, Try.ntmps21
 go_wp2_with (first | ((with_reducible refine gate_dst (N := 3) rfl ?_); refine zb 3 #[.int .i64 a0_0, .slice A0_1 l0_1.length c0_1] 33 ?_; intro gb101 hg w7 hbox hb; replace HO1 := Aside0.mk (Kd.V_below (Kd.V_elderB (zV HO1.out) gb101 (Nat.le_of_eq hg.symm)) hb); replace HO2 := Aside0.mk (Kd.V_below (Kd.V_elderB (zV HO2.out) gb101 (Nat.le_of_eq hg.symm)) hb); have BK101 := Aside0.mk (hbox); have GW101 := zg HB hg; have GE101 := GW101; replace HB := zBb HB hb; clear hb hbox hg; have hcz8_0 := zc BK101 0; have hcz8_1 := zc BK101 1; have hfz8_0 := blk_frozen BK101.out 0; have hfz8_1 := blk_frozen BK101.out 1) | ((with_reducible refine gate_dst (N := 12) rfl ?_); refine Kd.N_lit (Kd.slice 3 (Kd.int .i64)) _ 25 ?hg (N' := 12) ?hd (xs := ([l1, l2] : List (List Int))) (inner := [.slice A1 l1.length c1, .slice A2 l2.length c2]) (ok := (fun k_ => ((P1_ k_ ∨ P2_ k_) ∨ w.heap.size ≤ k_) ∧ k_ ≠ gb101)) (okp := (fun k_ => ((P1_ k_ ∨ P2_ k_) ∨ w.heap.size ≤ k_) ∧ k_ ≠ gb101)) ?hr ?hp (fun _ hk => hk) ((show ∀ k_, w7.heap.size ≤ k_ → (fun k_ => ((P1_ k_ ∨ P2_ k_) ∨ w.heap.size ≤ k_) ∧ k_ ≠ gb101) k_ from fun k_ hk => ⟨(.inr (Nat.le_trans (zS HB) hk)), Kd.freshB (zK BK101.out) k_ hk⟩) _ (Nat.le_refl _)) (Below.refl _ _) (Nat.le_refl _) (by simp) ?_; (case hd => rfl); (case hg => rfl); (case hr => go_simp <;> rfl); (case hp => exact (Reps.one (show Kd.FK (Kd.slice 3 (Kd.int .i64)) _ _ l1 [.slice A1 l1.length c1] from (Kd.FK_slice_mk (Kd.V_reads' (Kd.V_mono (ok' := (fun k_ => ((P1_ k_ ∨ P2_ k_) ∨ w.heap.size ≤ k_) ∧ k_ ≠ gb101)) (HO1.out) (fun k_ hk => ⟨hk.1, hk.2⟩))).2.1 (Kd.V_F (Kd.V_mono (ok' := (fun k_ => ((P1_ k_ ∨ P2_ k_) ∨ w.heap.size ≤ k_) ∧ k_ ≠ gb101)) (HO1.out) (fun k_ hk => ⟨hk.1, hk.2⟩))))) (Reps.one (show Kd.FK (Kd.slice 3 (Kd.int .i64)) _ _ l2 [.slice A2 l2.length c2] from (Kd.FK_slice_mk (Kd.V_reads' (Kd.V_mono (ok' := (fun k_ => ((P1_ k_ ∨ P2_ k_) ∨ w.heap.size ≤ k_) ∧ k_ ≠ gb101)) (HO2.out) (fun k_ hk => ⟨hk.1, hk.2⟩))).2.1 (Kd.V_F (Kd.V_mono (ok' := (fun k_ => ((P1_ k_ ∨ P2_ k_) ∨ w.heap.size ≤ k_) ∧ k_ ≠ gb101)) (HO2.out) (fun k_ hk => ⟨hk.1, hk.2⟩))))) (Reps.none _ _)))); intro v103 w9 ho10 hb hg_ hnew_; clear hg_ hnew_; (first | rw [← Ny102.out] at ho10 | (simp only [Int.reduceToNat] at ho10; rw [← Ny102.out] at ho10)); replace HO1 := Aside0.mk (Kd.V_elder' (zV HO1.out) (Kd.N_base ho10) hb); replace HO2 := Aside0.mk (Kd.V_elder' (zV HO2.out) (Kd.N_base ho10) hb); have HO104 := Aside0.mk (Kd.N_lower ho10 (zS HB)); replace BK101 := zKb BK101 hb; replace HB := zBb HB hb; clear hb ho10; obtain ⟨Ao11, co11, eo11⟩ := Kd.N_slice HO104.out; subst eo11) | ((with_reducible refine gate_callee (f := 53) rfl ?_); refine zG (some 13) Try.func53 #[.agg #[.int .i64 a0_0, .slice A0_1 l0_1.length c0_1], .slice Ao11 y102.length co11] ?_; (with_reducible refine (finitefield_check.calls k a0_0 _ _ l0_1 _ _ y102 t105 _ (zC (Kd.C_below HR0_1.out HB.out)) HC0_1.out (zC ((Kd.N_reads' HO104.out).2.2)) ((Kd.N_reads' HO104.out).2.1) A4.out).mono ?_); rintro e w12 ⟨rfl, hb⟩; refine ⟨_, rfl, ?_⟩; replace HO1 := zVb HO1 hb; replace HO2 := zVb HO2 hb; replace HO104 := zNb HO104 hb; replace BK101 := zKb BK101 hb; replace HB := zBb HB hb; (try clear hb); have hcz13_0 := zc BK101 0; have hcz13_1 := zc BK101 1; have hfz13_0 := blk_frozen BK101.out 0; have hfz13_1 := blk_frozen BK101.out 1) | ((with_reducible refine gate_callee (f := 60) rfl ?_); refine zG (some 21) Try.func60 #[.int .i64 a0_0, .slice A1 l1.length c1, .slice A2 l2.length c2] ?_; (with_reducible refine (fp_Add.calls k a0_0 _ _ l1 _ _ l2 t106 _ (zC ((Kd.V_reads' HO1.out).2.2)) ((Kd.V_reads' HO1.out).2.1) (zC ((Kd.V_reads' HO2.out).2.2)) ((Kd.V_reads' HO2.out).2.1) A6.out).mono ?_); rintro e w14 ⟨v107, rfl, ho0, hb⟩; refine ⟨_, rfl, ?_⟩; replace HO1 := zVb HO1 hb; replace HO2 := zVb HO2 hb; have HO108 := zWV (fun k_ => ((P1_ k_ ∨ P2_ k_) ∨ w.heap.size ≤ k_) ∧ some k_ ≠ (.slice Ao11 y102.length co11 : Value).ownBlock ∧ k_ ≠ gb101) ho0 HB (fun k_ hk_ => ⟨(.inr (Nat.le_trans (zS HB) hk_)), (Kd.fresh' (Kd.N_lt (zN HO104.out)) k_ hk_), (Kd.freshB (zK BK101.out) k_ hk_)⟩); replace HO104 := zNb HO104 hb; replace BK101 := zKb BK101 hb; replace HB := zBb HB hb; (try clear hb); (try clear ho0)))
 go_ret2
 exact ⟨_, zQ, zV (Kd.V_mono HO108.out (fun _ hk => hk.1)), zT⟩
end Go.Proofs.Ytalnaafmonmlmaa.Q
end
section
namespace Go.Proofs.Ytalnaafmonmlmaa.Q
open Go.RowKit Go.Proofs.YtalnaafmonmlmaaW.PrintWords Go.Proofs.YtalnaafmonmlmaaW.PrintLast Go.Proofs.YtalnaafmonmlmaaW.PrintMore
attribute [local go_sem] max2_int min2_int max_two min_two max_three min_three max_four min_four
set_option linter.unusedVariables false
set_option linter.unusedSimpArgs false
set_option maxHeartbeats 8000000
set_option maxRecDepth 100000
def finitefield_Sub.f (k : Nat) (a0_0 : Int) (l0_1 : List Int) (l1 : List Int) (l2 : List Int) : Option (List Int × Int) := (finitefield_check.f k a0_0 l0_1 (([l1, l2] : List (List Int)))).bind fun t105 => (if t105 = 0 then ((fp_Sub.f k a0_0 l1 l2).bind fun t106 => (some (t106, 0))) else (some (([] : List Int), t105)))
theorem finitefield_Sub.mono : ∀ a0 a1 a2 a3 k, LeO (finitefield_Sub.f k a0 a1 a2 a3) (finitefield_Sub.f (k + 1) a0 a1 a2 a3) := by
 intro a0 a1 a2 a3 k
 unfold finitefield_Sub.f
 with_reducible repeat' first | exact finitefield_check.mono _ _ _ _ | exact fp_Sub.mono _ _ _ _ | exact LeO.refl _ | exact LeO.none _ | refine LeO.ite ?_ ?_ | refine LeO.bind ?_ (fun _ => ?_)
theorem finitefield_Sub.calls (k : Nat) (a0_0 : Int) (A0_1 : Option Addr) (c0_1 : Nat) (l0_1 : List Int) (P1_ : Nat → Prop) (A1 : Option Addr) (c1 : Nat) (l1 : List Int) (P2_ : Nat → Prop) (A2 : Option Addr) (c2 : Nat) (l2 : List Int) (r1 : List Int) (r2 : Int) (w : World) (hr0_1 : Kd.C (Kd.int .i64) w A0_1 l0_1.length l0_1) (hc0_1 : l0_1.length ≤ c0_1) (hs1 : Kd.V (Kd.int .i64) 3 w w.heap.size (fun k_ => P1_ k_) (.slice A1 l1.length c1) l1) (hs2 : Kd.V (Kd.int .i64) 3 w w.heap.size (fun k_ => P2_ k_) (.slice A2 l2.length c2) l2) (h : finitefield_Sub.f k a0_0 l0_1 l1 l2 = some (r1, r2)) :
  Calls Try.prog 22 #[.agg #[.int .i64 a0_0, .slice A0_1 l0_1.length c0_1], .slice A1 l1.length c1, .slice A2 l2.length c2] w fun e w' => ∃ v0_ : Value, e = .returned (.tuple #[v0_, .int .i64 r2]) ∧ Kd.V (Kd.int .i64) 3 w' w.heap.size (fun k_ => ((P1_ k_ ∨ P2_ k_) ∨ w.heap.size ≤ k_)) v0_ r1 ∧ Below w.heap.size w w' := by
 have hu33 := Try.underlying33
 have HR0_1 := Aside0.mk hr0_1
 have HC0_1 := Aside0.mk hc0_1
 clear hr0_1 hc0_1
 have HO1 := Aside0.mk (show Kd.V (Kd.int .i64) 3 w w.heap.size (fun k_ => ((P1_ k_ ∨ P2_ k_) ∨ w.heap.size ≤ k_)) (.slice A1 l1.length c1) l1 from Kd.V_mono hs1 (fun k_ hk => .inl (.inl hk)))
 have HO2 := Aside0.mk (show Kd.V (Kd.int .i64) 3 w w.heap.size (fun k_ => ((P1_ k_ ∨ P2_ k_) ∨ w.heap.size ≤ k_)) (.slice A2 l2.length c2) l2 from Kd.V_mono hs2 (fun k_ hk => .inl (.inr hk)))
 have HB := Aside0.mk (Below.refl w.heap.size w)
 have H := h; clear h; unfold finitefield_Sub.f at H
 obtain ⟨y102, Ny102⟩ := zA ((([l1, l2] : List (List Int))) : List (List Int)); rw [← Ny102.out] at H
 obtain ⟨t105, A4, H⟩ := zO H
 by_cases c5 : t105 = 0
 rotate_left
 ·rw [if_neg c5] at H
  obtain ⟨c5b0, c5b1⟩ := zU c5
  simp only [Option.some.injEq, Prod.mk.injEq] at H
  obtain ⟨rfl, rfl⟩ := H
  go_enter Try.func22, Try.ntmps22
  go_wp2_with (first | ((with_reducible refine gate_dst (N := 3) rfl ?_); refine zb 3 #[.int .i64 a0_0, .slice A0_1 l0_1.length c0_1] 33 ?_; intro gb101 hg w15 hbox hb; replace HO1 := Aside0.mk (Kd.V_below (Kd.V_elderB (zV HO1.out) gb101 (Nat.le_of_eq hg.symm)) hb); replace HO2 := Aside0.mk (Kd.V_below (Kd.V_elderB (zV HO2.out) gb101 (Nat.le_of_eq hg.symm)) hb); have BK101 := Aside0.mk (hbox); have GW101 := zg HB hg; have GE101 := GW101; replace HB := zBb HB hb; clear hb hbox hg; have hcz16_0 := zc BK101 0; have hcz16_1 := zc BK101 1; have hfz16_0 := blk_frozen BK101.out 0; have hfz16_1 := blk_frozen BK101.out 1) | ((with_reducible refine gate_dst (N := 12) rfl ?_); refine Kd.N_lit (Kd.slice 3 (Kd.int .i64)) _ 25 ?hg (N' := 12) ?hd (xs := ([l1, l2] : List (List Int))) (inner := [.slice A1 l1.length c1, .slice A2 l2.length c2]) (ok := (fun k_ => ((P1_ k_ ∨ P2_ k_) ∨ w.heap.size ≤ k_) ∧ k_ ≠ gb101)) (okp := (fun k_ => ((P1_ k_ ∨ P2_ k_) ∨ w.heap.size ≤ k_) ∧ k_ ≠ gb101)) ?hr ?hp (fun _ hk => hk) ((show ∀ k_, w15.heap.size ≤ k_ → (fun k_ => ((P1_ k_ ∨ P2_ k_) ∨ w.heap.size ≤ k_) ∧ k_ ≠ gb101) k_ from fun k_ hk => ⟨(.inr (Nat.le_trans (zS HB) hk)), Kd.freshB (zK BK101.out) k_ hk⟩) _ (Nat.le_refl _)) (Below.refl _ _) (Nat.le_refl _) (by simp) ?_; (case hd => rfl); (case hg => rfl); (case hr => go_simp <;> rfl); (case hp => exact (Reps.one (show Kd.FK (Kd.slice 3 (Kd.int .i64)) _ _ l1 [.slice A1 l1.length c1] from (Kd.FK_slice_mk (Kd.V_reads' (Kd.V_mono (ok' := (fun k_ => ((P1_ k_ ∨ P2_ k_) ∨ w.heap.size ≤ k_) ∧ k_ ≠ gb101)) (HO1.out) (fun k_ hk => ⟨hk.1, hk.2⟩))).2.1 (Kd.V_F (Kd.V_mono (ok' := (fun k_ => ((P1_ k_ ∨ P2_ k_) ∨ w.heap.size ≤ k_) ∧ k_ ≠ gb101)) (HO1.out) (fun k_ hk => ⟨hk.1, hk.2⟩))))) (Reps.one (show Kd.FK (Kd.slice 3 (Kd.int .i64)) _ _ l2 [.slice A2 l2.length c2] from (Kd.FK_slice_mk (Kd.V_reads' (Kd.V_mono (ok' := (fun k_ => ((P1_ k_ ∨ P2_ k_) ∨ w.heap.size ≤ k_) ∧ k_ ≠ gb101)) (HO2.out) (fun k_ hk => ⟨hk.1, hk.2⟩))).2.1 (Kd.V_F (Kd.V_mono (ok' := (fun k_ => ((P1_ k_ ∨ P2_ k_) ∨ w.heap.size ≤ k_) ∧ k_ ≠ gb101)) (HO2.out) (fun k_ hk => ⟨hk.1, hk.2⟩))))) (Reps.none _ _)))); intro v103 w17 ho18 hb hg_ hnew_; clear hg_ hnew_; (first | rw [← Ny102.out] at ho18 | (simp only [Int.reduceToNat] at ho18; rw [← Ny102.out] at ho18)); replace HO1 := Aside0.mk (Kd.V_elder' (zV HO1.out) (Kd.N_base ho18) hb); replace HO2 := Aside0.mk (Kd.V_elder' (zV HO2.out) (Kd.N_base ho18) hb); have HO104 := Aside0.mk (Kd.N_lower ho18 (zS HB)); replace BK101 := zKb BK101 hb; replace HB := zBb HB hb; clear hb ho18; obtain ⟨Ao19, co19, eo19⟩ := Kd.N_slice HO104.out; subst eo19) | ((with_reducible refine gate_callee (f := 53) rfl ?_); refine zG (some 13) Try.func53 #[.agg #[.int .i64 a0_0, .slice A0_1 l0_1.length c0_1], .slice Ao19 y102.length co19] ?_; (with_reducible refine (finitefield_check.calls k a0_0 _ _ l0_1 _ _ y102 t105 _ (zC (Kd.C_below HR0_1.out HB.out)) HC0_1.out (zC ((Kd.N_reads' HO104.out).2.2)) ((Kd.N_reads' HO104.out).2.1) A4.out).mono ?_); rintro e w20 ⟨rfl, hb⟩; refine ⟨_, rfl, ?_⟩; replace HO1 := zVb HO1 hb; replace HO2 := zVb HO2 hb; replace HO104 := zNb HO104 hb; replace BK101 := zKb BK101 hb; replace HB := zBb HB hb; (try clear hb)))
  go_ret2
  exact ⟨_, zQ, zL, zT⟩
 rw [if_pos c5] at H
 obtain ⟨c5b0, c5b1⟩ := zE c5; clear c5
 obtain ⟨t106, A6, H⟩ := zO H
 simp only [Option.some.injEq, Prod.mk.injEq] at H
 obtain ⟨rfl, rfl⟩ := H
 go_enter Try.func22, Try.ntmps22
 go_wp2_with (first | ((with_reducible refine gate_dst (N := 3) rfl ?_); refine zb 3 #[.int .i64 a0_0, .slice A0_1 l0_1.length c0_1] 33 ?_; intro gb101 hg w7 hbox hb; replace HO1 := Aside0.mk (Kd.V_below (Kd.V_elderB (zV HO1.out) gb101 (Nat.le_of_eq hg.symm)) hb); replace HO2 := Aside0.mk (Kd.V_below (Kd.V_elderB (zV HO2.out) gb101 (Nat.le_of_eq hg.symm)) hb); have BK101 := Aside0.mk (hbox); have GW101 := zg HB hg; have GE101 := GW101; replace HB := zBb HB hb; clear hb hbox hg; have hcz8_0 := zc BK101 0; have hcz8_1 := zc BK101 1; have hfz8_0 := blk_frozen BK101.out 0; have hfz8_1 := blk_frozen BK101.out 1) | ((with_reducible refine gate_dst (N := 12) rfl ?_); refine Kd.N_lit (Kd.slice 3 (Kd.int .i64)) _ 25 ?hg (N' := 12) ?hd (xs := ([l1, l2] : List (List Int))) (inner := [.slice A1 l1.length c1, .slice A2 l2.length c2]) (ok := (fun k_ => ((P1_ k_ ∨ P2_ k_) ∨ w.heap.size ≤ k_) ∧ k_ ≠ gb101)) (okp := (fun k_ => ((P1_ k_ ∨ P2_ k_) ∨ w.heap.size ≤ k_) ∧ k_ ≠ gb101)) ?hr ?hp (fun _ hk => hk) ((show ∀ k_, w7.heap.size ≤ k_ → (fun k_ => ((P1_ k_ ∨ P2_ k_) ∨ w.heap.size ≤ k_) ∧ k_ ≠ gb101) k_ from fun k_ hk => ⟨(.inr (Nat.le_trans (zS HB) hk)), Kd.freshB (zK BK101.out) k_ hk⟩) _ (Nat.le_refl _)) (Below.refl _ _) (Nat.le_refl _) (by simp) ?_; (case hd => rfl); (case hg => rfl); (case hr => go_simp <;> rfl); (case hp => exact (Reps.one (show Kd.FK (Kd.slice 3 (Kd.int .i64)) _ _ l1 [.slice A1 l1.length c1] from (Kd.FK_slice_mk (Kd.V_reads' (Kd.V_mono (ok' := (fun k_ => ((P1_ k_ ∨ P2_ k_) ∨ w.heap.size ≤ k_) ∧ k_ ≠ gb101)) (HO1.out) (fun k_ hk => ⟨hk.1, hk.2⟩))).2.1 (Kd.V_F (Kd.V_mono (ok' := (fun k_ => ((P1_ k_ ∨ P2_ k_) ∨ w.heap.size ≤ k_) ∧ k_ ≠ gb101)) (HO1.out) (fun k_ hk => ⟨hk.1, hk.2⟩))))) (Reps.one (show Kd.FK (Kd.slice 3 (Kd.int .i64)) _ _ l2 [.slice A2 l2.length c2] from (Kd.FK_slice_mk (Kd.V_reads' (Kd.V_mono (ok' := (fun k_ => ((P1_ k_ ∨ P2_ k_) ∨ w.heap.size ≤ k_) ∧ k_ ≠ gb101)) (HO2.out) (fun k_ hk => ⟨hk.1, hk.2⟩))).2.1 (Kd.V_F (Kd.V_mono (ok' := (fun k_ => ((P1_ k_ ∨ P2_ k_) ∨ w.heap.size ≤ k_) ∧ k_ ≠ gb101)) (HO2.out) (fun k_ hk => ⟨hk.1, hk.2⟩))))) (Reps.none _ _)))); intro v103 w9 ho10 hb hg_ hnew_; clear hg_ hnew_; (first | rw [← Ny102.out] at ho10 | (simp only [Int.reduceToNat] at ho10; rw [← Ny102.out] at ho10)); replace HO1 := Aside0.mk (Kd.V_elder' (zV HO1.out) (Kd.N_base ho10) hb); replace HO2 := Aside0.mk (Kd.V_elder' (zV HO2.out) (Kd.N_base ho10) hb); have HO104 := Aside0.mk (Kd.N_lower ho10 (zS HB)); replace BK101 := zKb BK101 hb; replace HB := zBb HB hb; clear hb ho10; obtain ⟨Ao11, co11, eo11⟩ := Kd.N_slice HO104.out; subst eo11) | ((with_reducible refine gate_callee (f := 53) rfl ?_); refine zG (some 13) Try.func53 #[.agg #[.int .i64 a0_0, .slice A0_1 l0_1.length c0_1], .slice Ao11 y102.length co11] ?_; (with_reducible refine (finitefield_check.calls k a0_0 _ _ l0_1 _ _ y102 t105 _ (zC (Kd.C_below HR0_1.out HB.out)) HC0_1.out (zC ((Kd.N_reads' HO104.out).2.2)) ((Kd.N_reads' HO104.out).2.1) A4.out).mono ?_); rintro e w12 ⟨rfl, hb⟩; refine ⟨_, rfl, ?_⟩; replace HO1 := zVb HO1 hb; replace HO2 := zVb HO2 hb; replace HO104 := zNb HO104 hb; replace BK101 := zKb BK101 hb; replace HB := zBb HB hb; (try clear hb); have hcz13_0 := zc BK101 0; have hcz13_1 := zc BK101 1; have hfz13_0 := blk_frozen BK101.out 0; have hfz13_1 := blk_frozen BK101.out 1) | ((with_reducible refine gate_callee (f := 61) rfl ?_); refine zG (some 21) Try.func61 #[.int .i64 a0_0, .slice A1 l1.length c1, .slice A2 l2.length c2] ?_; (with_reducible refine (fp_Sub.calls k a0_0 _ _ l1 _ _ l2 t106 _ (zC ((Kd.V_reads' HO1.out).2.2)) ((Kd.V_reads' HO1.out).2.1) (zC ((Kd.V_reads' HO2.out).2.2)) ((Kd.V_reads' HO2.out).2.1) A6.out).mono ?_); rintro e w14 ⟨v107, rfl, ho0, hb⟩; refine ⟨_, rfl, ?_⟩; replace HO1 := zVb HO1 hb; replace HO2 := zVb HO2 hb; have HO108 := zWV (fun k_ => ((P1_ k_ ∨ P2_ k_) ∨ w.heap.size ≤ k_) ∧ some k_ ≠ (.slice Ao11 y102.length co11 : Value).ownBlock ∧ k_ ≠ gb101) ho0 HB (fun k_ hk_ => ⟨(.inr (Nat.le_trans (zS HB) hk_)), (Kd.fresh' (Kd.N_lt (zN HO104.out)) k_ hk_), (Kd.freshB (zK BK101.out) k_ hk_)⟩); replace HO104 := zNb HO104 hb; replace BK101 := zKb BK101 hb; replace HB := zBb HB hb; (try clear hb); (try clear ho0)))
 go_ret2
 exact ⟨_, zQ, zV (Kd.V_mono HO108.out (fun _ hk => hk.1)), zT⟩
end Go.Proofs.Ytalnaafmonmlmaa.Q
end
section
namespace Go.Proofs.Ytalnaafmonmlmaa.Q
open Go.RowKit Go.Proofs.YtalnaafmonmlmaaW.PrintWords Go.Proofs.YtalnaafmonmlmaaW.PrintLast Go.Proofs.YtalnaafmonmlmaaW.PrintMore
attribute [local go_sem] max2_int min2_int max_two min_two max_three min_three max_four min_four
set_option linter.unusedVariables false
set_option linter.unusedSimpArgs false
set_option maxHeartbeats 8000000
set_option maxRecDepth 100000
def finitefield_Div.f (k : Nat) (a0_0 : Int) (l0_1 : List Int) (l1 : List Int) (l2 : List Int) : Option (List Int × Int) := (finitefield_check.f k a0_0 l0_1 (([l1, l2] : List (List Int)))).bind fun t105 => (if t105 = 0 then (if (l2.length : Int) = 0 then (some (([] : List Int), 6)) else ((gf_Field_Inverse.f k a0_0 l0_1 l2).bind fun t107 => ((gf_Field_Mul.f k a0_0 l0_1 l1 t107).bind fun t110 => (some (t110, 0))))) else (some (([] : List Int), t105)))
theorem finitefield_Div.mono : ∀ a0 a1 a2 a3 k, LeO (finitefield_Div.f k a0 a1 a2 a3) (finitefield_Div.f (k + 1) a0 a1 a2 a3) := by
 intro a0 a1 a2 a3 k
 unfold finitefield_Div.f
 with_reducible repeat' first | exact finitefield_check.mono _ _ _ _ | exact gf_Field_Inverse.mono _ _ _ _ | exact gf_Field_Mul.mono _ _ _ _ _ | exact LeO.refl _ | exact LeO.none _ | refine LeO.ite ?_ ?_ | refine LeO.bind ?_ (fun _ => ?_)
def finitefield_Div.T7 : Bool × List (List Nat × List Nat) := (true, [([], []), ([], []), ([], []), ([], []), ([2, 3], [2, 3]), ([0, 1, 4, 4], [0, 1, 4]), ([5, 5, 0, 1, 2, 3, 4, 5], [5]), ([6, 0, 1, 2, 3, 4, 5, 6], [])])
def finitefield_Div.B7 : List Nat := [0, 0, 0, 0, 12, 31, 63, 127]
theorem finitefield_Div.tab7 : rtab .any (opsOf Try.f32 7) = finitefield_Div.T7 := by kernel_rfl
theorem finitefield_Div.bits7 : waitsOk finitefield_Div.T7.2 finitefield_Div.B7 = true := by kernel_rfl
theorem finitefield_Div.calls (k : Nat) (a0_0 : Int) (P0_1_ : Nat → Prop) (A0_1 : Option Addr) (c0_1 : Nat) (l0_1 : List Int) (P1_ : Nat → Prop) (A1 : Option Addr) (c1 : Nat) (l1 : List Int) (P2_ : Nat → Prop) (A2 : Option Addr) (c2 : Nat) (l2 : List Int) (r1 : List Int) (r2 : Int) (w : World) (hs0_1 : Kd.V (Kd.int .i64) 3 w w.heap.size (fun k_ => P0_1_ k_) (.slice A0_1 l0_1.length c0_1) l0_1) (hs1 : Kd.V (Kd.int .i64) 3 w w.heap.size (fun k_ => P1_ k_) (.slice A1 l1.length c1) l1) (hs2 : Kd.V (Kd.int .i64) 3 w w.heap.size (fun k_ => P2_ k_) (.slice A2 l2.length c2) l2) (h : finitefield_Div.f k a0_0 l0_1 l1 l2 = some (r1, r2)) :
  Calls Try.prog 32 #[.agg #[.int .i64 a0_0, .slice A0_1 l0_1.length c0_1], .slice A1 l1.length c1, .slice A2 l2.length c2] w fun e w' => ∃ v0_ : Value, e = .returned (.tuple #[v0_, .int .i64 r2]) ∧ Kd.V (Kd.int .i64) 3 w' w.heap.size (fun k_ => ((P0_1_ k_ ∨ P1_ k_ ∨ P2_ k_) ∨ w.heap.size ≤ k_)) v0_ r1 ∧ Below w.heap.size w w' := by
 have hu33 := Try.underlying33
 have hu68 := Try.underlying68
 have HO0_1 := Aside0.mk (show Kd.V (Kd.int .i64) 3 w w.heap.size (fun k_ => ((P0_1_ k_ ∨ P1_ k_ ∨ P2_ k_) ∨ w.heap.size ≤ k_)) (.slice A0_1 l0_1.length c0_1) l0_1 from Kd.V_mono hs0_1 (fun k_ hk => .inl (.inl hk)))
 have HO1 := Aside0.mk (show Kd.V (Kd.int .i64) 3 w w.heap.size (fun k_ => ((P0_1_ k_ ∨ P1_ k_ ∨ P2_ k_) ∨ w.heap.size ≤ k_)) (.slice A1 l1.length c1) l1 from Kd.V_mono hs1 (fun k_ hk => .inl (.inr (.inl hk))))
 have HO2 := Aside0.mk (show Kd.V (Kd.int .i64) 3 w w.heap.size (fun k_ => ((P0_1_ k_ ∨ P1_ k_ ∨ P2_ k_) ∨ w.heap.size ≤ k_)) (.slice A2 l2.length c2) l2 from Kd.V_mono hs2 (fun k_ hk => .inl (.inr (.inr hk))))
 have HB := Aside0.mk (Below.refl w.heap.size w)
 have H := h; clear h; unfold finitefield_Div.f at H
 obtain ⟨y102, Ny102⟩ := zA ((([l1, l2] : List (List Int))) : List (List Int)); rw [← Ny102.out] at H
 obtain ⟨t105, A4, H⟩ := zO H
 by_cases c5 : t105 = 0
 rotate_left
 ·rw [if_neg c5] at H
  obtain ⟨c5b0, c5b1⟩ := zU c5
  simp only [Option.some.injEq, Prod.mk.injEq] at H
  obtain ⟨rfl, rfl⟩ := H
  go_enter Try.func32, Try.ntmps32
  go_wp2_with (first | ((with_reducible refine gate_dst (N := 3) rfl ?_); refine zb 3 #[.int .i64 a0_0, .slice A0_1 l0_1.length c0_1] 33 ?_; intro gb101 hg w30 hbox hb; replace HO0_1 := Aside0.mk (Kd.V_below (Kd.V_elderB (zV HO0_1.out) gb101 (Nat.le_of_eq hg.symm)) hb); replace HO1 := Aside0.mk (Kd.V_below (Kd.V_elderB (zV HO1.out) gb101 (Nat.le_of_eq hg.symm)) hb); replace HO2 := Aside0.mk (Kd.V_below (Kd.V_elderB (zV HO2.out) gb101 (Nat.le_of_eq hg.symm)) hb); have BK101 := Aside0.mk (hbox); have GW101 := zg HB hg; have GE101 := GW101; replace HB := zBb HB hb; clear hb hbox hg; have hcz31_0 := zc BK101 0; have hcz31_1 := zc BK101 1; have hfz31_0 := blk_frozen BK101.out 0; have hfz31_1 := blk_frozen BK101.out 1) | ((with_reducible refine gate_dst (N := 13) rfl ?_); refine Kd.N_lit (Kd.slice 3 (Kd.int .i64)) _ 25 ?hg (N' := 13) ?hd (xs := ([l1, l2] : List (List Int))) (inner := [.slice A1 l1.length c1, .slice A2 l2.length c2]) (ok := (fun k_ => ((P0_1_ k_ ∨ P1_ k_ ∨ P2_ k_) ∨ w.heap.size ≤ k_) ∧ k_ ≠ gb101)) (okp := (fun k_ => ((P0_1_ k_ ∨ P1_ k_ ∨ P2_ k_) ∨ w.heap.size ≤ k_) ∧ k_ ≠ gb101)) ?hr ?hp (fun _ hk => hk) ((show ∀ k_, w30.heap.size ≤ k_ → (fun k_ => ((P0_1_ k_ ∨ P1_ k_ ∨ P2_ k_) ∨ w.heap.size ≤ k_) ∧ k_ ≠ gb101) k_ from fun k_ hk => ⟨(.inr (Nat.le_trans (zS HB) hk)), Kd.freshB (zK BK101.out) k_ hk⟩) _ (Nat.le_refl _)) (Below.refl _ _) (Nat.le_refl _) (by simp) ?_; (case hd => rfl); (case hg => rfl); (case hr => go_simp <;> rfl); (case hp => exact (Reps.one (show Kd.FK (Kd.slice 3 (Kd.int .i64)) _ _ l1 [.slice A1 l1.length c1] from (Kd.FK_slice_mk (Kd.V_reads' (Kd.V_mono (ok' := (fun k_ => ((P0_1_ k_ ∨ P1_ k_ ∨ P2_ k_) ∨ w.heap.size ≤ k_) ∧ k_ ≠ gb101)) (HO1.out) (fun k_ hk => ⟨hk.1, hk.2⟩))).2.1 (Kd.V_F (Kd.V_mono (ok' := (fun k_ => ((P0_1_ k_ ∨ P1_ k_ ∨ P2_ k_) ∨ w.heap.size ≤ k_) ∧ k_ ≠ gb101)) (HO1.out) (fun k_ hk => ⟨hk.1, hk.2⟩))))) (Reps.one (show Kd.FK (Kd.slice 3 (Kd.int .i64)) _ _ l2 [.slice A2 l2.length c2] from (Kd.FK_slice_mk (Kd.V_reads' (Kd.V_mono (ok' := (fun k_ => ((P0_1_ k_ ∨ P1_ k_ ∨ P2_ k_) ∨ w.heap.size ≤ k_) ∧ k_ ≠ gb101)) (HO2.out) (fun k_ hk => ⟨hk.1, hk.2⟩))).2.1 (Kd.V_F (Kd.V_mono (ok' := (fun k_ => ((P0_1_ k_ ∨ P1_ k_ ∨ P2_ k_) ∨ w.heap.size ≤ k_) ∧ k_ ≠ gb101)) (HO2.out) (fun k_ hk => ⟨hk.1, hk.2⟩))))) (Reps.none _ _)))); intro v103 w32 ho33 hb hg_ hnew_; clear hg_ hnew_; (first | rw [← Ny102.out] at ho33 | (simp only [Int.reduceToNat] at ho33; rw [← Ny102.out] at ho33)); replace HO0_1 := Aside0.mk (Kd.V_elder' (zV HO0_1.out) (Kd.N_base ho33) hb); replace HO1 := Aside0.mk (Kd.V_elder' (zV HO1.out) (Kd.N_base ho33) hb); replace HO2 := Aside0.mk (Kd.V_elder' (zV HO2.out) (Kd.N_base ho33) hb); have HO104 := Aside0.mk (Kd.N_lower ho33 (zS HB)); replace BK101 := zKb BK101 hb; replace HB := zBb HB hb; clear hb ho33; obtain ⟨Ao34, co34, eo34⟩ := Kd.N_slice HO104.out; subst eo34) | ((with_reducible refine gate_callee (f := 53) rfl ?_); refine zG (some 14) Try.func53 #[.agg #[.int .i64 a0_0, .slice A0_1 l0_1.length c0_1], .slice Ao34 y102.length co34] ?_; (with_reducible refine (finitefield_check.calls k a0_0 _ _ l0_1 _ _ y102 t105 _ (zC ((Kd.V_reads' HO0_1.out).2.2)) ((Kd.V_reads' HO0_1.out).2.1) (zC ((Kd.N_reads' HO104.out).2.2)) ((Kd.N_reads' HO104.out).2.1) A4.out).mono ?_); rintro e w35 ⟨rfl, hb⟩; refine ⟨_, rfl, ?_⟩; replace HO0_1 := zVb HO0_1 hb; replace HO1 := zVb HO1 hb; replace HO2 := zVb HO2 hb; replace HO104 := zNb HO104 hb; replace BK101 := zKb BK101 hb; replace HB := zBb HB hb; (try clear hb)))
  go_ret2
  exact ⟨_, zQ, zL, zT⟩
 rw [if_pos c5] at H
 obtain ⟨c5b0, c5b1⟩ := zE c5; clear c5
 by_cases c6 : (l2.length : Int) = 0
 ·rw [if_pos c6] at H
  obtain ⟨c6b0, c6b1⟩ := zE c6; clear c6
  simp only [Option.some.injEq, Prod.mk.injEq] at H
  obtain ⟨rfl, rfl⟩ := H
  go_enter Try.func32, Try.ntmps32
  go_wp2_with (first | ((with_reducible refine gate_dst (N := 3) rfl ?_); refine zb 3 #[.int .i64 a0_0, .slice A0_1 l0_1.length c0_1] 33 ?_; intro gb101 hg w7 hbox hb; replace HO0_1 := Aside0.mk (Kd.V_below (Kd.V_elderB (zV HO0_1.out) gb101 (Nat.le_of_eq hg.symm)) hb); replace HO1 := Aside0.mk (Kd.V_below (Kd.V_elderB (zV HO1.out) gb101 (Nat.le_of_eq hg.symm)) hb); replace HO2 := Aside0.mk (Kd.V_below (Kd.V_elderB (zV HO2.out) gb101 (Nat.le_of_eq hg.symm)) hb); have BK101 := Aside0.mk (hbox); have GW101 := zg HB hg; have GE101 := GW101; replace HB := zBb HB hb; clear hb hbox hg; have hcz8_0 := zc BK101 0; have hcz8_1 := zc BK101 1; have hfz8_0 := blk_frozen BK101.out 0; have hfz8_1 := blk_frozen BK101.out 1) | ((with_reducible refine gate_dst (N := 13) rfl ?_); refine Kd.N_lit (Kd.slice 3 (Kd.int .i64)) _ 25 ?hg (N' := 13) ?hd (xs := ([l1, l2] : List (List Int))) (inner := [.slice A1 l1.length c1, .slice A2 l2.length c2]) (ok := (fun k_ => ((P0_1_ k_ ∨ P1_ k_ ∨ P2_ k_) ∨ w.heap.size ≤ k_) ∧ k_ ≠ gb101)) (okp := (fun k_ => ((P0_1_ k_ ∨ P1_ k_ ∨ P2_ k_) ∨ w.heap.size ≤ k_) ∧ k_ ≠ gb101)) ?hr ?hp (fun _ hk => hk) ((show ∀ k_, w7.heap.size ≤ k_ → (fun k_ => ((P0_1_ k_ ∨ P1_ k_ ∨ P2_ k_) ∨ w.heap.size ≤ k_) ∧ k_ ≠ gb101) k_ from fun k_ hk => ⟨(.inr (Nat.le_trans (zS HB) hk)), Kd.freshB (zK BK101.out) k_ hk⟩) _ (Nat.le_refl _)) (Below.refl _ _) (Nat.le_refl _) (by simp) ?_; (case hd => rfl); (case hg => rfl); (case hr => go_simp <;> rfl); (case hp => exact (Reps.one (show Kd.FK (Kd.slice 3 (Kd.int .i64)) _ _ l1 [.slice A1 l1.length c1] from (Kd.FK_slice_mk (Kd.V_reads' (Kd.V_mono (ok' := (fun k_ => ((P0_1_ k_ ∨ P1_ k_ ∨ P2_ k_) ∨ w.heap.size ≤ k_) ∧ k_ ≠ gb101)) (HO1.out) (fun k_ hk => ⟨hk.1, hk.2⟩))).2.1 (Kd.V_F (Kd.V_mono (ok' := (fun k_ => ((P0_1_ k_ ∨ P1_ k_ ∨ P2_ k_) ∨ w.heap.size ≤ k_) ∧ k_ ≠ gb101)) (HO1.out) (fun k_ hk => ⟨hk.1, hk.2⟩))))) (Reps.one (show Kd.FK (Kd.slice 3 (Kd.int .i64)) _ _ l2 [.slice A2 l2.length c2] from (Kd.FK_slice_mk (Kd.V_reads' (Kd.V_mono (ok' := (fun k_ => ((P0_1_ k_ ∨ P1_ k_ ∨ P2_ k_) ∨ w.heap.size ≤ k_) ∧ k_ ≠ gb101)) (HO2.out) (fun k_ hk => ⟨hk.1, hk.2⟩))).2.1 (Kd.V_F (Kd.V_mono (ok' := (fun k_ => ((P0_1_ k_ ∨ P1_ k_ ∨ P2_ k_) ∨ w.heap.size ≤ k_) ∧ k_ ≠ gb101)) (HO2.out) (fun k_ hk => ⟨hk.1, hk.2⟩))))) (Reps.none _ _)))); intro v103 w9 ho10 hb hg_ hnew_; clear hg_ hnew_; (first | rw [← Ny102.out] at ho10 | (simp only [Int.reduceToNat] at ho10; rw [← Ny102.out] at ho10)); replace HO0_1 := Aside0.mk (Kd.V_elder' (zV HO0_1.out) (Kd.N_base ho10) hb); replace HO1 := Aside0.mk (Kd.V_elder' (zV HO1.out) (Kd.N_base ho10) hb); replace HO2 := Aside0.mk (Kd.V_elder' (zV HO2.out) (Kd.N_base ho10) hb); have HO104 := Aside0.mk (Kd.N_lower ho10 (zS HB)); replace BK101 := zKb BK101 hb; replace HB := zBb HB hb; clear hb ho10; obtain ⟨Ao11, co11, eo11⟩ := Kd.N_slice HO104.out; subst eo11) | ((with_reducible refine gate_callee (f := 53) rfl ?_); refine zG (some 14) Try.func53 #[.agg #[.int .i64 a0_0, .slice A0_1 l0_1.length c0_1], .slice Ao11 y102.length co11] ?_; (with_reducible refine (finitefield_check.calls k a0_0 _ _ l0_1 _ _ y102 t105 _ (zC ((Kd.V_reads' HO0_1.out).2.2)) ((Kd.V_reads' HO0_1.out).2.1) (zC ((Kd.N_reads' HO104.out).2.2)) ((Kd.N_reads' HO104.out).2.1) A4.out).mono ?_); rintro e w12 ⟨rfl, hb⟩; refine ⟨_, rfl, ?_⟩; replace HO0_1 := zVb HO0_1 hb; replace HO1 := zVb HO1 hb; replace HO2 := zVb HO2 hb; replace HO104 := zNb HO104 hb; replace BK101 := zKb BK101 hb; replace HB := zBb HB hb; (try clear hb)))
  go_ret2
  exact ⟨_, zQ, zL, zT⟩
 rw [if_neg c6] at H
 obtain ⟨c6b0, c6b1⟩ := zU c6
 have c6b2 : ¬ (l2 = []) := fun h_ => c6 (by rw [h_]; rfl)
 obtain ⟨t107, A13, H⟩ := zO H
 obtain ⟨t110, A14, H⟩ := zO H
 simp only [Option.some.injEq, Prod.mk.injEq] at H
 obtain ⟨rfl, rfl⟩ := H
 go_enter Try.func32, Try.ntmps32
 try go_wp2_with (first | ((with_reducible refine gate_dst (N := 3) rfl ?_); refine zb 3 #[.int .i64 a0_0, .slice A0_1 l0_1.length c0_1] 33 ?_; intro gb101 hg w15 hbox hb; replace HO0_1 := Aside0.mk (Kd.V_below (Kd.V_elderB (zV HO0_1.out) gb101 (Nat.le_of_eq hg.symm)) hb); replace HO1 := Aside0.mk (Kd.V_below (Kd.V_elderB (zV HO1.out) gb101 (Nat.le_of_eq hg.symm)) hb); replace HO2 := Aside0.mk (Kd.V_below (Kd.V_elderB (zV HO2.out) gb101 (Nat.le_of_eq hg.symm)) hb); have BK101 := Aside0.mk (hbox); have GW101 := zg HB hg; have GE101 := GW101; replace HB := zBb HB hb; clear hb hbox hg; have hcz16_0 := zc BK101 0; have hcz16_1 := zc BK101 1; have hfz16_0 := blk_frozen BK101.out 0; have hfz16_1 := blk_frozen BK101.out 1) | ((with_reducible refine gate_dst (N := 13) rfl ?_); refine Kd.N_lit (Kd.slice 3 (Kd.int .i64)) _ 25 ?hg (N' := 13) ?hd (xs := ([l1, l2] : List (List Int))) (inner := [.slice A1 l1.length c1, .slice A2 l2.length c2]) (ok := (fun k_ => ((P0_1_ k_ ∨ P1_ k_ ∨ P2_ k_) ∨ w.heap.size ≤ k_) ∧ k_ ≠ gb101)) (okp := (fun k_ => ((P0_1_ k_ ∨ P1_ k_ ∨ P2_ k_) ∨ w.heap.size ≤ k_) ∧ k_ ≠ gb101)) ?hr ?hp (fun _ hk => hk) ((show ∀ k_, w15.heap.size ≤ k_ → (fun k_ => ((P0_1_ k_ ∨ P1_ k_ ∨ P2_ k_) ∨ w.heap.size ≤ k_) ∧ k_ ≠ gb101) k_ from fun k_ hk => ⟨(.inr (Nat.le_trans (zS HB) hk)), Kd.freshB (zK BK101.out) k_ hk⟩) _ (Nat.le_refl _)) (Below.refl _ _) (Nat.le_refl _) (by simp) ?_; (case hd => rfl); (case hg => rfl); (case hr => go_simp <;> rfl); (case hp => exact (Reps.one (show Kd.FK (Kd.slice 3 (Kd.int .i64)) _ _ l1 [.slice A1 l1.length c1] from (Kd.FK_slice_mk (Kd.V_reads' (Kd.V_mono (ok' := (fun k_ => ((P0_1_ k_ ∨ P1_ k_ ∨ P2_ k_) ∨ w.heap.size ≤ k_) ∧ k_ ≠ gb101)) (HO1.out) (fun k_ hk => ⟨hk.1, hk.2⟩))).2.1 (Kd.V_F (Kd.V_mono (ok' := (fun k_ => ((P0_1_ k_ ∨ P1_ k_ ∨ P2_ k_) ∨ w.heap.size ≤ k_) ∧ k_ ≠ gb101)) (HO1.out) (fun k_ hk => ⟨hk.1, hk.2⟩))))) (Reps.one (show Kd.FK (Kd.slice 3 (Kd.int .i64)) _ _ l2 [.slice A2 l2.length c2] from (Kd.FK_slice_mk (Kd.V_reads' (Kd.V_mono (ok' := (fun k_ => ((P0_1_ k_ ∨ P1_ k_ ∨ P2_ k_) ∨ w.heap.size ≤ k_) ∧ k_ ≠ gb101)) (HO2.out) (fun k_ hk => ⟨hk.1, hk.2⟩))).2.1 (Kd.V_F (Kd.V_mono (ok' := (fun k_ => ((P0_1_ k_ ∨ P1_ k_ ∨ P2_ k_) ∨ w.heap.size ≤ k_) ∧ k_ ≠ gb101)) (HO2.out) (fun k_ hk => ⟨hk.1, hk.2⟩))))) (Reps.none _ _)))); intro v103 w17 ho18 hb hg_ hnew_; clear hg_ hnew_; (first | rw [← Ny102.out] at ho18 | (simp only [Int.reduceToNat] at ho18; rw [← Ny102.out] at ho18)); replace HO0_1 := Aside0.mk (Kd.V_elder' (zV HO0_1.out) (Kd.N_base ho18) hb); replace HO1 := Aside0.mk (Kd.V_elder' (zV HO1.out) (Kd.N_base ho18) hb); replace HO2 := Aside0.mk (Kd.V_elder' (zV HO2.out) (Kd.N_base ho18) hb); have HO104 := Aside0.mk (Kd.N_lower ho18 (zS HB)); replace BK101 := zKb BK101 hb; replace HB := zBb HB hb; clear hb ho18; obtain ⟨Ao19, co19, eo19⟩ := Kd.N_slice HO104.out; subst eo19) | ((with_reducible refine gate_callee (f := 53) rfl ?_); refine zG (some 14) Try.func53 #[.agg #[.int .i64 a0_0, .slice A0_1 l0_1.length c0_1], .slice Ao19 y102.length co19] ?_; (with_reducible refine (finitefield_check.calls k a0_0 _ _ l0_1 _ _ y102 t105 _ (zC ((Kd.V_reads' HO0_1.out).2.2)) ((Kd.V_reads' HO0_1.out).2.1) (zC ((Kd.N_reads' HO104.out).2.2)) ((Kd.N_reads' HO104.out).2.1) A4.out).mono ?_); rintro e w20 ⟨rfl, hb⟩; refine ⟨_, rfl, ?_⟩; replace HO0_1 := zVb HO0_1 hb; replace HO1 := zVb HO1 hb; replace HO2 := zVb HO2 hb; replace HO104 := zNb HO104 hb; replace BK101 := zKb BK101 hb; replace HB := zBb HB hb; (try clear hb); have hcz21_0 := zc BK101 0; have hcz21_1 := zc BK101 1; have hfz21_0 := blk_frozen BK101.out 0; have hfz21_1 := blk_frozen BK101.out 1) | ((with_reducible refine gate_dst (N := 9) rfl ?_); refine zb 9 #[.int .i64 0, .slice none 0 0] 68 ?_; intro gb106 hg w22 hbox hb; replace HO0_1 := Aside0.mk (Kd.V_below (Kd.V_elderB (zV HO0_1.out) gb106 (Nat.le_of_eq hg.symm)) hb); replace HO1 := Aside0.mk (Kd.V_below (Kd.V_elderB (zV HO1.out) gb106 (Nat.le_of_eq hg.symm)) hb); replace HO2 := Aside0.mk (Kd.V_below (Kd.V_elderB (zV HO2.out) gb106 (Nat.le_of_eq hg.symm)) hb); replace HO104 := Aside0.mk (Kd.N_below (Kd.N_elderB (zN HO104.out) gb106 (Nat.le_of_eq hg.symm)) hb); have BK106 := Aside0.mk (hbox); have GW106 := zg HB hg; have GE106 := GW106; replace HB := zBb HB hb; have NB101_106 := Aside0.mk ((by rw [hg]; exact Nat.ne_of_lt (blk_lt (zK BK101.out)) : gb101 ≠ gb106)); have NB106_101 := Aside0.mk ((by rw [hg]; exact Nat.ne_of_gt (blk_lt (zK BK101.out)) : gb106 ≠ gb101)); replace BK101 := zKb BK101 hb; clear hb hbox hg; have hnb23 := NB106_101.out; have hnc23 := NB101_106.out; have hcz24_0 := zc BK106 0; have hcz24_1 := zc BK106 1; have hfz24_0 := blk_frozen BK106.out 0; have hfz24_1 := blk_frozen BK106.out 1))
 have n0_ : Aside0 (Kd.V (Kd.int .i64) 3 ((w22.setCell ⟨gb106, 0, none⟩ (.int .i64 a0_0)).setCell ⟨gb106, 1, none⟩ (.slice A0_1 l0_1.length c0_1)) w.heap.size (fun k_ => ((P0_1_ k_ ∨ P1_ k_ ∨ P2_ k_) ∨ w.heap.size ≤ k_) ∧ some k_ ≠ (.slice Ao19 y102.length co19 : Value).ownBlock ∧ k_ ≠ gb101 ∧ k_ ≠ gb106) (.slice A0_1 l0_1.length c0_1) l0_1) := ⟨zV (Kd.V_mono (Kd.V_far (p := ⟨gb106, 1, none⟩) (Kd.V_far (p := ⟨gb106, 0, none⟩) (Kd.V_mono HO0_1.out (fun k_ hk => (⟨hk, hk.2⟩ : _ ∧ k_ ≠ gb106))) (fun _ hk => hk.2) (.int .i64 a0_0)) (fun _ hk => hk.2) (.slice A0_1 l0_1.length c0_1)) (fun _ hk => ⟨hk.1.1.1.1, ⟨hk.1.1.2, ⟨hk.1.1.1.2, hk.1.2⟩⟩⟩))⟩
 have n1_ : Aside0 (Kd.V (Kd.int .i64) 3 ((w22.setCell ⟨gb106, 0, none⟩ (.int .i64 a0_0)).setCell ⟨gb106, 1, none⟩ (.slice A0_1 l0_1.length c0_1)) w.heap.size (fun k_ => ((P0_1_ k_ ∨ P1_ k_ ∨ P2_ k_) ∨ w.heap.size ≤ k_) ∧ some k_ ≠ (.slice Ao19 y102.length co19 : Value).ownBlock ∧ k_ ≠ gb101 ∧ k_ ≠ gb106) (.slice A1 l1.length c1) l1) := ⟨zV (Kd.V_mono (Kd.V_far (p := ⟨gb106, 1, none⟩) (Kd.V_far (p := ⟨gb106, 0, none⟩) (Kd.V_mono HO1.out (fun k_ hk => (⟨hk, hk.2⟩ : _ ∧ k_ ≠ gb106))) (fun _ hk => hk.2) (.int .i64 a0_0)) (fun _ hk => hk.2) (.slice A0_1 l0_1.length c0_1)) (fun _ hk => ⟨hk.1.1.1.1, ⟨hk.1.1.2, ⟨hk.1.1.1.2, hk.1.2⟩⟩⟩))⟩
 have n2_ : Aside0 (Kd.V (Kd.int .i64) 3 ((w22.setCell ⟨gb106, 0, none⟩ (.int .i64 a0_0)).setCell ⟨gb106, 1, none⟩ (.slice A0_1 l0_1.length c0_1)) w.heap.size (fun k_ => ((P0_1_ k_ ∨ P1_ k_ ∨ P2_ k_) ∨ w.heap.size ≤ k_) ∧ some k_ ≠ (.slice Ao19 y102.length co19 : Value).ownBlock ∧ k_ ≠ gb101 ∧ k_ ≠ gb106) (.slice A2 l2.length c2) l2) := ⟨zV (Kd.V_mono (Kd.V_far (p := ⟨gb106, 1, none⟩) (Kd.V_far (p := ⟨gb106, 0, none⟩) (Kd.V_mono HO2.out (fun k_ hk => (⟨hk, hk.2⟩ : _ ∧ k_ ≠ gb106))) (fun _ hk => hk.2) (.int .i64 a0_0)) (fun _ hk => hk.2) (.slice A0_1 l0_1.length c0_1)) (fun _ hk => ⟨hk.1.1.1.1, ⟨hk.1.1.2, ⟨hk.1.1.1.2, hk.1.2⟩⟩⟩))⟩
 have n3_ : Aside0 (Kd.N (Kd.slice 3 (Kd.int .i64)) 25 ((w22.setCell ⟨gb106, 0, none⟩ (.int .i64 a0_0)).setCell ⟨gb106, 1, none⟩ (.slice A0_1 l0_1.length c0_1)) w.heap.size (fun k_ => ((P0_1_ k_ ∨ P1_ k_ ∨ P2_ k_) ∨ w.heap.size ≤ k_) ∧ k_ ≠ gb101 ∧ k_ ≠ gb106) (.slice Ao19 y102.length co19) y102) := ⟨zN (Kd.N_mono (Kd.N_far (p := ⟨gb106, 1, none⟩) (Kd.N_far (p := ⟨gb106, 0, none⟩) (Kd.N_mono HO104.out (fun k_ hk => (⟨hk, hk.2⟩ : _ ∧ k_ ≠ gb106))) (fun _ hk => hk.2) (.int .i64 a0_0)) (fun _ hk => hk.2) (.slice A0_1 l0_1.length c0_1)) (fun _ hk => ⟨hk.1.1.1, ⟨hk.1.1.2, hk.1.2⟩⟩))⟩
 have n4_ : Aside0 (((w22.setCell ⟨gb106, 0, none⟩ (.int .i64 a0_0)).setCell ⟨gb106, 1, none⟩ (.slice A0_1 l0_1.length c0_1)).heap[gb101]? = some (.cells #[.int .i64 a0_0, .slice A0_1 l0_1.length c0_1] 33 (0, 0))) := ⟨by (with_reducible repeat (first | refine blk_drewN ?_ _ | refine blk_drew ?_ | refine blk_alloc ?_ _)); refine blk_far ?_ NB101_106.out _; (with_reducible repeat (first | refine blk_drewN ?_ _ | refine blk_drew ?_ | refine blk_alloc ?_ _)); refine blk_far ?_ NB101_106.out _; (with_reducible repeat (first | refine blk_drewN ?_ _ | refine blk_drew ?_ | refine blk_alloc ?_ _)); exact BK101.out⟩
 have n5_ : Aside0 (((w22.setCell ⟨gb106, 0, none⟩ (.int .i64 a0_0)).setCell ⟨gb106, 1, none⟩ (.slice A0_1 l0_1.length c0_1)).heap[gb106]? = some (.cells #[.int .i64 a0_0, .slice A0_1 l0_1.length c0_1] 68 (0, 0))) := ⟨by (with_reducible repeat (first | refine blk_drewN ?_ _ | refine blk_drew ?_ | refine blk_alloc ?_ _)); refine blk_put (cs := #[.int .i64 a0_0, .slice none 0 0]) ?_ 1 _ rfl; (with_reducible repeat (first | refine blk_drewN ?_ _ | refine blk_drew ?_ | refine blk_alloc ?_ _)); refine blk_put (cs := #[.int .i64 0, .slice none 0 0]) ?_ 0 _ rfl; (with_reducible repeat (first | refine blk_drewN ?_ _ | refine blk_drew ?_ | refine blk_alloc ?_ _)); exact BK106.out⟩
 have n6_ : Aside0 (Below w.heap.size w ((w22.setCell ⟨gb106, 0, none⟩ (.int .i64 a0_0)).setCell ⟨gb106, 1, none⟩ (.slice A0_1 l0_1.length c0_1))) := ⟨zT⟩
 (try clear HO0_1)
 (try clear HO1)
 (try clear HO2)
 (try clear HO104)
 (try clear BK101)
 (try clear BK106)
 (try clear HB)
 generalize ((w22.setCell ⟨gb106, 0, none⟩ (.int .i64 a0_0)).setCell ⟨gb106, 1, none⟩ (.slice A0_1 l0_1.length c0_1)) = w25 at n0_ n1_ n2_ n3_ n4_ n5_ n6_ ⊢
 have HO0_1 := n0_
 have HO1 := n1_
 have HO2 := n2_
 have HO104 := n3_
 have BK101 := n4_
 have BK106 := n5_
 have HB := n6_
 clear n0_ n1_ n2_ n3_ n4_ n5_ n6_
 replace HO0_1 := Aside0.mk (Kd.V_drew HO0_1.out)
 replace HO1 := Aside0.mk (Kd.V_drew HO1.out)
 replace HO2 := Aside0.mk (Kd.V_drew HO2.out)
 replace HO104 := Aside0.mk (Kd.N_drew HO104.out)
 replace BK101 := Aside0.mk (blk_drew BK101.out)
 replace BK106 := Aside0.mk (blk_drew BK106.out)
 replace HB := Aside0.mk (below_drew1 HB.out)
 refine start_ (n := 8) (S := fun w' => w'.cell? ⟨gb106, 0, none⟩ = some (.int .i64 a0_0) ∧ w'.cell? ⟨gb106, 1, none⟩ = some (.slice A0_1 l0_1.length c0_1)) (ds := []) #[false, false, false, false, false, false, false, false] (by kernel_rfl) rfl rfl ⟨(blk_cell BK106.out 0).trans rfl, (blk_cell BK106.out 1).trans rfl⟩ (fun hHeld => ?_); refine with_tabW finitefield_Div.tab7 finitefield_Div.bits7 (fun HT_ HW_ => ?_)
 generalize w25.drew = w26 at HO0_1 HO1 HO2 HO104 BK101 BK106 HB hHeld ⊢
 refine zP 1 24 ?_; refine zP 3 26 ?_
 refine take_ (i := 0) (N := some 23) (v := ?_) (a' := ?_) #[true, true, false, true, false, false, false, false] rfl rfl (take_ofW HT_.out HW_.out (by kernel_rfl)) (fun _ _ _ h => h) (Or.inl ⟨by rfl, ?_⟩) hHeld ?_ ?_
 rotate_left
 ·rintro w' ⟨s0, s1⟩
  go_simp
  with_reducible rfl
 rotate_left
 ·simp only [Act.put, List.setIfInBounds_toArray, List.set_cons_zero, List.set_cons_succ, i64_w, i32_w]
  rfl
 refine take_ (i := 2) (N := some 25) (v := ?_) (a' := ?_) #[true, true, true, true, false, false, false, false] rfl rfl (take_ofW HT_.out HW_.out (by kernel_rfl)) (fun _ _ _ h => h) (Or.inl ⟨by rfl, ?_⟩) hHeld ?_ ?_
 rotate_left
 ·rintro w' ⟨s0, s1⟩
  go_simp
  with_reducible rfl
 rotate_left
 ·simp only [Act.put, List.setIfInBounds_toArray, List.set_cons_zero, List.set_cons_succ, i64_w, i32_w]
  rfl
 refine one_ (i := 4) (N := some 27) #[true, true, true, true, true, false, false, false] rfl rfl (one_of HT_.out (by kernel_rfl)) (by decide) (fun K hK => ?_)
 refine goes_ Try.func67 (by kernel_rfl) rfl #[.agg #[.int .i64 a0_0, .slice A0_1 l0_1.length c0_1], .slice A2 l2.length c2] (by rfl) rfl rfl (by (try simp only [List.map_toArray, List.map_cons, List.map_nil]); first | done | rfl | (simp only [List.length_drop, List.length_take]; rfl)) ?_
 with_reducible refine (gf_Field_Inverse.calls k a0_0 (fun k_ => (((P0_1_ k_ ∨ P1_ k_ ∨ P2_ k_) ∨ w.heap.size ≤ k_) ∧ (some k_ ≠ (.slice Ao19 y102.length co19 : Value).ownBlock ∧ (k_ ≠ gb101 ∧ k_ ≠ gb106)))) _ _ l0_1 (fun k_ => (((P0_1_ k_ ∨ P1_ k_ ∨ P2_ k_) ∨ w.heap.size ≤ k_) ∧ (some k_ ≠ (.slice Ao19 y102.length co19 : Value).ownBlock ∧ (k_ ≠ gb101 ∧ k_ ≠ gb106)))) _ _ l2 t107 _ ?side1 ?side2 A13.out).mono ?_
 (case side1 => exact HO0_1.out)
 (case side2 => exact HO2.out)
 rintro e w27 ⟨v108, rfl, ho0, hb⟩
 refine ⟨_, rfl, ?_⟩
 replace HO0_1 := zVb HO0_1 hb
 replace HO1 := zVb HO1 hb
 replace HO2 := zVb HO2 hb
 have HO109 := Aside0.mk (Kd.V_lower (Kd.V_mono (ok' := fun k_ => ((P0_1_ k_ ∨ P1_ k_ ∨ P2_ k_) ∨ w.heap.size ≤ k_) ∧ some k_ ≠ (.slice Ao19 y102.length co19 : Value).ownBlock ∧ k_ ≠ gb101 ∧ k_ ≠ gb106) ho0 (fun k_ hk_ => ⟨Or.elim hk_ (fun hs_ => Or.elim hs_ (fun hs_ => hs_.1) (fun hs_ => hs_.1)) (fun hn_ => (.inr (Nat.le_trans (zS HB) hn_))), Or.elim hk_ (fun hs_ => Or.elim hs_ (fun hs_ => hs_.2.1) (fun hs_ => hs_.2.1)) (fun hn_ => (Kd.fresh' (Kd.N_lt (zN HO104.out)) k_ hn_)), Or.elim hk_ (fun hs_ => Or.elim hs_ (fun hs_ => hs_.2.2.1) (fun hs_ => hs_.2.2.1)) (fun hn_ => (Kd.freshB (zK BK101.out) k_ hn_)), Or.elim hk_ (fun hs_ => Or.elim hs_ (fun hs_ => hs_.2.2.2) (fun hs_ => hs_.2.2.2)) (fun hn_ => (Kd.freshB (zK BK106.out) k_ hn_))⟩)) (zS HB))
 replace HO104 := zNb HO104 hb
 replace BK101 := zKb BK101 hb
 replace BK106 := zKb BK106 hb
 replace HB := zBb HB hb
 (try clear hb)
 (try clear hb2)
 (try clear hk)
 (try clear hi)
 (try clear ho0)
 obtain ⟨Ao28, co28, eo28⟩ := Kd.V_slice HO109.out
 (first | subst eo28 | (injection eo28 with f1_ f2_ f3_; have f4_ := f1_.symm; have f5_ := f3_.symm; clear f1_ f2_ f3_; subst f4_; subst f5_))
 refine hK.out _ _ ⟨(blk_cell BK106.out 0).trans rfl, (blk_cell BK106.out 1).trans rfl⟩ (fun hHeld => ?_)
 clear hK K
 refine norm_ (a' := ?_) ?_ ?_
 rotate_left
 ·show Act.put _ (some 27) _ = _
  simp only [Act.put, List.setIfInBounds_toArray, List.set_cons_zero, List.set_cons_succ, i64_w, i32_w]
  rfl
 refine one_ (i := 5) (N := some 28) #[true, true, true, true, true, true, false, false] rfl rfl (one_of HT_.out (by kernel_rfl)) (by decide) (fun K hK => ?_)
 refine goes_ Try.func59 (by kernel_rfl) rfl #[.agg #[.int .i64 a0_0, .slice A0_1 l0_1.length c0_1], .slice A1 l1.length c1, .slice Ao28 t107.length co28] (by rfl) rfl rfl (by (try simp only [List.map_toArray, List.map_cons, List.map_nil]); first | done | rfl | (simp only [List.length_drop, List.length_take]; rfl)) ?_
 with_reducible refine (gf_Field_Mul.calls k a0_0 _ _ l0_1 _ _ l1 _ _ t107 t110 _ ?side1 ?side2 ?side3 ?side4 ?side5 ?side6 A14.out).mono ?_
 (case side1 => exact zC ((Kd.V_reads' HO0_1.out).2.2))
 (case side2 => exact (Kd.V_reads' HO0_1.out).2.1)
 (case side3 => exact zC ((Kd.V_reads' HO1.out).2.2))
 (case side4 => exact (Kd.V_reads' HO1.out).2.1)
 (case side5 => exact zC ((Kd.V_reads' HO109.out).2.2))
 (case side6 => exact (Kd.V_reads' HO109.out).2.1)
 rintro e w29 ⟨v111, rfl, ho0, hb⟩
 refine ⟨_, rfl, ?_⟩
 replace HO0_1 := zVb HO0_1 hb
 replace HO1 := zVb HO1 hb
 replace HO2 := zVb HO2 hb
 replace HO109 := zVb HO109 hb
 have HO112 := Aside0.mk (Kd.V_lower (Kd.V_mono (ok' := fun k_ => ((P0_1_ k_ ∨ P1_ k_ ∨ P2_ k_) ∨ w.heap.size ≤ k_) ∧ some k_ ≠ (.slice Ao19 y102.length co19 : Value).ownBlock ∧ k_ ≠ gb101 ∧ k_ ≠ gb106) ho0 (fun k_ hk_ => ⟨(.inr (Nat.le_trans (zS HB) hk_)), (Kd.fresh' (Kd.N_lt (zN HO104.out)) k_ hk_), (Kd.freshB (zK BK101.out) k_ hk_), (Kd.freshB (zK BK106.out) k_ hk_)⟩)) (zS HB))
 replace HO104 := zNb HO104 hb
 replace BK101 := zKb BK101 hb
 replace BK106 := zKb BK106 hb
 replace HB := zBb HB hb
 (try clear hb)
 (try clear hb2)
 (try clear hk)
 (try clear hi)
 (try clear ho0)
 refine hK.out _ _ ⟨(blk_cell BK106.out 0).trans rfl, (blk_cell BK106.out 1).trans rfl⟩ (fun hHeld => ?_)
 clear hK K
 refine norm_ (a' := ?_) ?_ ?_
 rotate_left
 ·show Act.put _ (some 28) _ = _
  simp only [Act.put, List.setIfInBounds_toArray, List.set_cons_zero, List.set_cons_succ, i64_w, i32_w]
  rfl
 refine zP 6 6 ?_; refine zP 7 7 ?_
 refine done_ (done_of HT_.out (by kernel_rfl)) ?_
 try go_wp2
 go_ret2
 exact ⟨_, zQ, zV (Kd.V_mono HO112.out (fun _ hk => hk.1)), zT⟩
end Go.Proofs.Ytalnaafmonmlmaa.Q
end
section
namespace Go.Proofs.Ytalnaafmonmlmaa.Q
open Go.RowKit Go.Proofs.YtalnaafmonmlmaaW.PrintWords Go.Proofs.YtalnaafmonmlmaaW.PrintLast Go.Proofs.YtalnaafmonmlmaaW.PrintMore
attribute [local go_sem] max2_int min2_int max_two min_two max_three min_three max_four min_four
set_option linter.unusedVariables false
set_option linter.unusedSimpArgs false
set_option maxHeartbeats 8000000
set_option maxRecDepth 100000
def galoisref15_Degree.f (a0_0 : Int) (l0_1 : List Int) : Option (Int) := some (wrap64 ((l0_1.length : Int) - 1))
theorem galoisref15_Degree.calls (a0_0 : Int) (A0_1 : Option Addr) (c0_1 : Nat) (l0_1 : List Int) (r : Int) (w : World) (hr0_1 : Kd.C (Kd.int .i64) w A0_1 l0_1.length l0_1) (hc0_1 : l0_1.length ≤ c0_1) (h : galoisref15_Degree.f a0_0 l0_1 = some r) :
  Calls Try.prog 50 #[.agg #[.int .i64 a0_0, .slice A0_1 l0_1.length c0_1]] w fun e w' => e = .returned (.int .i64 r) ∧ Below w.heap.size w w' := by
 have hu33 := Try.underlying33
 have HR0_1 := Aside0.mk hr0_1
 have HC0_1 := Aside0.mk hc0_1
 clear hr0_1 hc0_1
 have HB := Aside0.mk (Below.refl w.heap.size w)
 have H := h; clear h; unfold galoisref15_Degree.f at H
 obtain rfl := Option.some.inj H
 go_enter Try.func50, Try.ntmps50
 go_wp2_with (first | ((with_reducible refine gate_dst (N := 1) rfl ?_); refine zb 1 #[.int .i64 a0_0, .slice A0_1 l0_1.length c0_1] 33 ?_; intro gb101 hg w2 hbox hb; have BK101 := Aside0.mk (hbox); have GW101 := zg HB hg; have GE101 := GW101; replace HB := zBb HB hb; clear hb hbox hg; have hcz3_0 := zc BK101 0; have hcz3_1 := zc BK101 1; have hfz3_0 := blk_frozen BK101.out 0; have hfz3_1 := blk_frozen BK101.out 1))
 go_ret
 exact ⟨zQ, zT⟩
end Go.Proofs.Ytalnaafmonmlmaa.Q
end
section
namespace Go.Proofs.Ytalnaafmonmlmaa.Q
open Go.RowKit Go.Proofs.YtalnaafmonmlmaaW.PrintWords Go.Proofs.YtalnaafmonmlmaaW.PrintLast Go.Proofs.YtalnaafmonmlmaaW.PrintMore
attribute [local go_sem] max2_int min2_int max_two min_two max_three min_three max_four min_four
set_option linter.unusedVariables false
set_option linter.unusedSimpArgs false
set_option maxHeartbeats 8000000
set_option maxRecDepth 100000
def galoisref15_Size.l0 : Nat → Int → Int → Int → List Int → Option (Int)
 | 0, _, _, _, _ => none
 | k + 1, x3, x4, x102000, x102001 => (galoisref15_Degree.f x102000 x102001).bind fun t102 => (if x4 < t102 then (if x102000 = 0 then (none) else (if x3 > (wrap64 (Int.tdiv (2147483647 : Int) x102000)) then (some 0) else (galoisref15_Size.l0 k (wrap64 (x3 * x102000)) (wrap64 (x4 + 1)) x102000 x102001))) else (some x3))
def galoisref15_Size.f (k : Nat) (a0_0 : Int) (l0_1 : List Int) : Option (Int) := galoisref15_Size.l0 k 1 0 a0_0 l0_1
theorem galoisref15_Size.mono_l : ∀ k, (∀ y0 y1 y2 y3, LeO (galoisref15_Size.l0 k y0 y1 y2 y3) (galoisref15_Size.l0 (k + 1) y0 y1 y2 y3))
 | 0 => fun _ _ _ _ r h => by simp [galoisref15_Size.l0] at h
 | k + 1 => by
  have ih0 := galoisref15_Size.mono_l k
  intro y0 y1 y2 y3
  unfold galoisref15_Size.l0
  with_reducible repeat' first | exact ih0 _ _ _ _ | exact LeO.refl _ | exact LeO.none _ | refine LeO.ite ?_ ?_ | refine LeO.bind ?_ (fun _ => ?_)
theorem galoisref15_Size.mono : ∀ a0 a1 k, LeO (galoisref15_Size.f k a0 a1) (galoisref15_Size.f (k + 1) a0 a1) := by
 intro a0 a1 k
 have ih0 := galoisref15_Size.mono_l k
 unfold galoisref15_Size.f
 with_reducible repeat' first | exact ih0 _ _ _ _ | exact LeO.refl _ | exact LeO.none _ | refine LeO.ite ?_ ?_ | refine LeO.bind ?_ (fun _ => ?_)
theorem galoisref15_Size.calls (k : Nat) (a0_0 : Int) (A0_1 : Option Addr) (c0_1 : Nat) (l0_1 : List Int) (r : Int) (w : World) (hr0_1 : Kd.C (Kd.int .i64) w A0_1 l0_1.length l0_1) (hc0_1 : l0_1.length ≤ c0_1) (h : galoisref15_Size.f k a0_0 l0_1 = some r) :
  Calls Try.prog 15 #[.agg #[.int .i64 a0_0, .slice A0_1 l0_1.length c0_1]] w fun e w' => e = .returned (.int .i64 r) ∧ Below w.heap.size w w' := by
 have hu33 := Try.underlying33
 have HR0_1 := Aside0.mk hr0_1
 have HC0_1 := Aside0.mk hc0_1
 clear hr0_1 hc0_1
 have HB := Aside0.mk (Below.refl w.heap.size w)
 have H := h; clear h; unfold galoisref15_Size.f at H
 have H' := Aside0.mk H
 clear H
 go_enter Try.func15, Try.ntmps15
 go_wp2_with (first | ((with_reducible refine gate_dst (N := 1) rfl ?_); refine zb 1 #[.int .i64 a0_0, .slice A0_1 l0_1.length c0_1] 33 ?_; intro gb101 hg w2 hbox hb; have BK101 := Aside0.mk (hbox); have GW101 := zg HB hg; have GE101 := GW101; replace HB := zBb HB hb; clear hb hbox hg))
 go_loopg [3, 4] k (fun kq v3 v4 w' => ∃ (x3_1 : Int) (x4_1 : Int), v3 = .int .i64 x3_1 ∧ v4 = .int .i64 x4_1 ∧ Aside0 (galoisref15_Size.l0 kq x3_1 x4_1 a0_0 l0_1 = some r) ∧ Aside0 (kq ≤ k) ∧ Aside0 (w'.heap[gb101]? = some (.cells #[.int .i64 a0_0, (.slice A0_1 l0_1.length c0_1)] 33 (0, 0))) ∧ Aside0 (Below w.heap.size w w'))
 case atStart => exact ⟨(1), (0), zX, zX, H', ⟨Nat.le_refl _⟩, ⟨zK BK101.out⟩, ⟨zT⟩⟩
 case round =>
  clear H'
  try clear c1; try clear p2
  obtain ⟨x3_1, x4_1, rfl, rfl, HA, HK1, BK101, HB⟩ := hrel
  cases gk with
  | zero => exact absurd HA.out (by simp [galoisref15_Size.l0])
  | succ k1 =>
   have H := HA.out
   clear HA
   simp only [galoisref15_Size.l0] at H
   obtain ⟨t102, A3, H⟩ := zO H
   by_cases c4 : x4_1 < t102
   rotate_left
   ·rw [if_neg c4] at H
    have c4b0 := decide_eq_false c4; clear c4
    obtain rfl := Option.some.inj H
    have hcz13_0 := zc BK101 0
    have hcz13_1 := zc BK101 1
    have hfz13_0 := blk_frozen BK101.out 0
    have hfz13_1 := blk_frozen BK101.out 1
    go_wp2_with (first | ((with_reducible refine gate_callee (f := 50) rfl ?_); refine zG (some 7) Try.func50 #[.agg #[.int .i64 a0_0, .slice A0_1 l0_1.length c0_1]] ?_; (with_reducible refine (galoisref15_Degree.calls a0_0 _ _ l0_1 t102 _ (zC (Kd.C_below HR0_1.out HB.out)) HC0_1.out A3.out).mono ?_); rintro e w14 ⟨rfl, hb⟩; refine ⟨_, rfl, ?_⟩; replace BK101 := zKb BK101 hb; replace HB := zBb HB hb; (try clear hb)))
    go_ret
    exact ⟨zQ, zT⟩
   rw [if_pos c4] at H
   have c4b0 := decide_eq_true c4; clear c4
   by_cases c5 : a0_0 = 0
   ·rw [if_pos c5] at H
    exact absurd H (by simp)
   rw [if_neg c5] at H
   obtain ⟨c5b0, c5b1⟩ := zU c5
   by_cases c6 : x3_1 > (wrap64 (Int.tdiv (2147483647 : Int) a0_0))
   ·rw [if_pos c6] at H
    have c6b0 := decide_eq_true c6; clear c6
    obtain rfl := Option.some.inj H
    have hcz7_0 := zc BK101 0
    have hcz7_1 := zc BK101 1
    have hfz7_0 := blk_frozen BK101.out 0
    have hfz7_1 := blk_frozen BK101.out 1
    go_wp2_with (first | ((with_reducible refine gate_callee (f := 50) rfl ?_); refine zG (some 7) Try.func50 #[.agg #[.int .i64 a0_0, .slice A0_1 l0_1.length c0_1]] ?_; (with_reducible refine (galoisref15_Degree.calls a0_0 _ _ l0_1 t102 _ (zC (Kd.C_below HR0_1.out HB.out)) HC0_1.out A3.out).mono ?_); rintro e w8 ⟨rfl, hb⟩; refine ⟨_, rfl, ?_⟩; replace BK101 := zKb BK101 hb; replace HB := zBb HB hb; (try clear hb); have hcz9_0 := zc BK101 0; have hcz9_1 := zc BK101 1; have hfz9_0 := blk_frozen BK101.out 0; have hfz9_1 := blk_frozen BK101.out 1))
    go_ret
    exact ⟨zQ, zT⟩
   rw [if_neg c6] at H
   have c6b0 := decide_eq_false c6; clear c6
   have H' := Aside0.mk H
   clear H
   have hcz10_0 := zc BK101 0
   have hcz10_1 := zc BK101 1
   have hfz10_0 := blk_frozen BK101.out 0
   have hfz10_1 := blk_frozen BK101.out 1
   go_wp2_with (first | ((with_reducible refine gate_callee (f := 50) rfl ?_); refine zG (some 7) Try.func50 #[.agg #[.int .i64 a0_0, .slice A0_1 l0_1.length c0_1]] ?_; (with_reducible refine (galoisref15_Degree.calls a0_0 _ _ l0_1 t102 _ (zC (Kd.C_below HR0_1.out HB.out)) HC0_1.out A3.out).mono ?_); rintro e w11 ⟨rfl, hb⟩; refine ⟨_, rfl, ?_⟩; replace BK101 := zKb BK101 hb; replace HB := zBb HB hb; (try clear hb); have hcz12_0 := zc BK101 0; have hcz12_1 := zc BK101 1; have hfz12_0 := blk_frozen BK101.out 0; have hfz12_1 := blk_frozen BK101.out 1))
   go_roundg k1
   case measure => have := HK1.out; omega
   case rel => exact ⟨(wrap64 (x3_1 * a0_0)), (wrap64 (x4_1 + 1)), zX, zX, H', ⟨by have := HK1.out; omega⟩, ⟨zK BK101.out⟩, ⟨zT⟩⟩
end Go.Proofs.Ytalnaafmonmlmaa.Q
end
section
namespace Go.Proofs.Ytalnaafmonmlmaa.Q
open Go.RowKit Go.Proofs.YtalnaafmonmlmaaW.PrintWords Go.Proofs.YtalnaafmonmlmaaW.PrintLast Go.Proofs.YtalnaafmonmlmaaW.PrintMore
attribute [local go_sem] max2_int min2_int max_two min_two max_three min_three max_four min_four
set_option linter.unusedVariables false
set_option linter.unusedSimpArgs false
set_option maxHeartbeats 8000000
set_option maxRecDepth 100000
def galoisref15_Few.f (k : Nat) (a0_0 : Int) (l0_1 : List Int) (a1 : Int) : Option (Bool) := if (l0_1.length : Int) ≤ 17 then ((galoisref15_Check.f k a0_0 l0_1).bind fun t102 => (if t102 = 0 then ((galoisref15_Size.f k a0_0 l0_1).bind fun t103 => (if t103 > 0 then (some (decide (t103 ≤ a1))) else (some false))) else (some false))) else (some false)
theorem galoisref15_Few.mono : ∀ a0 a1 a2 k, LeO (galoisref15_Few.f k a0 a1 a2) (galoisref15_Few.f (k + 1) a0 a1 a2) := by
 intro a0 a1 a2 k
 unfold galoisref15_Few.f
 with_reducible repeat' first | exact galoisref15_Check.mono _ _ _ | exact galoisref15_Size.mono _ _ _ | exact LeO.refl _ | exact LeO.none _ | refine LeO.ite ?_ ?_ | refine LeO.bind ?_ (fun _ => ?_)
theorem galoisref15_Few.calls (k : Nat) (a0_0 : Int) (A0_1 : Option Addr) (c0_1 : Nat) (l0_1 : List Int) (a1 : Int) (r : Bool) (w : World) (hr0_1 : Kd.C (Kd.int .i64) w A0_1 l0_1.length l0_1) (hc0_1 : l0_1.length ≤ c0_1) (h : galoisref15_Few.f k a0_0 l0_1 a1 = some r) :
  Calls Try.prog 14 #[.agg #[.int .i64 a0_0, .slice A0_1 l0_1.length c0_1], .int .i64 a1] w fun e w' => e = .returned (.bool r) ∧ Below w.heap.size w w' := by
 have hu33 := Try.underlying33
 have HR0_1 := Aside0.mk hr0_1
 have HC0_1 := Aside0.mk hc0_1
 clear hr0_1 hc0_1
 have HB := Aside0.mk (Below.refl w.heap.size w)
 have H := h; clear h; unfold galoisref15_Few.f at H
 by_cases c3 : (l0_1.length : Int) ≤ 17
 rotate_left
 ·rw [if_neg c3] at H
  have c3b0 : decide ((l0_1.length : Int) ≤ 17) = false := decide_eq_false c3
  have c3b1 : decide (l0_1.length ≤ 17) = false := decide_eq_false (by omega)
  clear c3
  obtain rfl := Option.some.inj H
  go_enter Try.func14, Try.ntmps14
  go_wp2_with (first | ((with_reducible refine gate_dst (N := 2) rfl ?_); refine zb 2 #[.int .i64 a0_0, .slice A0_1 l0_1.length c0_1] 33 ?_; intro gb101 hg w22 hbox hb; have BK101 := Aside0.mk (hbox); have GW101 := zg HB hg; have GE101 := GW101; replace HB := zBb HB hb; clear hb hbox hg; have hcz23_0 := zc BK101 0; have hcz23_1 := zc BK101 1; have hfz23_0 := blk_frozen BK101.out 0; have hfz23_1 := blk_frozen BK101.out 1))
  go_ret
  exact ⟨zQ, zT⟩
 rw [if_pos c3] at H
 have c3b0 : decide ((l0_1.length : Int) ≤ 17) = true := decide_eq_true c3
 have c3b1 : decide (l0_1.length ≤ 17) = true := decide_eq_true (by omega)
 clear c3
 obtain ⟨t102, A4, H⟩ := zO H
 by_cases c5 : t102 = 0
 rotate_left
 ·rw [if_neg c5] at H
  obtain ⟨c5b0, c5b1⟩ := zU c5
  obtain rfl := Option.some.inj H
  go_enter Try.func14, Try.ntmps14
  go_wp2_with (first | ((with_reducible refine gate_dst (N := 2) rfl ?_); refine zb 2 #[.int .i64 a0_0, .slice A0_1 l0_1.length c0_1] 33 ?_; intro gb101 hg w19 hbox hb; have BK101 := Aside0.mk (hbox); have GW101 := zg HB hg; have GE101 := GW101; replace HB := zBb HB hb; clear hb hbox hg; have hcz20_0 := zc BK101 0; have hcz20_1 := zc BK101 1; have hfz20_0 := blk_frozen BK101.out 0; have hfz20_1 := blk_frozen BK101.out 1) | (go_at_call 24; (with_reducible refine (galoisref15_Check.calls k a0_0 _ _ l0_1 t102 _ (zC (Kd.C_below HR0_1.out HB.out)) HC0_1.out A4.out).mono ?_); rintro e w21 ⟨rfl, hb⟩; replace BK101 := zKb BK101 hb; replace HB := zBb HB hb; (try clear hb)))
  go_ret
  exact ⟨zQ, zT⟩
 rw [if_pos c5] at H
 obtain ⟨c5b0, c5b1⟩ := zE c5; clear c5
 obtain ⟨t103, A6, H⟩ := zO H
 by_cases c7 : t103 > 0
 rotate_left
 ·rw [if_neg c7] at H
  have c7b0 := decide_eq_false c7; clear c7
  obtain rfl := Option.some.inj H
  go_enter Try.func14, Try.ntmps14
  go_wp2_with (first | ((with_reducible refine gate_dst (N := 2) rfl ?_); refine zb 2 #[.int .i64 a0_0, .slice A0_1 l0_1.length c0_1] 33 ?_; intro gb101 hg w14 hbox hb; have BK101 := Aside0.mk (hbox); have GW101 := zg HB hg; have GE101 := GW101; replace HB := zBb HB hb; clear hb hbox hg; have hcz15_0 := zc BK101 0; have hcz15_1 := zc BK101 1; have hfz15_0 := blk_frozen BK101.out 0; have hfz15_1 := blk_frozen BK101.out 1) | (go_at_call 24; (with_reducible refine (galoisref15_Check.calls k a0_0 _ _ l0_1 t102 _ (zC (Kd.C_below HR0_1.out HB.out)) HC0_1.out A4.out).mono ?_); rintro e w16 ⟨rfl, hb⟩; replace BK101 := zKb BK101 hb; replace HB := zBb HB hb; (try clear hb); have hcz17_0 := zc BK101 0; have hcz17_1 := zc BK101 1; have hfz17_0 := blk_frozen BK101.out 0; have hfz17_1 := blk_frozen BK101.out 1) | (go_at_call 15; (with_reducible refine (galoisref15_Size.calls k a0_0 _ _ l0_1 t103 _ (zC (Kd.C_below HR0_1.out HB.out)) HC0_1.out A6.out).mono ?_); rintro e w18 ⟨rfl, hb⟩; replace BK101 := zKb BK101 hb; replace HB := zBb HB hb; (try clear hb)))
  go_ret
  exact ⟨zQ, zT⟩
 rw [if_pos c7] at H
 have c7b0 := decide_eq_true c7; clear c7
 obtain rfl := Option.some.inj H
 go_enter Try.func14, Try.ntmps14
 go_wp2_with (first | ((with_reducible refine gate_dst (N := 2) rfl ?_); refine zb 2 #[.int .i64 a0_0, .slice A0_1 l0_1.length c0_1] 33 ?_; intro gb101 hg w8 hbox hb; have BK101 := Aside0.mk (hbox); have GW101 := zg HB hg; have GE101 := GW101; replace HB := zBb HB hb; clear hb hbox hg; have hcz9_0 := zc BK101 0; have hcz9_1 := zc BK101 1; have hfz9_0 := blk_frozen BK101.out 0; have hfz9_1 := blk_frozen BK101.out 1) | (go_at_call 24; (with_reducible refine (galoisref15_Check.calls k a0_0 _ _ l0_1 t102 _ (zC (Kd.C_below HR0_1.out HB.out)) HC0_1.out A4.out).mono ?_); rintro e w10 ⟨rfl, hb⟩; replace BK101 := zKb BK101 hb; replace HB := zBb HB hb; (try clear hb); have hcz11_0 := zc BK101 0; have hcz11_1 := zc BK101 1; have hfz11_0 := blk_frozen BK101.out 0; have hfz11_1 := blk_frozen BK101.out 1) | (go_at_call 15; (with_reducible refine (galoisref15_Size.calls k a0_0 _ _ l0_1 t103 _ (zC (Kd.C_below HR0_1.out HB.out)) HC0_1.out A6.out).mono ?_); rintro e w12 ⟨rfl, hb⟩; replace BK101 := zKb BK101 hb; replace HB := zBb HB hb; (try clear hb); have hcz13_0 := zc BK101 0; have hcz13_1 := zc BK101 1; have hfz13_0 := blk_frozen BK101.out 0; have hfz13_1 := blk_frozen BK101.out 1))
 go_ret
 exact ⟨zQ, zT⟩
end Go.Proofs.Ytalnaafmonmlmaa.Q
end
section
namespace Go.Proofs.Ytalnaafmonmlmaa.Q
open Go.RowKit Go.Proofs.YtalnaafmonmlmaaW.PrintWords Go.Proofs.YtalnaafmonmlmaaW.PrintLast Go.Proofs.YtalnaafmonmlmaaW.PrintMore
attribute [local go_sem] max2_int min2_int max_two min_two max_three min_three max_four min_four
set_option linter.unusedVariables false
set_option linter.unusedSimpArgs false
set_option maxHeartbeats 8000000
set_option maxRecDepth 100000
def finitefield_Element.f (k : Nat) (a0_0 : Int) (l0_1 : List Int) (a1 : Int) : Option (List Int × Int) := (finitefield_Check.f k a0_0 l0_1).bind fun t102 => (if t102 = 0 then ((finitefield_size.f k a0_0 l0_1 2147483647).bind fun bt103 => (if bt103.2 = 0 then (if a1 < 0 then (some (([] : List Int), 3)) else (if a1 ≥ bt103.1 then (some (([] : List Int), 3)) else ((gf_Field_Element.f k a0_0 l0_1 a1).bind fun t105 => (some (t105, 0))))) else (some (([] : List Int), bt103.2)))) else (some (([] : List Int), t102)))
theorem finitefield_Element.mono : ∀ a0 a1 a2 k, LeO (finitefield_Element.f k a0 a1 a2) (finitefield_Element.f (k + 1) a0 a1 a2) := by
 intro a0 a1 a2 k
 unfold finitefield_Element.f
 with_reducible repeat' first | exact finitefield_Check.mono _ _ _ | exact finitefield_size.mono _ _ _ _ | exact gf_Field_Element.mono _ _ _ _ | exact LeO.refl _ | exact LeO.none _ | refine LeO.ite ?_ ?_ | refine LeO.bind ?_ (fun _ => ?_)
theorem finitefield_Element.calls (k : Nat) (a0_0 : Int) (A0_1 : Option Addr) (c0_1 : Nat) (l0_1 : List Int) (a1 : Int) (r1 : List Int) (r2 : Int) (w : World) (hr0_1 : Kd.C (Kd.int .i64) w A0_1 l0_1.length l0_1) (hc0_1 : l0_1.length ≤ c0_1) (h : finitefield_Element.f k a0_0 l0_1 a1 = some (r1, r2)) :
  Calls Try.prog 16 #[.agg #[.int .i64 a0_0, .slice A0_1 l0_1.length c0_1], .int .i64 a1] w fun e w' => ∃ v0_ : Value, e = .returned (.tuple #[v0_, .int .i64 r2]) ∧ Kd.R (Kd.int .i64) 3 w' w.heap.size (fun _ => True) v0_ r1 ∧ Below w.heap.size w w' := by
 have hu33 := Try.underlying33
 have hu68 := Try.underlying68
 have HR0_1 := Aside0.mk hr0_1
 have HC0_1 := Aside0.mk hc0_1
 clear hr0_1 hc0_1
 have HB := Aside0.mk (Below.refl w.heap.size w)
 have H := h; clear h; unfold finitefield_Element.f at H
 obtain ⟨t102, A3, H⟩ := zO H
 by_cases c4 : t102 = 0
 rotate_left
 ·rw [if_neg c4] at H
  obtain ⟨c4b0, c4b1⟩ := zU c4
  simp only [Option.some.injEq, Prod.mk.injEq] at H
  obtain ⟨rfl, rfl⟩ := H
  go_enter Try.func16, Try.ntmps16
  go_wp2_with (first | ((with_reducible refine gate_dst (N := 2) rfl ?_); refine zb 2 #[.int .i64 a0_0, .slice A0_1 l0_1.length c0_1] 33 ?_; intro gb101 hg w32 hbox hb; have BK101 := Aside0.mk (hbox); have GW101 := zg HB hg; have GE101 := GW101; replace HB := zBb HB hb; clear hb hbox hg; have hcz33_0 := zc BK101 0; have hcz33_1 := zc BK101 1; have hfz33_0 := blk_frozen BK101.out 0; have hfz33_1 := blk_frozen BK101.out 1) | ((with_reducible refine gate_callee (f := 23) rfl ?_); refine zG (some 10) Try.func23 #[.agg #[.int .i64 a0_0, .slice A0_1 l0_1.length c0_1]] ?_; (with_reducible refine (finitefield_Check.calls k a0_0 _ _ l0_1 t102 _ (zC (Kd.C_below HR0_1.out HB.out)) HC0_1.out A3.out).mono ?_); rintro e w34 ⟨rfl, hb⟩; refine ⟨_, rfl, ?_⟩; replace BK101 := zKb BK101 hb; replace HB := zBb HB hb; (try clear hb)))
  go_ret2
  exact ⟨_, zQ, by first | exact Kd.R_nil _ _ _ _ _ | exact Kd.N_nil _ _ _ _ _ | exact Kd.V_nil _ _ _ _ _ | exact Kd.Q_nil _ _ _ _ _ | exact Kd.S_nil _ _ _ _ _, zT⟩
 rw [if_pos c4] at H
 obtain ⟨c4b0, c4b1⟩ := zE c4; clear c4
 obtain ⟨⟨t103, t104⟩, A5, H⟩ := zO H; try dsimp only at H
 by_cases c6 : t104 = 0
 rotate_left
 ·rw [if_neg c6] at H
  obtain ⟨c6b0, c6b1⟩ := zU c6
  simp only [Option.some.injEq, Prod.mk.injEq] at H
  obtain ⟨rfl, rfl⟩ := H
  go_enter Try.func16, Try.ntmps16
  go_wp2_with (first | ((with_reducible refine gate_dst (N := 2) rfl ?_); refine zb 2 #[.int .i64 a0_0, .slice A0_1 l0_1.length c0_1] 33 ?_; intro gb101 hg w27 hbox hb; have BK101 := Aside0.mk (hbox); have GW101 := zg HB hg; have GE101 := GW101; replace HB := zBb HB hb; clear hb hbox hg; have hcz28_0 := zc BK101 0; have hcz28_1 := zc BK101 1; have hfz28_0 := blk_frozen BK101.out 0; have hfz28_1 := blk_frozen BK101.out 1) | ((with_reducible refine gate_callee (f := 23) rfl ?_); refine zG (some 10) Try.func23 #[.agg #[.int .i64 a0_0, .slice A0_1 l0_1.length c0_1]] ?_; (with_reducible refine (finitefield_Check.calls k a0_0 _ _ l0_1 t102 _ (zC (Kd.C_below HR0_1.out HB.out)) HC0_1.out A3.out).mono ?_); rintro e w29 ⟨rfl, hb⟩; refine ⟨_, rfl, ?_⟩; replace BK101 := zKb BK101 hb; replace HB := zBb HB hb; (try clear hb); have hcz30_0 := zc BK101 0; have hcz30_1 := zc BK101 1; have hfz30_0 := blk_frozen BK101.out 0; have hfz30_1 := blk_frozen BK101.out 1) | ((with_reducible refine gate_callee (f := 51) rfl ?_); refine zG (some 16) Try.func51 #[.agg #[.int .i64 a0_0, .slice A0_1 l0_1.length c0_1], .int .i64 2147483647] ?_; (with_reducible refine (finitefield_size.calls k a0_0 _ _ l0_1 2147483647 t103 t104 _ (zC (Kd.C_below HR0_1.out HB.out)) HC0_1.out A5.out).mono ?_); rintro e w31 ⟨rfl, hb⟩; refine ⟨_, rfl, ?_⟩; replace BK101 := zKb BK101 hb; replace HB := zBb HB hb; (try clear hb)))
  go_ret2
  exact ⟨_, zQ, by first | exact Kd.R_nil _ _ _ _ _ | exact Kd.N_nil _ _ _ _ _ | exact Kd.V_nil _ _ _ _ _ | exact Kd.Q_nil _ _ _ _ _ | exact Kd.S_nil _ _ _ _ _, zT⟩
 rw [if_pos c6] at H
 obtain ⟨c6b0, c6b1⟩ := zE c6; clear c6
 by_cases c7 : a1 < 0
 ·rw [if_pos c7] at H
  have c7b0 := decide_eq_true c7; clear c7
  simp only [Option.some.injEq, Prod.mk.injEq] at H
  obtain ⟨rfl, rfl⟩ := H
  go_enter Try.func16, Try.ntmps16
  go_wp2_with (first | ((with_reducible refine gate_dst (N := 2) rfl ?_); refine zb 2 #[.int .i64 a0_0, .slice A0_1 l0_1.length c0_1] 33 ?_; intro gb101 hg w8 hbox hb; have BK101 := Aside0.mk (hbox); have GW101 := zg HB hg; have GE101 := GW101; replace HB := zBb HB hb; clear hb hbox hg; have hcz9_0 := zc BK101 0; have hcz9_1 := zc BK101 1; have hfz9_0 := blk_frozen BK101.out 0; have hfz9_1 := blk_frozen BK101.out 1) | ((with_reducible refine gate_callee (f := 23) rfl ?_); refine zG (some 10) Try.func23 #[.agg #[.int .i64 a0_0, .slice A0_1 l0_1.length c0_1]] ?_; (with_reducible refine (finitefield_Check.calls k a0_0 _ _ l0_1 t102 _ (zC (Kd.C_below HR0_1.out HB.out)) HC0_1.out A3.out).mono ?_); rintro e w10 ⟨rfl, hb⟩; refine ⟨_, rfl, ?_⟩; replace BK101 := zKb BK101 hb; replace HB := zBb HB hb; (try clear hb); have hcz11_0 := zc BK101 0; have hcz11_1 := zc BK101 1; have hfz11_0 := blk_frozen BK101.out 0; have hfz11_1 := blk_frozen BK101.out 1) | ((with_reducible refine gate_callee (f := 51) rfl ?_); refine zG (some 16) Try.func51 #[.agg #[.int .i64 a0_0, .slice A0_1 l0_1.length c0_1], .int .i64 2147483647] ?_; (with_reducible refine (finitefield_size.calls k a0_0 _ _ l0_1 2147483647 t103 t104 _ (zC (Kd.C_below HR0_1.out HB.out)) HC0_1.out A5.out).mono ?_); rintro e w12 ⟨rfl, hb⟩; refine ⟨_, rfl, ?_⟩; replace BK101 := zKb BK101 hb; replace HB := zBb HB hb; (try clear hb)))
  go_ret2
  exact ⟨_, zQ, by first | exact Kd.R_nil _ _ _ _ _ | exact Kd.N_nil _ _ _ _ _ | exact Kd.V_nil _ _ _ _ _ | exact Kd.Q_nil _ _ _ _ _ | exact Kd.S_nil _ _ _ _ _, zT⟩
 rw [if_neg c7] at H
 have c7b0 := decide_eq_false c7; clear c7
 by_cases c13 : a1 ≥ t103
 ·rw [if_pos c13] at H
  have c13b0 := decide_eq_true c13; clear c13
  simp only [Option.some.injEq, Prod.mk.injEq] at H
  obtain ⟨rfl, rfl⟩ := H
  go_enter Try.func16, Try.ntmps16
  go_wp2_with (first | ((with_reducible refine gate_dst (N := 2) rfl ?_); refine zb 2 #[.int .i64 a0_0, .slice A0_1 l0_1.length c0_1] 33 ?_; intro gb101 hg w14 hbox hb; have BK101 := Aside0.mk (hbox); have GW101 := zg HB hg; have GE101 := GW101; replace HB := zBb HB hb; clear hb hbox hg; have hcz15_0 := zc BK101 0; have hcz15_1 := zc BK101 1; have hfz15_0 := blk_frozen BK101.out 0; have hfz15_1 := blk_frozen BK101.out 1) | ((with_reducible refine gate_callee (f := 23) rfl ?_); refine zG (some 10) Try.func23 #[.agg #[.int .i64 a0_0, .slice A0_1 l0_1.length c0_1]] ?_; (with_reducible refine (finitefield_Check.calls k a0_0 _ _ l0_1 t102 _ (zC (Kd.C_below HR0_1.out HB.out)) HC0_1.out A3.out).mono ?_); rintro e w16 ⟨rfl, hb⟩; refine ⟨_, rfl, ?_⟩; replace BK101 := zKb BK101 hb; replace HB := zBb HB hb; (try clear hb); have hcz17_0 := zc BK101 0; have hcz17_1 := zc BK101 1; have hfz17_0 := blk_frozen BK101.out 0; have hfz17_1 := blk_frozen BK101.out 1) | ((with_reducible refine gate_callee (f := 51) rfl ?_); refine zG (some 16) Try.func51 #[.agg #[.int .i64 a0_0, .slice A0_1 l0_1.length c0_1], .int .i64 2147483647] ?_; (with_reducible refine (finitefield_size.calls k a0_0 _ _ l0_1 2147483647 t103 t104 _ (zC (Kd.C_below HR0_1.out HB.out)) HC0_1.out A5.out).mono ?_); rintro e w18 ⟨rfl, hb⟩; refine ⟨_, rfl, ?_⟩; replace BK101 := zKb BK101 hb; replace HB := zBb HB hb; (try clear hb)))
  go_ret2
  exact ⟨_, zQ, by first | exact Kd.R_nil _ _ _ _ _ | exact Kd.N_nil _ _ _ _ _ | exact Kd.V_nil _ _ _ _ _ | exact Kd.Q_nil _ _ _ _ _ | exact Kd.S_nil _ _ _ _ _, zT⟩
 rw [if_neg c13] at H
 have c13b0 := decide_eq_false c13; clear c13
 obtain ⟨t105, A19, H⟩ := zO H
 simp only [Option.some.injEq, Prod.mk.injEq] at H
 obtain ⟨rfl, rfl⟩ := H
 go_enter Try.func16, Try.ntmps16
 go_wp2_with (first | ((with_reducible refine gate_dst (N := 2) rfl ?_); refine zb 2 #[.int .i64 a0_0, .slice A0_1 l0_1.length c0_1] 33 ?_; intro gb101 hg w20 hbox hb; have BK101 := Aside0.mk (hbox); have GW101 := zg HB hg; have GE101 := GW101; replace HB := zBb HB hb; clear hb hbox hg; have hcz21_0 := zc BK101 0; have hcz21_1 := zc BK101 1; have hfz21_0 := blk_frozen BK101.out 0; have hfz21_1 := blk_frozen BK101.out 1) | ((with_reducible refine gate_callee (f := 23) rfl ?_); refine zG (some 10) Try.func23 #[.agg #[.int .i64 a0_0, .slice A0_1 l0_1.length c0_1]] ?_; (with_reducible refine (finitefield_Check.calls k a0_0 _ _ l0_1 t102 _ (zC (Kd.C_below HR0_1.out HB.out)) HC0_1.out A3.out).mono ?_); rintro e w22 ⟨rfl, hb⟩; refine ⟨_, rfl, ?_⟩; replace BK101 := zKb BK101 hb; replace HB := zBb HB hb; (try clear hb); have hcz23_0 := zc BK101 0; have hcz23_1 := zc BK101 1; have hfz23_0 := blk_frozen BK101.out 0; have hfz23_1 := blk_frozen BK101.out 1) | ((with_reducible refine gate_callee (f := 51) rfl ?_); refine zG (some 16) Try.func51 #[.agg #[.int .i64 a0_0, .slice A0_1 l0_1.length c0_1], .int .i64 2147483647] ?_; (with_reducible refine (finitefield_size.calls k a0_0 _ _ l0_1 2147483647 t103 t104 _ (zC (Kd.C_below HR0_1.out HB.out)) HC0_1.out A5.out).mono ?_); rintro e w24 ⟨rfl, hb⟩; refine ⟨_, rfl, ?_⟩; replace BK101 := zKb BK101 hb; replace HB := zBb HB hb; (try clear hb); have hcz25_0 := zc BK101 0; have hcz25_1 := zc BK101 1; have hfz25_0 := blk_frozen BK101.out 0; have hfz25_1 := blk_frozen BK101.out 1) | ((with_reducible refine gate_callee (f := 52) rfl ?_); refine zG (some 32) Try.func52 #[.agg #[.int .i64 a0_0, .slice A0_1 l0_1.length c0_1], .int .i64 a1] ?_; (with_reducible refine (gf_Field_Element.calls k a0_0 _ _ l0_1 a1 t105 _ (zC (Kd.C_below HR0_1.out HB.out)) HC0_1.out A19.out).mono ?_); rintro e w26 ⟨v106, rfl, ho0, hb⟩; refine ⟨_, rfl, ?_⟩; have HO107 := Aside0.mk (Kd.R_lower ho0 (zS HB)); replace BK101 := zKb BK101 hb; replace HB := zBb HB hb; (try clear hb); (try clear ho0)))
 go_ret2
 exact ⟨_, zQ, zR HO107.out, zT⟩
end Go.Proofs.Ytalnaafmonmlmaa.Q
end

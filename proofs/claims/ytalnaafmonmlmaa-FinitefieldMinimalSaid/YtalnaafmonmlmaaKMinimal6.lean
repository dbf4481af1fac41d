/- Machine side and arithmetic of the law, put together by a program of the session. No conditions. -/
import Derived.Test.YtalnaafmonmlmaaKMinimal5
section
namespace Go.Proofs.Ytalnaafmonmlmaa.Q
open Go.RowKit Go.Proofs.YtalnaafmonmlmaaW.PrintWords Go.Proofs.YtalnaafmonmlmaaW.PrintLast Go.Proofs.YtalnaafmonmlmaaW.PrintMore
attribute [local go_sem] max2_int min2_int max_two min_two max_three min_three max_four min_four
set_option linter.unusedVariables false
set_option linter.unusedSimpArgs false
set_option maxHeartbeats 8000000
set_option maxRecDepth 100000
def gFSize.l0 : Nat → Int → Int → Int → Int → List Int → Option (Int × Bool)
 | 0, _, _, _, _, _ => none
 | k + 1, x4, x6, x7, x102000, x102001 => if x7 < x6 then (if (wrap64 (x4 * x102000)) > 2147483647 then (some (0, false)) else (gFSize.l0 k (wrap64 (x4 * x102000)) x6 (wrap64 (x7 + 1)) x102000 x102001)) else (some (x4, true))
def gFSize.f (k : Nat) (a0_0 : Int) (l0_1 : List Int) : Option (Int × Bool) := (gFDegree.f a0_0 l0_1).bind fun t102 => (gFSize.l0 k 1 t102 0 a0_0 l0_1)
theorem gFSize.mono_l : ∀ k, (∀ y0 y1 y2 y3 y4, LeO (gFSize.l0 k y0 y1 y2 y3 y4) (gFSize.l0 (k + 1) y0 y1 y2 y3 y4))
 | 0 => fun _ _ _ _ _ r h => by simp [gFSize.l0] at h
 | k + 1 => by
  have ih0 := gFSize.mono_l k
  intro y0 y1 y2 y3 y4
  unfold gFSize.l0
  with_reducible repeat' first | exact ih0 _ _ _ _ _ | exact LeO.refl _ | exact LeO.none _ | refine LeO.ite ?_ ?_ | refine LeO.bind ?_ (fun _ => ?_)
theorem gFSize.mono : ∀ a0 a1 k, LeO (gFSize.f k a0 a1) (gFSize.f (k + 1) a0 a1) := by
 intro a0 a1 k
 have ih0 := gFSize.mono_l k
 unfold gFSize.f
 with_reducible repeat' first | exact ih0 _ _ _ _ _ | exact LeO.refl _ | exact LeO.none _ | refine LeO.ite ?_ ?_ | refine LeO.bind ?_ (fun _ => ?_)
theorem gFSize.calls (k : Nat) (a0_0 : Int) (A0_1 : Option Addr) (c0_1 : Nat) (l0_1 : List Int) (r1 : Int) (r2 : Bool) (w : World) (hr0_1 : Kd.C (Kd.int .i64) w A0_1 l0_1.length l0_1) (hc0_1 : l0_1.length ≤ c0_1) (h : gFSize.f k a0_0 l0_1 = some (r1, r2)) :
  Calls Try.prog 90 #[.agg #[.int .i64 a0_0, .slice A0_1 l0_1.length c0_1]] w fun e w' => e = .returned (.tuple #[.int .i64 r1, .bool r2]) ∧ Below w.heap.size w w' := by
 have hu68 := Try.underlying68
 have HR0_1 := zm hr0_1
 have HC0_1 := zm hc0_1
 clear hr0_1 hc0_1
 have HB := zm (Below.refl w.heap.size w)
 have H := h; clear h; unfold gFSize.f at H
 obtain ⟨t102, A2, H⟩ := zO H
 have H' := zm H
 clear H
 go_enter Try.func90, Try.ntmps90
 go_wp2_with (first | ((with_reducible refine gate_dst (N := 1) rfl ?_); refine zb 1 #[.int .i64 a0_0, .slice A0_1 l0_1.length c0_1] 68 ?_; intro gb101 hg w3 hbox hb; have BK101 := zm (hbox); have GW101 := zg HB hg; have GE101 := GW101; replace HB := zBb HB hb; clear hb hbox hg; obtain ⟨hcz4_0, hcz4_1, hfz4_0, hfz4_1⟩ := zf2 BK101) | ((with_reducible refine gate_callee (f := 110) rfl ?_); refine zG (some 6) Try.func110 #[.agg #[.int .i64 a0_0, .slice A0_1 l0_1.length c0_1]] ?_; (with_reducible refine (gFDegree.calls a0_0 _ _ l0_1 t102 _ (zC (Kd.C_below HR0_1.out HB.out)) HC0_1.out A2.out).mono ?_); rintro e w5 ⟨rfl, hb⟩; refine ⟨_, rfl, ?_⟩; replace BK101 := zKb BK101 hb; replace HB := zBb HB hb))
 go_loopg [4, 7] k (fun kq v4 v7 w' => ∃ (x4_1 : Int) (x7_1 : Int), v4 = .int .i64 x4_1 ∧ v7 = .int .i64 x7_1 ∧ Aside0 (gFSize.l0 kq x4_1 t102 x7_1 a0_0 l0_1 = some (r1, r2)) ∧ Aside0 (kq ≤ k) ∧ Aside0 (w'.heap[gb101]? = some (.cells #[.int .i64 a0_0, (.slice A0_1 l0_1.length c0_1)] 68 (0, 0))) ∧ Aside0 (Below w.heap.size w w'))
 case atStart => exact ⟨(1), (0), zX, zX, H', ⟨Nat.le_refl _⟩, ⟨zK BK101.out⟩, ⟨zT⟩⟩
 case round =>
  clear H'
  obtain ⟨x4_1, x7_1, rfl, rfl, HA, HK1, BK101, HB⟩ := hrel
  cases gk with
  | zero => exact absurd HA.out (by simp [gFSize.l0])
  | succ k1 =>
   have H := HA.out
   clear HA
   simp only [gFSize.l0] at H
   by_cases c6 : x7_1 < t102
   rotate_left
   ·rw [if_neg c6] at H
    have c6b0 := decide_eq_false c6; clear c6
    simp only [Option.some.injEq, Prod.mk.injEq] at H
    obtain ⟨rfl, rfl⟩ := H
    go_wp2
    go_ret2
    exact ⟨zQ, zT⟩
   rw [if_pos c6] at H
   have c6b0 := decide_eq_true c6; clear c6
   by_cases c7 : (wrap64 (x4_1 * a0_0)) > 2147483647
   ·rw [if_pos c7] at H
    have c7b0 := decide_eq_true c7; clear c7
    simp only [Option.some.injEq, Prod.mk.injEq] at H
    obtain ⟨rfl, rfl⟩ := H
    obtain ⟨hcz8_0, hcz8_1, hfz8_0, hfz8_1⟩ := zf2 BK101
    go_wp2
    go_ret2
    exact ⟨zQ, zT⟩
   rw [if_neg c7] at H
   have c7b0 := decide_eq_false c7; clear c7
   have H' := zm H
   clear H
   obtain ⟨hcz9_0, hcz9_1, hfz9_0, hfz9_1⟩ := zf2 BK101
   go_wp2
   go_roundg k1
   case measure => have := HK1.out; omega
   case rel => exact ⟨(wrap64 (x4_1 * a0_0)), (wrap64 (x7_1 + 1)), zX, zX, H', ⟨by have := HK1.out; omega⟩, ⟨zK BK101.out⟩, ⟨zT⟩⟩
def fi_size.f (k : Nat) (a0_0 : Int) (l0_1 : List Int) (a1 : Int) : Option (Int × Int) := (gFSize.f k a0_0 l0_1).bind fun bt102 => (if bt102.2 = true then (if bt102.1 > a1 then (some (0, 5)) else (some (bt102.1, 0))) else (some (0, 5)))
theorem fi_size.mono : ∀ a0 a1 a2 k, LeO (fi_size.f k a0 a1 a2) (fi_size.f (k + 1) a0 a1 a2) := by
 intro a0 a1 a2 k
 unfold fi_size.f
 with_reducible repeat' first | exact gFSize.mono _ _ _ | exact LeO.refl _ | exact LeO.none _ | refine LeO.ite ?_ ?_ | refine LeO.bind ?_ (fun _ => ?_)
theorem fi_size.calls (k : Nat) (a0_0 : Int) (A0_1 : Option Addr) (c0_1 : Nat) (l0_1 : List Int) (a1 : Int) (r1 : Int) (r2 : Int) (w : World) (hr0_1 : Kd.C (Kd.int .i64) w A0_1 l0_1.length l0_1) (hc0_1 : l0_1.length ≤ c0_1) (h : fi_size.f k a0_0 l0_1 a1 = some (r1, r2)) :
  Calls Try.prog 51 #[.agg #[.int .i64 a0_0, .slice A0_1 l0_1.length c0_1], .int .i64 a1] w fun e w' => e = .returned (.tuple #[.int .i64 r1, .int .i64 r2]) ∧ Below w.heap.size w w' := by
 have hu33 := Try.underlying33
 have hu68 := Try.underlying68
 have HR0_1 := zm hr0_1
 have HC0_1 := zm hc0_1
 clear hr0_1 hc0_1
 have HB := zm (Below.refl w.heap.size w)
 have H := h; clear h; unfold fi_size.f at H
 obtain ⟨⟨t102, t103⟩, A3, H⟩ := zO H; try dsimp only at H
 by_cases c4 : t103 = true
 rotate_left
 ·replace c4 := Bool.eq_false_iff.mpr c4
  subst c4
  rw [if_neg Bool.false_ne_true] at H
  simp only [Option.some.injEq, Prod.mk.injEq] at H
  obtain ⟨rfl, rfl⟩ := H
  go_enter Try.func51, Try.ntmps51
  go_wp2_with (first | ((with_reducible refine gate_dst (N := 2) rfl ?_); refine zb 2 #[.int .i64 a0_0, .slice A0_1 l0_1.length c0_1] 33 ?_; intro gb101 hg w12 hbox hb; have BK101 := zm (hbox); have GW101 := zg HB hg; have GE101 := GW101; replace HB := zBb HB hb; clear hb hbox hg; obtain ⟨hcz13_0, hcz13_1, hfz13_0, hfz13_1⟩ := zf2 BK101) | ((with_reducible refine gate_callee (f := 90) rfl ?_); refine zG (some 11) Try.func90 #[.agg #[.int .i64 a0_0, .slice A0_1 l0_1.length c0_1]] ?_; (with_reducible refine (gFSize.calls k a0_0 _ _ l0_1 t102 false _ (zC (Kd.C_below HR0_1.out HB.out)) HC0_1.out A3.out).mono ?_); rintro e w14 ⟨rfl, hb⟩; refine ⟨_, rfl, ?_⟩; replace BK101 := zKb BK101 hb; replace HB := zBb HB hb))
  go_ret2
  exact ⟨zQ, zT⟩
 subst c4
 rw [if_pos rfl] at H
 by_cases c5 : t102 > a1
 ·rw [if_pos c5] at H
  have c5b0 := decide_eq_true c5; clear c5
  simp only [Option.some.injEq, Prod.mk.injEq] at H
  obtain ⟨rfl, rfl⟩ := H
  go_enter Try.func51, Try.ntmps51
  go_wp2_with (first | ((with_reducible refine gate_dst (N := 2) rfl ?_); refine zb 2 #[.int .i64 a0_0, .slice A0_1 l0_1.length c0_1] 33 ?_; intro gb101 hg w6 hbox hb; have BK101 := zm (hbox); have GW101 := zg HB hg; have GE101 := GW101; replace HB := zBb HB hb; clear hb hbox hg; obtain ⟨hcz7_0, hcz7_1, hfz7_0, hfz7_1⟩ := zf2 BK101) | ((with_reducible refine gate_callee (f := 90) rfl ?_); refine zG (some 11) Try.func90 #[.agg #[.int .i64 a0_0, .slice A0_1 l0_1.length c0_1]] ?_; (with_reducible refine (gFSize.calls k a0_0 _ _ l0_1 t102 true _ (zC (Kd.C_below HR0_1.out HB.out)) HC0_1.out A3.out).mono ?_); rintro e w8 ⟨rfl, hb⟩; refine ⟨_, rfl, ?_⟩; replace BK101 := zKb BK101 hb; replace HB := zBb HB hb))
  go_ret2
  exact ⟨zQ, zT⟩
 rw [if_neg c5] at H
 have c5b0 := decide_eq_false c5; clear c5
 simp only [Option.some.injEq, Prod.mk.injEq] at H
 obtain ⟨rfl, rfl⟩ := H
 go_enter Try.func51, Try.ntmps51
 go_wp2_with (first | ((with_reducible refine gate_dst (N := 2) rfl ?_); refine zb 2 #[.int .i64 a0_0, .slice A0_1 l0_1.length c0_1] 33 ?_; intro gb101 hg w9 hbox hb; have BK101 := zm (hbox); have GW101 := zg HB hg; have GE101 := GW101; replace HB := zBb HB hb; clear hb hbox hg; obtain ⟨hcz10_0, hcz10_1, hfz10_0, hfz10_1⟩ := zf2 BK101) | ((with_reducible refine gate_callee (f := 90) rfl ?_); refine zG (some 11) Try.func90 #[.agg #[.int .i64 a0_0, .slice A0_1 l0_1.length c0_1]] ?_; (with_reducible refine (gFSize.calls k a0_0 _ _ l0_1 t102 true _ (zC (Kd.C_below HR0_1.out HB.out)) HC0_1.out A3.out).mono ?_); rintro e w11 ⟨rfl, hb⟩; refine ⟨_, rfl, ?_⟩; replace BK101 := zKb BK101 hb; replace HB := zBb HB hb))
 go_ret2
 exact ⟨zQ, zT⟩
def fi_Check.j0 : Nat → Bool → Int → List Int → Option (Int)
 | 0, _, _, _ => none
 | k + 1, x20, x102000, x102001 => if x20 = true then (some 1) else ((fp_Irreducible.f k x102000 x102001).bind fun t104 => (if t104 = true then (some 0) else (some 8)))
def fi_Check.f (k : Nat) (a0_0 : Int) (l0_1 : List Int) : Option (Int) := (pm_Check.f k a0_0 l0_1).bind fun t102 => (if t102 = 0 then (if (wrap64 ((l0_1.length : Int) - 1)) > 16 then (some 4) else (if (wrap64 ((l0_1.length : Int) - 1)) < 1 then (fi_Check.j0 k true a0_0 l0_1) else (if 0 ≤ (wrap64 ((l0_1.length : Int) - 1)) then (if (wrap64 ((l0_1.length : Int) - 1)) < (l0_1.length : Int) then (fi_Check.j0 k ((rd l0_1 (wrap64 ((l0_1.length : Int) - 1))) != 1) a0_0 l0_1) else (none)) else (none)))) else (some t102))
theorem fi_Check.mono_l : ∀ k, (∀ y0 y1 y2, LeO (fi_Check.j0 k y0 y1 y2) (fi_Check.j0 (k + 1) y0 y1 y2))
 | 0 => fun _ _ _ r h => by simp [fi_Check.j0] at h
 | k + 1 => by
  have ih0 := fi_Check.mono_l k
  intro y0 y1 y2
  unfold fi_Check.j0
  with_reducible repeat' first | exact ih0 _ _ _ | exact fp_Irreducible.mono _ _ _ | exact pm_Check.mono _ _ _ | exact LeO.refl _ | exact LeO.none _ | refine LeO.ite ?_ ?_ | refine LeO.bind ?_ (fun _ => ?_)
theorem fi_Check.mono : ∀ a0 a1 k, LeO (fi_Check.f k a0 a1) (fi_Check.f (k + 1) a0 a1) := by
 intro a0 a1 k
 have ih0 := fi_Check.mono_l k
 unfold fi_Check.f
 with_reducible repeat' first | exact ih0 _ _ _ | exact fp_Irreducible.mono _ _ _ | exact pm_Check.mono _ _ _ | exact LeO.refl _ | exact LeO.none _ | refine LeO.ite ?_ ?_ | refine LeO.bind ?_ (fun _ => ?_)
theorem fi_Check.calls (k : Nat) (a0_0 : Int) (A0_1 : Option Addr) (c0_1 : Nat) (l0_1 : List Int) (r : Int) (w : World) (hr0_1 : Kd.C (Kd.int .i64) w A0_1 l0_1.length l0_1) (hc0_1 : l0_1.length ≤ c0_1) (h : fi_Check.f k a0_0 l0_1 = some r) :
  Calls Try.prog 23 #[.agg #[.int .i64 a0_0, .slice A0_1 l0_1.length c0_1]] w fun e w' => e = .returned (.int .i64 r) ∧ Below w.heap.size w w' := by
 have hu33 := Try.underlying33
 have HR0_1 := zm hr0_1
 have HC0_1 := zm hc0_1
 clear hr0_1 hc0_1
 have HB := zm (Below.refl w.heap.size w)
 have H := h; clear h; unfold fi_Check.f at H
 obtain ⟨t102, A2, H⟩ := zO H
 by_cases c3 : t102 = 0
 rotate_left
 ·rw [if_neg c3] at H
  obtain ⟨c3b0, c3b1⟩ := zU c3
  obtain rfl := Option.some.inj H
  go_enter Try.func23, Try.ntmps23
  go_wp2_with (first | ((with_reducible refine gate_dst (N := 1) rfl ?_); refine zb 1 #[.int .i64 a0_0, .slice A0_1 l0_1.length c0_1] 33 ?_; intro gb101 hg w26 hbox hb; have BK101 := zm (hbox); have GW101 := zg HB hg; have GE101 := GW101; replace HB := zBb HB hb; clear hb hbox hg; obtain ⟨hcz27_0, hcz27_1, hfz27_0, hfz27_1⟩ := zf2 BK101) | ((with_reducible refine gate_callee (f := 45) rfl ?_); refine zG (some 9) Try.func45 #[.int .i64 a0_0, .slice A0_1 l0_1.length c0_1] ?_; (with_reducible refine (pm_Check.calls k a0_0 _ _ l0_1 t102 _ (zC (Kd.C_below HR0_1.out HB.out)) HC0_1.out A2.out).mono ?_); rintro e w28 ⟨rfl, hb⟩; refine ⟨_, rfl, ?_⟩; replace BK101 := zKb BK101 hb; replace HB := zBb HB hb))
  go_ret
  exact ⟨zQ, zT⟩
 rw [if_pos c3] at H
 obtain ⟨c3b0, c3b1⟩ := zE c3; clear c3
 by_cases c4 : (wrap64 ((l0_1.length : Int) - 1)) > 16
 ·rw [if_pos c4] at H
  have c4b0 := decide_eq_true c4; clear c4
  obtain rfl := Option.some.inj H
  go_enter Try.func23, Try.ntmps23
  go_wp2_with (first | ((with_reducible refine gate_dst (N := 1) rfl ?_); refine zb 1 #[.int .i64 a0_0, .slice A0_1 l0_1.length c0_1] 33 ?_; intro gb101 hg w5 hbox hb; have BK101 := zm (hbox); have GW101 := zg HB hg; have GE101 := GW101; replace HB := zBb HB hb; clear hb hbox hg; obtain ⟨hcz6_0, hcz6_1, hfz6_0, hfz6_1⟩ := zf2 BK101) | ((with_reducible refine gate_callee (f := 45) rfl ?_); refine zG (some 9) Try.func45 #[.int .i64 a0_0, .slice A0_1 l0_1.length c0_1] ?_; (with_reducible refine (pm_Check.calls k a0_0 _ _ l0_1 t102 _ (zC (Kd.C_below HR0_1.out HB.out)) HC0_1.out A2.out).mono ?_); rintro e w7 ⟨rfl, hb⟩; refine ⟨_, rfl, ?_⟩; replace BK101 := zKb BK101 hb; replace HB := zBb HB hb; obtain ⟨hcz8_0, hcz8_1, hfz8_0, hfz8_1⟩ := zf2 BK101))
  go_ret
  exact ⟨zQ, zT⟩
 rw [if_neg c4] at H
 have c4b0 := decide_eq_false c4; clear c4
 have HC9 := zm H
 clear H
 go_enter Try.func23, Try.ntmps23
 go_upto_region 7 with (first | ((with_reducible refine gate_dst (N := 1) rfl ?_); refine zb 1 #[.int .i64 a0_0, .slice A0_1 l0_1.length c0_1] 33 ?_; intro gb101 hg w10 hbox hb; have BK101 := zm (hbox); have GW101 := zg HB hg; have GE101 := GW101; replace HB := zBb HB hb; clear hb hbox hg; obtain ⟨hcz11_0, hcz11_1, hfz11_0, hfz11_1⟩ := zf2 BK101) | ((with_reducible refine gate_callee (f := 45) rfl ?_); refine zG (some 9) Try.func45 #[.int .i64 a0_0, .slice A0_1 l0_1.length c0_1] ?_; (with_reducible refine (pm_Check.calls k a0_0 _ _ l0_1 t102 _ (zC (Kd.C_below HR0_1.out HB.out)) HC0_1.out A2.out).mono ?_); rintro e w12 ⟨rfl, hb⟩; refine ⟨_, rfl, ?_⟩; replace BK101 := zKb BK101 hb; replace HB := zBb HB hb; obtain ⟨hcz13_0, hcz13_1, hfz13_0, hfz13_1⟩ := zf2 BK101))
 (try simp only [Act.put, List.setIfInBounds_toArray, List.set_cons_zero, List.set_cons_succ])
 go_cut [20] (fun v20 wc => ∃ (kq : Nat) (x20_8 : Bool), v20 = .bool x20_8 ∧ Aside0 (fi_Check.j0 kq x20_8 a0_0 l0_1 = some r) ∧ Aside0 (kq ≤ k) ∧ Aside0 (wc.heap[gb101]? = some (.cells #[.int .i64 a0_0, (.slice A0_1 l0_1.length c0_1)] 33 (0, 0))) ∧ Aside0 (Below w.heap.size w wc))
 case first =>
  have H := HC9.out
  clear HC9
  by_cases c14 : (wrap64 ((l0_1.length : Int) - 1)) < 1
  ·rw [if_pos c14] at H
   have c14b0 := decide_eq_true c14; clear c14
   (first | rw [c14b0] | (simp only [i64_w, i32_w]; rw [c14b0]) | skip)
   have H' := zm H
   clear H
   go_wp2
   go_meet
   case rel => exact ⟨_, (true), zX, H', ⟨by first | omega | exact Nat.le_refl _⟩, ⟨zK BK101.out⟩, ⟨zT⟩⟩
  rw [if_neg c14] at H
  have c14b0 := decide_eq_false c14; clear c14
  (first | rw [c14b0] | (simp only [i64_w, i32_w]; rw [c14b0]) | skip)
  obtain ⟨ji15, hji15⟩ : ∃ j_ : Int, (wrap64 ((l0_1.length : Int) - 1)) = j_ := ⟨_, rfl⟩
  first | rw [hji15] at H | simp only [hji15] at H
  (try rw [hji15] at c4b0)
  (try rw [hji15] at c14b0)
  have hji15w : (IntKind.i64.wrap ((l0_1.length : Int) - 1)) = ji15 := (i64_w _).trans hji15
  by_cases c16 : 0 ≤ (ji15)
  rotate_left
  ·rw [if_neg c16] at H
   exact absurd H (by simp)
  rw [if_pos c16] at H
  have c16b0 := decide_eq_true c16; clear c16
  by_cases c17 : (ji15) < (l0_1.length : Int)
  rotate_left
  ·rw [if_neg c17] at H
   exact absurd H (by simp)
  rw [if_pos c17] at H
  have c17b0 := decide_eq_true c17; clear c17
  have H' := zm H
  clear H
  obtain ⟨hcz18_0, hcz18_1, hfz18_0, hfz18_1⟩ := zf2 BK101
  obtain ⟨p103, q103, ad103, e103, hx103_0⟩ := zI (HR0_1.out) ((ji15)) zD zD
  cases e103
  replace hx103_0 := (HB.out.cell (World.block_lt_of_cell? w _ hx103_0)).trans hx103_0
  go_wp2
  go_meet
  case rel => exact ⟨_, (((rd l0_1 (ji15)) != 1)), (by first | rfl | (simp; done) | (simp only [← hji15] <;> (first | rfl | simp)) | (simp [*]; done)), H', ⟨by first | omega | exact Nat.le_refl _⟩, ⟨zK BK101.out⟩, ⟨zT⟩⟩
 case rest =>
  clear HC9
  obtain ⟨kq, x20_8, rfl, HA, HJ8, BK101, HB⟩ := hcut
  cases kq with
  | zero => exact absurd HA.out (by simp [fi_Check.j0])
  | succ kj8 =>
   have H := HA.out
   clear HA
   simp only [fi_Check.j0] at H
   by_cases c19 : x20_8 = true
   ·subst c19
    rw [if_pos rfl] at H
    obtain rfl := Option.some.inj H
    go_wp2
    go_ret
    exact ⟨zQ, zT⟩
   replace c19 := Bool.eq_false_iff.mpr c19
   subst c19
   rw [if_neg Bool.false_ne_true] at H
   obtain ⟨t104, A20, H⟩ := zO H
   by_cases c21 : t104 = true
   ·subst c21
    rw [if_pos rfl] at H
    obtain rfl := Option.some.inj H
    obtain ⟨hcz22_0, hcz22_1, hfz22_0, hfz22_1⟩ := zf2 BK101
    go_wp2_with (first | ((with_reducible refine gate_callee (f := 46) rfl ?_); refine zG (some 36) Try.func46 #[.int .i64 a0_0, .slice A0_1 l0_1.length c0_1] ?_; (with_reducible refine (fp_Irreducible.calls kj8 a0_0 _ _ l0_1 true _ (zC (Kd.C_below HR0_1.out HB.out)) HC0_1.out A20.out).mono ?_); rintro e w23 ⟨rfl, hb⟩; refine ⟨_, rfl, ?_⟩; replace BK101 := zKb BK101 hb; replace HB := zBb HB hb))
    go_ret
    exact ⟨zQ, zT⟩
   replace c21 := Bool.eq_false_iff.mpr c21
   subst c21
   rw [if_neg Bool.false_ne_true] at H
   obtain rfl := Option.some.inj H
   obtain ⟨hcz24_0, hcz24_1, hfz24_0, hfz24_1⟩ := zf2 BK101
   go_wp2_with (first | ((with_reducible refine gate_callee (f := 46) rfl ?_); refine zG (some 36) Try.func46 #[.int .i64 a0_0, .slice A0_1 l0_1.length c0_1] ?_; (with_reducible refine (fp_Irreducible.calls kj8 a0_0 _ _ l0_1 false _ (zC (Kd.C_below HR0_1.out HB.out)) HC0_1.out A20.out).mono ?_); rintro e w25 ⟨rfl, hb⟩; refine ⟨_, rfl, ?_⟩; replace BK101 := zKb BK101 hb; replace HB := zBb HB hb))
   go_ret
   exact ⟨zQ, zT⟩
def fi_element.f (k : Nat) (a0_0 : Int) (l0_1 : List Int) (l1 : List Int) : Option (Int) := (pm_Check.f k a0_0 l1).bind fun t102 => (if t102 = 0 then (if (l1.length : Int) ≥ (l0_1.length : Int) then (some 3) else (some 0)) else (some t102))
theorem fi_element.mono : ∀ a0 a1 a2 k, LeO (fi_element.f k a0 a1 a2) (fi_element.f (k + 1) a0 a1 a2) := by
 intro a0 a1 a2 k
 unfold fi_element.f
 with_reducible repeat' first | exact pm_Check.mono _ _ _ | exact LeO.refl _ | exact LeO.none _ | refine LeO.ite ?_ ?_ | refine LeO.bind ?_ (fun _ => ?_)
theorem fi_element.calls (k : Nat) (a0_0 : Int) (A0_1 : Option Addr) (c0_1 : Nat) (l0_1 : List Int) (A1 : Option Addr) (c1 : Nat) (l1 : List Int) (r : Int) (w : World) (hr0_1 : Kd.C (Kd.int .i64) w A0_1 l0_1.length l0_1) (hc0_1 : l0_1.length ≤ c0_1) (hr1 : Kd.C (Kd.int .i64) w A1 l1.length l1) (hc1 : l1.length ≤ c1) (h : fi_element.f k a0_0 l0_1 l1 = some r) :
  Calls Try.prog 91 #[.agg #[.int .i64 a0_0, .slice A0_1 l0_1.length c0_1], .slice A1 l1.length c1] w fun e w' => e = .returned (.int .i64 r) ∧ Below w.heap.size w w' := by
 have hu33 := Try.underlying33
 have HR0_1 := zm hr0_1
 have HC0_1 := zm hc0_1
 clear hr0_1 hc0_1
 have HR1 := zm hr1
 have HC1 := zm hc1
 clear hr1 hc1
 have HB := zm (Below.refl w.heap.size w)
 have H := h; clear h; unfold fi_element.f at H
 obtain ⟨t102, A3, H⟩ := zO H
 by_cases c4 : t102 = 0
 rotate_left
 ·rw [if_neg c4] at H
  obtain ⟨c4b0, c4b1⟩ := zU c4
  obtain rfl := Option.some.inj H
  go_enter Try.func91, Try.ntmps91
  go_wp2_with (first | ((with_reducible refine gate_dst (N := 2) rfl ?_); refine zb 2 #[.int .i64 a0_0, .slice A0_1 l0_1.length c0_1] 33 ?_; intro gb101 hg w14 hbox hb; have BK101 := zm (hbox); have GW101 := zg HB hg; have GE101 := GW101; replace HB := zBb HB hb; clear hb hbox hg; obtain ⟨hcz15_0, hcz15_1, hfz15_0, hfz15_1⟩ := zf2 BK101) | ((with_reducible refine gate_callee (f := 45) rfl ?_); refine zG (some 9) Try.func45 #[.int .i64 a0_0, .slice A1 l1.length c1] ?_; (with_reducible refine (pm_Check.calls k a0_0 _ _ l1 t102 _ (zC (Kd.C_below HR1.out HB.out)) HC1.out A3.out).mono ?_); rintro e w16 ⟨rfl, hb⟩; refine ⟨_, rfl, ?_⟩; replace BK101 := zKb BK101 hb; replace HB := zBb HB hb))
  go_ret
  exact ⟨zQ, zT⟩
 rw [if_pos c4] at H
 obtain ⟨c4b0, c4b1⟩ := zE c4; clear c4
 by_cases c5 : (l1.length : Int) ≥ (l0_1.length : Int)
 ·rw [if_pos c5] at H
  have c5b0 : decide ((l0_1.length : Int) ≤ (l1.length : Int)) = true := decide_eq_true c5
  have c5b1 : decide (l0_1.length ≤ l1.length) = true := decide_eq_true (Int.ofNat_le.mp c5)
  clear c5
  obtain rfl := Option.some.inj H
  go_enter Try.func91, Try.ntmps91
  go_wp2_with (first | ((with_reducible refine gate_dst (N := 2) rfl ?_); refine zb 2 #[.int .i64 a0_0, .slice A0_1 l0_1.length c0_1] 33 ?_; intro gb101 hg w6 hbox hb; have BK101 := zm (hbox); have GW101 := zg HB hg; have GE101 := GW101; replace HB := zBb HB hb; clear hb hbox hg; obtain ⟨hcz7_0, hcz7_1, hfz7_0, hfz7_1⟩ := zf2 BK101) | ((with_reducible refine gate_callee (f := 45) rfl ?_); refine zG (some 9) Try.func45 #[.int .i64 a0_0, .slice A1 l1.length c1] ?_; (with_reducible refine (pm_Check.calls k a0_0 _ _ l1 t102 _ (zC (Kd.C_below HR1.out HB.out)) HC1.out A3.out).mono ?_); rintro e w8 ⟨rfl, hb⟩; refine ⟨_, rfl, ?_⟩; replace BK101 := zKb BK101 hb; replace HB := zBb HB hb; obtain ⟨hcz9_0, hcz9_1, hfz9_0, hfz9_1⟩ := zf2 BK101))
  go_ret
  exact ⟨zQ, zT⟩
 rw [if_neg c5] at H
 have c5b0 : decide ((l0_1.length : Int) ≤ (l1.length : Int)) = false := decide_eq_false c5
 have c5b1 : decide (l0_1.length ≤ l1.length) = false := decide_eq_false (fun h => c5 (Int.ofNat_le.mpr h))
 clear c5
 obtain rfl := Option.some.inj H
 go_enter Try.func91, Try.ntmps91
 go_wp2_with (first | ((with_reducible refine gate_dst (N := 2) rfl ?_); refine zb 2 #[.int .i64 a0_0, .slice A0_1 l0_1.length c0_1] 33 ?_; intro gb101 hg w10 hbox hb; have BK101 := zm (hbox); have GW101 := zg HB hg; have GE101 := GW101; replace HB := zBb HB hb; clear hb hbox hg; obtain ⟨hcz11_0, hcz11_1, hfz11_0, hfz11_1⟩ := zf2 BK101) | ((with_reducible refine gate_callee (f := 45) rfl ?_); refine zG (some 9) Try.func45 #[.int .i64 a0_0, .slice A1 l1.length c1] ?_; (with_reducible refine (pm_Check.calls k a0_0 _ _ l1 t102 _ (zC (Kd.C_below HR1.out HB.out)) HC1.out A3.out).mono ?_); rintro e w12 ⟨rfl, hb⟩; refine ⟨_, rfl, ?_⟩; replace BK101 := zKb BK101 hb; replace HB := zBb HB hb; obtain ⟨hcz13_0, hcz13_1, hfz13_0, hfz13_1⟩ := zf2 BK101))
 go_ret
 exact ⟨zQ, zT⟩
def fi_check.l0 : Nat → List (List Int) → Int → Int → Int → List Int → Option (Int)
 | 0, _, _, _, _, _ => none
 | k + 1, x14, x15, x16, x102000, x102001 => if x16 < x15 then (if 0 ≤ x16 then (if x16 < (x14.length : Int) then ((fi_element.f k x102000 x102001 (rd_L1 x14 x16)).bind fun t104 => (if t104 = 0 then (fi_check.l0 k x14 x15 (wrap64 (x16 + 1)) x102000 x102001) else (some t104))) else (none)) else (none)) else (some 0)
def fi_check.f (k : Nat) (a0_0 : Int) (l0_1 : List Int) (l1 : List (List Int)) : Option (Int) := (fi_Check.f k a0_0 l0_1).bind fun t102 => (if t102 = 0 then (fi_check.l0 k l1 (l1.length : Int) 0 a0_0 l0_1) else (some t102))
theorem fi_check.mono_l : ∀ k, (∀ y0 y1 y2 y3 y4, LeO (fi_check.l0 k y0 y1 y2 y3 y4) (fi_check.l0 (k + 1) y0 y1 y2 y3 y4))
 | 0 => fun _ _ _ _ _ r h => by simp [fi_check.l0] at h
 | k + 1 => by
  have ih0 := fi_check.mono_l k
  intro y0 y1 y2 y3 y4
  unfold fi_check.l0
  with_reducible repeat' first | exact ih0 _ _ _ _ _ | exact fi_Check.mono _ _ _ | exact fi_element.mono _ _ _ _ | exact LeO.refl _ | exact LeO.none _ | refine LeO.ite ?_ ?_ | refine LeO.bind ?_ (fun _ => ?_)
theorem fi_check.mono : ∀ a0 a1 a2 k, LeO (fi_check.f k a0 a1 a2) (fi_check.f (k + 1) a0 a1 a2) := by
 intro a0 a1 a2 k
 have ih0 := fi_check.mono_l k
 unfold fi_check.f
 with_reducible repeat' first | exact ih0 _ _ _ _ _ | exact fi_Check.mono _ _ _ | exact fi_element.mono _ _ _ _ | exact LeO.refl _ | exact LeO.none _ | refine LeO.ite ?_ ?_ | refine LeO.bind ?_ (fun _ => ?_)
theorem fi_check.calls (k : Nat) (a0_0 : Int) (A0_1 : Option Addr) (c0_1 : Nat) (l0_1 : List Int) (A1 : Option Addr) (c1 : Nat) (l1 : List (List Int)) (r : Int) (w : World) (hr0_1 : Kd.C (Kd.int .i64) w A0_1 l0_1.length l0_1) (hc0_1 : l0_1.length ≤ c0_1) (hr1 : Kd.C (Kd.slice 3 (Kd.int .i64)) w A1 l1.length l1) (hc1 : l1.length ≤ c1) (h : fi_check.f k a0_0 l0_1 l1 = some r) :
  Calls Try.prog 53 #[.agg #[.int .i64 a0_0, .slice A0_1 l0_1.length c0_1], .slice A1 l1.length c1] w fun e w' => e = .returned (.int .i64 r) ∧ Below w.heap.size w w' := by
 have hu33 := Try.underlying33
 have HR0_1 := zm hr0_1
 have HC0_1 := zm hc0_1
 clear hr0_1 hc0_1
 have HR1 := zm hr1
 have HC1 := zm hc1
 clear hr1 hc1
 have HB := zm (Below.refl w.heap.size w)
 have H := h; clear h; unfold fi_check.f at H
 obtain ⟨t102, A3, H⟩ := zO H
 by_cases c4 : t102 = 0
 rotate_left
 ·rw [if_neg c4] at H
  obtain ⟨c4b0, c4b1⟩ := zU c4
  obtain rfl := Option.some.inj H
  go_enter Try.func53, Try.ntmps53
  go_wp2_with (first | ((with_reducible refine gate_dst (N := 2) rfl ?_); refine zb 2 #[.int .i64 a0_0, .slice A0_1 l0_1.length c0_1] 33 ?_; intro gb101 hg w17 hbox hb; have BK101 := zm (hbox); have GW101 := zg HB hg; have GE101 := GW101; replace HB := zBb HB hb; clear hb hbox hg; obtain ⟨hcz18_0, hcz18_1, hfz18_0, hfz18_1⟩ := zf2 BK101) | ((with_reducible refine gate_callee (f := 23) rfl ?_); refine zG (some 10) Try.func23 #[.agg #[.int .i64 a0_0, .slice A0_1 l0_1.length c0_1]] ?_; (with_reducible refine (fi_Check.calls k a0_0 _ _ l0_1 t102 _ (zC (Kd.C_below HR0_1.out HB.out)) HC0_1.out A3.out).mono ?_); rintro e w19 ⟨rfl, hb⟩; refine ⟨_, rfl, ?_⟩; replace BK101 := zKb BK101 hb; replace HB := zBb HB hb))
  go_ret
  exact ⟨zQ, zT⟩
 rw [if_pos c4] at H
 obtain ⟨c4b0, c4b1⟩ := zE c4; clear c4
 have H' := zm H
 clear H
 go_enter Try.func53, Try.ntmps53
 go_wp2_with (first | ((with_reducible refine gate_dst (N := 2) rfl ?_); refine zb 2 #[.int .i64 a0_0, .slice A0_1 l0_1.length c0_1] 33 ?_; intro gb101 hg w5 hbox hb; have BK101 := zm (hbox); have GW101 := zg HB hg; have GE101 := GW101; replace HB := zBb HB hb; clear hb hbox hg; obtain ⟨hcz6_0, hcz6_1, hfz6_0, hfz6_1⟩ := zf2 BK101) | ((with_reducible refine gate_callee (f := 23) rfl ?_); refine zG (some 10) Try.func23 #[.agg #[.int .i64 a0_0, .slice A0_1 l0_1.length c0_1]] ?_; (with_reducible refine (fi_Check.calls k a0_0 _ _ l0_1 t102 _ (zC (Kd.C_below HR0_1.out HB.out)) HC0_1.out A3.out).mono ?_); rintro e w7 ⟨rfl, hb⟩; refine ⟨_, rfl, ?_⟩; replace BK101 := zKb BK101 hb; replace HB := zBb HB hb))
 go_loopg [16] k (fun kq v16 w' => ∃ (x16_1 : Int), v16 = .int .i64 x16_1 ∧ Aside0 (fi_check.l0 kq l1 (l1.length : Int) x16_1 a0_0 l0_1 = some r) ∧ Aside0 (kq ≤ k) ∧ Aside0 (w'.heap[gb101]? = some (.cells #[.int .i64 a0_0, (.slice A0_1 l0_1.length c0_1)] 33 (0, 0))) ∧ Aside0 (Below w.heap.size w w'))
 case atStart => exact ⟨(0), zX, H', ⟨Nat.le_refl _⟩, ⟨zK BK101.out⟩, ⟨zT⟩⟩
 case round =>
  clear H'
  obtain ⟨x16_1, rfl, HA, HK1, BK101, HB⟩ := hrel
  cases gk with
  | zero => exact absurd HA.out (by simp [fi_check.l0])
  | succ k1 =>
   have H := HA.out
   clear HA
   simp only [fi_check.l0] at H
   by_cases c8 : x16_1 < (l1.length : Int)
   rotate_left
   ·rw [if_neg c8] at H
    have c8b0 := decide_eq_false c8; clear c8
    obtain rfl := Option.some.inj H
    go_wp2
    go_ret
    exact ⟨zQ, zT⟩
   rw [if_pos c8] at H
   have c8b0 := decide_eq_true c8; clear c8
   by_cases c9 : 0 ≤ x16_1
   rotate_left
   ·rw [if_neg c9] at H
    exact absurd H (by simp)
   rw [if_pos c9] at H
   have c9b0 := decide_eq_true c9; clear c9
   by_cases c10 : x16_1 < (l1.length : Int)
   rotate_left
   ·rw [if_neg c10] at H
    exact absurd H (by simp)
   rw [if_pos c10] at H
   have c10b0 := decide_eq_true c10; clear c10
   obtain ⟨t104, A11, H⟩ := zO H
   by_cases c12 : t104 = 0
   rotate_left
   ·rw [if_neg c12] at H
    obtain ⟨c12b0, c12b1⟩ := zU c12
    obtain rfl := Option.some.inj H
    have p103 : 0 ≤ (x16_1 : Int) := zD
    have q103 : x16_1 < (l1.length : Int) := zD
    obtain ⟨ad103, A103_0, c103_0, e103, hx103_0, hl103_0, hi103_0⟩ := at_L1 HR1.out x16_1 p103 q103
    cases e103
    replace hx103_0 := (HB.out.cell (World.block_lt_of_cell? w _ hx103_0)).trans hx103_0
    have HR103_0 := zm hi103_0
    have HC103_0 := zm hl103_0
    clear hi103_0 hl103_0
    replace p103 := eq_true p103
    replace q103 := eq_true q103
    obtain ⟨hcz15_0, hcz15_1, hfz15_0, hfz15_1⟩ := zf2 BK101
    go_wp2_with (first | ((with_reducible refine gate_callee (f := 91) rfl ?_); refine zG (some 22) Try.func91 #[.agg #[.int .i64 a0_0, .slice A0_1 l0_1.length c0_1], .slice A103_0 (rd_L1 l1 x16_1).length c103_0] ?_; (with_reducible refine (fi_element.calls k1 a0_0 _ _ l0_1 _ _ (rd_L1 l1 x16_1) t104 _ (zC (Kd.C_below HR0_1.out HB.out)) HC0_1.out (zC (Kd.C_below HR103_0.out HB.out)) HC103_0.out A11.out).mono ?_); rintro e w16 ⟨rfl, hb⟩; refine ⟨_, rfl, ?_⟩; replace BK101 := zKb BK101 hb; replace HB := zBb HB hb))
    go_ret
    exact ⟨zQ, zT⟩
   rw [if_pos c12] at H
   obtain ⟨c12b0, c12b1⟩ := zE c12; clear c12
   have H' := zm H
   clear H
   have p103 : 0 ≤ (x16_1 : Int) := zD
   have q103 : x16_1 < (l1.length : Int) := zD
   obtain ⟨ad103, A103_0, c103_0, e103, hx103_0, hl103_0, hi103_0⟩ := at_L1 HR1.out x16_1 p103 q103
   cases e103
   replace hx103_0 := (HB.out.cell (World.block_lt_of_cell? w _ hx103_0)).trans hx103_0
   have HR103_0 := zm hi103_0
   have HC103_0 := zm hl103_0
   clear hi103_0 hl103_0
   replace p103 := eq_true p103
   replace q103 := eq_true q103
   obtain ⟨hcz13_0, hcz13_1, hfz13_0, hfz13_1⟩ := zf2 BK101
   go_wp2_with (first | ((with_reducible refine gate_callee (f := 91) rfl ?_); refine zG (some 22) Try.func91 #[.agg #[.int .i64 a0_0, .slice A0_1 l0_1.length c0_1], .slice A103_0 (rd_L1 l1 x16_1).length c103_0] ?_; (with_reducible refine (fi_element.calls k1 a0_0 _ _ l0_1 _ _ (rd_L1 l1 x16_1) t104 _ (zC (Kd.C_below HR0_1.out HB.out)) HC0_1.out (zC (Kd.C_below HR103_0.out HB.out)) HC103_0.out A11.out).mono ?_); rintro e w14 ⟨rfl, hb⟩; refine ⟨_, rfl, ?_⟩; replace BK101 := zKb BK101 hb; replace HB := zBb HB hb))
   go_roundg k1
   case measure => have := HK1.out; omega
   case rel => exact ⟨(wrap64 (x16_1 + 1)), zX, H', ⟨by have := HK1.out; omega⟩, ⟨zK BK101.out⟩, ⟨zT⟩⟩
def gFMul.f (k : Nat) (a0_0 : Int) (l0_1 : List Int) (l1 : List Int) (l2 : List Int) : Option (List Int) := (fp_MulMod.f k a0_0 l1 l2 l0_1).bind fun t102 => (some t102)
theorem gFMul.mono : ∀ a0 a1 a2 a3 k, LeO (gFMul.f k a0 a1 a2 a3) (gFMul.f (k + 1) a0 a1 a2 a3) := by
 intro a0 a1 a2 a3 k
 unfold gFMul.f
 with_reducible repeat' first | exact fp_MulMod.mono _ _ _ _ _ | exact LeO.refl _ | exact LeO.none _ | refine LeO.ite ?_ ?_ | refine LeO.bind ?_ (fun _ => ?_)
theorem gFMul.calls (k : Nat) (a0_0 : Int) (A0_1 : Option Addr) (c0_1 : Nat) (l0_1 : List Int) (A1 : Option Addr) (c1 : Nat) (l1 : List Int) (A2 : Option Addr) (c2 : Nat) (l2 : List Int) (r : List Int) (w : World) (hr0_1 : Kd.C (Kd.int .i64) w A0_1 l0_1.length l0_1) (hc0_1 : l0_1.length ≤ c0_1) (hr1 : Kd.C (Kd.int .i64) w A1 l1.length l1) (hc1 : l1.length ≤ c1) (hr2 : Kd.C (Kd.int .i64) w A2 l2.length l2) (hc2 : l2.length ≤ c2) (h : gFMul.f k a0_0 l0_1 l1 l2 = some r) :
  Calls Try.prog 59 #[.agg #[.int .i64 a0_0, .slice A0_1 l0_1.length c0_1], .slice A1 l1.length c1, .slice A2 l2.length c2] w fun e w' => ∃ v0_ : Value, e = .returned (v0_) ∧ Kd.V (Kd.int .i64) 3 w' w.heap.size (fun k_ => (w.heap.size ≤ k_)) v0_ r ∧ Below w.heap.size w w' := by
 have hu68 := Try.underlying68
 have HR0_1 := zm hr0_1
 have HC0_1 := zm hc0_1
 clear hr0_1 hc0_1
 have HR1 := zm hr1
 have HC1 := zm hc1
 clear hr1 hc1
 have HR2 := zm hr2
 have HC2 := zm hc2
 clear hr2 hc2
 have HB := zm (Below.refl w.heap.size w)
 have H := h; clear h; unfold gFMul.f at H
 obtain ⟨t102, A4, H⟩ := zO H
 obtain rfl := Option.some.inj H
 go_enter Try.func59, Try.ntmps59
 go_wp2_with (first | ((with_reducible refine gate_dst (N := 3) rfl ?_); refine zb 3 #[.int .i64 a0_0, .slice A0_1 l0_1.length c0_1] 68 ?_; intro gb101 hg w5 hbox hb; have BK101 := zm (hbox); have GW101 := zg HB hg; have GE101 := GW101; replace HB := zBb HB hb; clear hb hbox hg; obtain ⟨hcz6_0, hcz6_1, hfz6_0, hfz6_1⟩ := zf2 BK101) | ((with_reducible refine gate_callee (f := 94) rfl ?_); refine zG (some 15) Try.func94 #[.int .i64 a0_0, .slice A1 l1.length c1, .slice A2 l2.length c2, .slice A0_1 l0_1.length c0_1] ?_; (with_reducible refine (fp_MulMod.calls k a0_0 _ _ l1 _ _ l2 _ _ l0_1 t102 _ (zC (Kd.C_below HR1.out HB.out)) HC1.out (zC (Kd.C_below HR2.out HB.out)) HC2.out (zC (Kd.C_below HR0_1.out HB.out)) HC0_1.out A4.out).mono ?_); rintro e w7 ⟨v103, rfl, ho0, hb⟩; refine ⟨_, rfl, ?_⟩; have HO104 := zWV (fun k_ => (w.heap.size ≤ k_) ∧ k_ ≠ gb101) ho0 HB (fun k_ hk_ => ⟨(Nat.le_trans (zS HB) hk_), (Kd.freshB (zK BK101.out) k_ hk_)⟩); replace BK101 := zKb BK101 hb; replace HB := zBb HB hb))
 go_ret
 exact ⟨_, zQ, zV (Kd.V_mono HO104.out (fun _ hk => hk.1)), zT⟩
def gFOne.f (a0_0 : Int) (l0_1 : List Int) : Option (List Int) := some (([1] : List Int))
theorem gFOne.calls (a0_0 : Int) (A0_1 : Option Addr) (c0_1 : Nat) (l0_1 : List Int) (r : List Int) (w : World) (hr0_1 : Kd.C (Kd.int .i64) w A0_1 l0_1.length l0_1) (hc0_1 : l0_1.length ≤ c0_1) (h : gFOne.f a0_0 l0_1 = some r) :
  Calls Try.prog 75 #[.agg #[.int .i64 a0_0, .slice A0_1 l0_1.length c0_1]] w fun e w' => ∃ v0_ : Value, e = .returned (v0_) ∧ Kd.R (Kd.int .i64) 3 w' w.heap.size (fun _ => True) v0_ r ∧ Below w.heap.size w w' := by
 have hu68 := Try.underlying68
 have HR0_1 := zm hr0_1
 have HC0_1 := zm hc0_1
 clear hr0_1 hc0_1
 have HB := zm (Below.refl w.heap.size w)
 have H := h; clear h; unfold gFOne.f at H
 obtain ⟨y102, Ny102⟩ := zA ((([1] : List Int)) : List Int); rw [← Ny102.out] at H
 obtain rfl := Option.some.inj H
 go_enter Try.func75, Try.ntmps75
 go_wp2_with (first | ((with_reducible refine gate_dst (N := 1) rfl ?_); refine zb 1 #[.int .i64 a0_0, .slice A0_1 l0_1.length c0_1] 68 ?_; intro gb101 hg w2 hbox hb; have BK101 := zm (hbox); have GW101 := zg HB hg; have GE101 := GW101; replace HB := zBb HB hb; clear hb hbox hg) | ((with_reducible refine gate_dst (N := 3) rfl ?_); refine Kd.R_lit (Kd.int .i64) _ 3 ?hg (N := 3) ?hd (xs := ([1] : List Int)) (inner := [.int .i64 1]) (ok := fun _ => True) (okp := fun _ => True) ?hr ?hp (fun _ hk => hk) trivial (Below.refl _ _) (Nat.le_refl _) (by simp) ?_; (case hd => rfl); (case hg => rfl); (case hr => go_simp <;> rfl); (case hp => exact (Reps.one (show Kd.M (Kd.int .i64) _ _ _ 1 [.int .i64 1] from rfl) (Reps.none _ _))); intro v103 w3 ho4 hb hg_ hnew_; clear hg_ hnew_; (first | rw [← Ny102.out] at ho4 | (simp only [Int.reduceToNat] at ho4; rw [← Ny102.out] at ho4)); have HO104 := zm (Kd.R_lower ho4 (zS HB)); replace BK101 := zKb BK101 hb; replace HB := zBb HB hb; clear hb ho4))
 go_ret
 exact ⟨_, zQ, zR HO104.out, zT⟩
def gFPow.l0 : Nat → List Int → Int → List Int → Int → List Int → Option (List Int)
 | 0, _, _, _, _, _ => none
 | k + 1, x1, x2, x7, x102000, x102001 => if x2 > 0 then (if (Go.bits .and .i64 x2 1) = 1 then ((gFMul.f k x102000 x102001 x7 x1).bind fun t105 => ((gFMul.f k x102000 x102001 x1 x1).bind fun t108 => (gFPow.l0 k t108 (x2 / 2) t105 x102000 x102001))) else ((gFMul.f k x102000 x102001 x1 x1).bind fun t111 => (gFPow.l0 k t111 (x2 / 2) x7 x102000 x102001))) else (some x7)
def gFPow.f (k : Nat) (a0_0 : Int) (l0_1 : List Int) (l1 : List Int) (a2 : Int) : Option (List Int) := (gFOne.f a0_0 l0_1).bind fun t102 => (gFPow.l0 k l1 a2 t102 a0_0 l0_1)
theorem gFPow.mono_l : ∀ k, (∀ y0 y1 y2 y3 y4, LeO (gFPow.l0 k y0 y1 y2 y3 y4) (gFPow.l0 (k + 1) y0 y1 y2 y3 y4))
 | 0 => fun _ _ _ _ _ r h => by simp [gFPow.l0] at h
 | k + 1 => by
  have ih0 := gFPow.mono_l k
  intro y0 y1 y2 y3 y4
  unfold gFPow.l0
  with_reducible repeat' first | exact ih0 _ _ _ _ _ | exact gFMul.mono _ _ _ _ _ | exact LeO.refl _ | exact LeO.none _ | refine LeO.ite ?_ ?_ | refine LeO.bind ?_ (fun _ => ?_)
theorem gFPow.mono : ∀ a0 a1 a2 a3 k, LeO (gFPow.f k a0 a1 a2 a3) (gFPow.f (k + 1) a0 a1 a2 a3) := by
 intro a0 a1 a2 a3 k
 have ih0 := gFPow.mono_l k
 unfold gFPow.f
 with_reducible repeat' first | exact ih0 _ _ _ _ _ | exact gFMul.mono _ _ _ _ _ | exact LeO.refl _ | exact LeO.none _ | refine LeO.ite ?_ ?_ | refine LeO.bind ?_ (fun _ => ?_)
theorem gFPow.calls (k : Nat) (a0_0 : Int) (A0_1 : Option Addr) (c0_1 : Nat) (l0_1 : List Int) (P1_ : Nat → Prop) (A1 : Option Addr) (c1 : Nat) (l1 : List Int) (a2 : Int) (r : List Int) (w : World) (hr0_1 : Kd.C (Kd.int .i64) w A0_1 l0_1.length l0_1) (hc0_1 : l0_1.length ≤ c0_1) (hs1 : Kd.V (Kd.int .i64) 3 w w.heap.size (fun k_ => P1_ k_) (.slice A1 l1.length c1) l1) (h : gFPow.f k a0_0 l0_1 l1 a2 = some r) :
  Calls Try.prog 54 #[.agg #[.int .i64 a0_0, .slice A0_1 l0_1.length c0_1], .slice A1 l1.length c1, .int .i64 a2] w fun e w' => ∃ v0_ : Value, e = .returned (v0_) ∧ Kd.V (Kd.int .i64) 3 w' w.heap.size (fun k_ => (P1_ k_ ∨ w.heap.size ≤ k_)) v0_ r ∧ Below w.heap.size w w' := by
 have hu68 := Try.underlying68
 have HR0_1 := zm hr0_1
 have HC0_1 := zm hc0_1
 clear hr0_1 hc0_1
 have HO1 := zm (show Kd.V (Kd.int .i64) 3 w w.heap.size (fun k_ => (P1_ k_ ∨ w.heap.size ≤ k_)) (.slice A1 l1.length c1) l1 from Kd.V_mono hs1 (fun k_ hk => .inl hk))
 have HB := zm (Below.refl w.heap.size w)
 have H := h; clear h; unfold gFPow.f at H
 obtain ⟨t102, A4, H⟩ := zO H
 have H' := zm H
 clear H
 go_enter Try.func54, Try.ntmps54
 go_wp2_with (first | ((with_reducible refine gate_dst (N := 3) rfl ?_); refine zb 3 #[.int .i64 a0_0, .slice A0_1 l0_1.length c0_1] 68 ?_; intro gb101 hg w5 hbox hb; replace HO1 := zm (Kd.V_below (Kd.V_elderB (zV HO1.out) gb101 (Nat.le_of_eq hg.symm)) hb); have BK101 := zm (hbox); have GW101 := zg HB hg; have GE101 := GW101; replace HB := zBb HB hb; clear hb hbox hg; obtain ⟨hcz6_0, hcz6_1, hfz6_0, hfz6_1⟩ := zf2 BK101) | ((with_reducible refine gate_callee (f := 75) rfl ?_); refine zG (some 9) Try.func75 #[.agg #[.int .i64 a0_0, .slice A0_1 l0_1.length c0_1]] ?_; (with_reducible refine (gFOne.calls a0_0 _ _ l0_1 t102 _ (zC (Kd.C_below HR0_1.out HB.out)) HC0_1.out A4.out).mono ?_); rintro e w7 ⟨v103, rfl, ho0, hb⟩; refine ⟨_, rfl, ?_⟩; replace HO1 := zm (Kd.V_elder' (zV HO1.out) (Kd.R_base ho0) hb); have HO104 := zm (Kd.R_lower (Kd.R_newM (M := fun k_ => (w.heap.size ≤ k_)) ho0 (zS HB) (fun k_ h_ => h_)) (zS HB)); replace BK101 := zKb BK101 hb; replace HB := zBb HB hb))
 go_loopg [1, 2, 7] k (fun kq v1 v2 v7 w' => ∃ (x1_1 : List Int) (x2_1 : Int) (x7_1 : List Int), v2 = .int .i64 x2_1 ∧ Aside0 (gFPow.l0 kq x1_1 x2_1 x7_1 a0_0 l0_1 = some r) ∧ Aside0 (kq ≤ k) ∧ Aside0 (Kd.V (Kd.int .i64) 3 w' w.heap.size (fun k_ => (P1_ k_ ∨ w.heap.size ≤ k_) ∧ k_ ≠ gb101) v1 x1_1) ∧ Aside0 (Kd.V (Kd.int .i64) 3 w' w.heap.size (fun k_ => (P1_ k_ ∨ w.heap.size ≤ k_) ∧ k_ ≠ gb101) v7 x7_1) ∧ Aside0 (w'.heap[gb101]? = some (.cells #[.int .i64 a0_0, (.slice A0_1 l0_1.length c0_1)] 68 (0, 0))) ∧ Aside0 (Below w.heap.size w w'))
 case atStart => exact ⟨(l1), (a2), (t102), zX, H', ⟨Nat.le_refl _⟩, ⟨zV (Kd.V_mono HO1.out (fun _ hk => ⟨hk.1.1, hk.1.2⟩))⟩, ⟨Kd.V_mono (Kd.R_V (zR ((Kd.R_types HO104.out BK101.out (by decide))))) (fun k_ hk => by exact ⟨(.inr (hk.1.1)), hk.2⟩)⟩, ⟨zK BK101.out⟩, ⟨zT⟩⟩
 case round =>
  clear H'
  obtain ⟨x1_1, x2_1, x7_1, rfl, HA, HK1, HO_1, HO_7, BK101, HB⟩ := hrel
  cases gk with
  | zero => exact absurd HA.out (by simp [gFPow.l0])
  | succ k1 =>
   have H := HA.out
   clear HA
   simp only [gFPow.l0] at H
   by_cases c8 : x2_1 > 0
   rotate_left
   ·rw [if_neg c8] at H
    have c8b0 := decide_eq_false c8; clear c8
    obtain rfl := Option.some.inj H
    go_wp2
    go_ret
    exact ⟨_, zQ, zV (Kd.V_mono HO_7.out (fun _ hk => hk.1)), zT⟩
   rw [if_pos c8] at H
   have c8b0 := decide_eq_true c8; clear c8
   by_cases c9 : (Go.bits .and .i64 x2_1 1) = 1
   rotate_left
   ·rw [if_neg c9] at H
    obtain ⟨c9b0, c9b1⟩ := zU c9
    obtain ⟨t111, A18, H⟩ := zO H
    have H' := zm H
    clear H
    obtain ⟨hcz19_0, hcz19_1, hfz19_0, hfz19_1⟩ := zf2 BK101
    obtain ⟨Ao20, co20, eo20⟩ := Kd.V_slice HO_1.out
    subst eo20
    go_wp2_with (first | ((with_reducible refine gate_callee (f := 59) rfl ?_); refine zG (some 24) Try.func59 #[.agg #[.int .i64 a0_0, .slice A0_1 l0_1.length c0_1], .slice Ao20 x1_1.length co20, .slice Ao20 x1_1.length co20] ?_; (with_reducible refine (gFMul.calls k1 a0_0 _ _ l0_1 _ _ x1_1 _ _ x1_1 t111 _ (zC (Kd.C_below HR0_1.out HB.out)) HC0_1.out (zC ((Kd.V_reads' HO_1.out).2.2)) ((Kd.V_reads' HO_1.out).2.1) (zC ((Kd.V_reads' HO_1.out).2.2)) ((Kd.V_reads' HO_1.out).2.1) A18.out).mono ?_); rintro e w21 ⟨v112, rfl, ho0, hb⟩; refine ⟨_, rfl, ?_⟩; replace HO_1 := zVb HO_1 hb; replace HO_7 := zVb HO_7 hb; have HO113 := zWV (fun k_ => (P1_ k_ ∨ w.heap.size ≤ k_) ∧ k_ ≠ gb101) ho0 HB (fun k_ hk_ => ⟨(.inr (Nat.le_trans (zS HB) hk_)), (Kd.freshB (zK BK101.out) k_ hk_)⟩); replace BK101 := zKb BK101 hb; replace HB := zBb HB hb))
    go_roundg k1
    case measure => have := HK1.out; omega
    case rel => exact ⟨(t111), (x2_1 / 2), (x7_1), zX, H', ⟨by have := HK1.out; omega⟩, ⟨zV HO113.out⟩, ⟨zV HO_7.out⟩, ⟨zK BK101.out⟩, ⟨zT⟩⟩
   rw [if_pos c9] at H
   obtain ⟨c9b0, c9b1⟩ := zE c9; clear c9
   obtain ⟨t105, A10, H⟩ := zO H
   obtain ⟨t108, A11, H⟩ := zO H
   have H' := zm H
   clear H
   obtain ⟨hcz12_0, hcz12_1, hfz12_0, hfz12_1⟩ := zf2 BK101
   obtain ⟨Ao13, co13, eo13⟩ := Kd.V_slice HO_7.out
   subst eo13
   obtain ⟨Ao14, co14, eo14⟩ := Kd.V_slice HO_1.out
   subst eo14
   go_wp2_with (first | ((with_reducible refine gate_callee (f := 59) rfl ?_); refine zG (some 20) Try.func59 #[.agg #[.int .i64 a0_0, .slice A0_1 l0_1.length c0_1], .slice Ao13 x7_1.length co13, .slice Ao14 x1_1.length co14] ?_; (with_reducible refine (gFMul.calls k1 a0_0 _ _ l0_1 _ _ x7_1 _ _ x1_1 t105 _ (zC (Kd.C_below HR0_1.out HB.out)) HC0_1.out (zC ((Kd.V_reads' HO_7.out).2.2)) ((Kd.V_reads' HO_7.out).2.1) (zC ((Kd.V_reads' HO_1.out).2.2)) ((Kd.V_reads' HO_1.out).2.1) A10.out).mono ?_); rintro e w15 ⟨v106, rfl, ho0, hb⟩; refine ⟨_, rfl, ?_⟩; replace HO_1 := zVb HO_1 hb; replace HO_7 := zVb HO_7 hb; have HO107 := zWV (fun k_ => (P1_ k_ ∨ w.heap.size ≤ k_) ∧ k_ ≠ gb101) ho0 HB (fun k_ hk_ => ⟨(.inr (Nat.le_trans (zS HB) hk_)), (Kd.freshB (zK BK101.out) k_ hk_)⟩); replace BK101 := zKb BK101 hb; replace HB := zBb HB hb; obtain ⟨hcz16_0, hcz16_1, hfz16_0, hfz16_1⟩ := zf2 BK101) | ((with_reducible refine gate_callee (f := 59) rfl ?_); refine zG (some 24) Try.func59 #[.agg #[.int .i64 a0_0, .slice A0_1 l0_1.length c0_1], .slice Ao14 x1_1.length co14, .slice Ao14 x1_1.length co14] ?_; (with_reducible refine (gFMul.calls k1 a0_0 _ _ l0_1 _ _ x1_1 _ _ x1_1 t108 _ (zC (Kd.C_below HR0_1.out HB.out)) HC0_1.out (zC ((Kd.V_reads' HO_1.out).2.2)) ((Kd.V_reads' HO_1.out).2.1) (zC ((Kd.V_reads' HO_1.out).2.2)) ((Kd.V_reads' HO_1.out).2.1) A11.out).mono ?_); rintro e w17 ⟨v109, rfl, ho0, hb⟩; refine ⟨_, rfl, ?_⟩; replace HO_1 := zVb HO_1 hb; replace HO_7 := zVb HO_7 hb; replace HO107 := zVb HO107 hb; have HO110 := zWV (fun k_ => (P1_ k_ ∨ w.heap.size ≤ k_) ∧ k_ ≠ gb101) ho0 HB (fun k_ hk_ => ⟨(.inr (Nat.le_trans (zS HB) hk_)), (Kd.freshB (zK BK101.out) k_ hk_)⟩); replace BK101 := zKb BK101 hb; replace HB := zBb HB hb))
   go_roundg k1
   case measure => have := HK1.out; omega
   case rel => exact ⟨(t108), (x2_1 / 2), (t105), zX, H', ⟨by have := HK1.out; omega⟩, ⟨zV HO110.out⟩, ⟨zV HO107.out⟩, ⟨zK BK101.out⟩, ⟨zT⟩⟩
def gf_IsOne.f (l0 : List Int) : Option (Bool) := if (l0.length : Int) = 1 then (if 0 < (l0.length : Int) then (some ((rd l0 0) == 1)) else (none)) else (some false)
theorem gf_IsOne.calls (A0 : Option Addr) (c0 : Nat) (l0 : List Int) (r : Bool) (w : World) (hr0 : Kd.C (Kd.int .i64) w A0 l0.length l0) (hc0 : l0.length ≤ c0) (h : gf_IsOne.f l0 = some r) :
  Calls Try.prog 55 #[.slice A0 l0.length c0] w fun e w' => e = .returned (.bool r) ∧ Drawn0 w w' := by
 have HR0 := zm hr0
 have HC0 := zm hc0
 clear hr0 hc0
 have H := h; clear h; unfold gf_IsOne.f at H
 by_cases c2 : (l0.length : Int) = 1
 rotate_left
 ·rw [if_neg c2] at H
  obtain ⟨c2b0, c2b1⟩ := zU c2
  obtain rfl := Option.some.inj H
  go_enter Try.func55, Try.ntmps55
  go_wp2
  go_ret
  exact ⟨by first | rfl | (simp; done) | (simp [*]; done), by repeat (first | exact Drawn0.refl _ | apply Drawn0.step)⟩
 rw [if_pos c2] at H
 obtain ⟨c2b0, c2b1⟩ := zE c2; clear c2
 by_cases c3 : 0 < (l0.length : Int)
 rotate_left
 ·rw [if_neg c3] at H
  exact absurd H (by simp)
 rw [if_pos c3] at H
 have c3b0 : decide (0 < (l0.length : Int)) = true := decide_eq_true c3
 have c3b1 : decide (0 < l0.length) = true := decide_eq_true (by omega)
 clear c3
 obtain rfl := Option.some.inj H
 have p101 : 0 ≤ (0 : Int) := (by omega)
 have q101 : 0 < (l0.length : Int) := zD
 obtain ⟨ad101, e101, hx101_0⟩ := Kd.at_int HR0.out 0 p101 q101
 cases e101
 have qi101 : (0 < l0.length) = True := eq_true (by omega)
 (try rw [show ((0 : Int)).toNat = 0 from rfl] at hx101_0)
 (try rw [Addr.add_zero'] at hx101_0)
 replace p101 := eq_true p101
 replace q101 := eq_true q101
 go_enter Try.func55, Try.ntmps55
 go_wp2
 go_ret
 exact ⟨by first | rfl | (simp; done) | (simp [*]; done), by repeat (first | exact Drawn0.refl _ | apply Drawn0.step)⟩
def gFElement.l0 : Nat → Int → List Int → Int → List Int → Option (List Int)
 | 0, _, _, _, _ => none
 | k + 1, x1, x5, x102000, x102001 => if x1 > 0 then (if x102000 = 0 then (none) else (if x5.length < 17592186044416 then (gFElement.l0 k (wrap64 (Int.tdiv x1 x102000)) (x5 ++ [Int.tmod x1 x102000]) x102000 x102001) else (none))) else (some x5)
def gFElement.f (k : Nat) (a0_0 : Int) (l0_1 : List Int) (a1 : Int) : Option (List Int) := gFElement.l0 k a1 ([] : List Int) a0_0 l0_1
theorem gFElement.mono_l : ∀ k, (∀ y0 y1 y2 y3, LeO (gFElement.l0 k y0 y1 y2 y3) (gFElement.l0 (k + 1) y0 y1 y2 y3))
 | 0 => fun _ _ _ _ r h => by simp [gFElement.l0] at h
 | k + 1 => by
  have ih0 := gFElement.mono_l k
  intro y0 y1 y2 y3
  unfold gFElement.l0
  with_reducible repeat' first | exact ih0 _ _ _ _ | exact LeO.refl _ | exact LeO.none _ | refine LeO.ite ?_ ?_ | refine LeO.bind ?_ (fun _ => ?_)
theorem gFElement.mono : ∀ a0 a1 a2 k, LeO (gFElement.f k a0 a1 a2) (gFElement.f (k + 1) a0 a1 a2) := by
 intro a0 a1 a2 k
 have ih0 := gFElement.mono_l k
 unfold gFElement.f
 with_reducible repeat' first | exact ih0 _ _ _ _ | exact LeO.refl _ | exact LeO.none _ | refine LeO.ite ?_ ?_ | refine LeO.bind ?_ (fun _ => ?_)
theorem gFElement.calls (k : Nat) (a0_0 : Int) (A0_1 : Option Addr) (c0_1 : Nat) (l0_1 : List Int) (a1 : Int) (r : List Int) (w : World) (hr0_1 : Kd.C (Kd.int .i64) w A0_1 l0_1.length l0_1) (hc0_1 : l0_1.length ≤ c0_1) (h : gFElement.f k a0_0 l0_1 a1 = some r) :
  Calls Try.prog 52 #[.agg #[.int .i64 a0_0, .slice A0_1 l0_1.length c0_1], .int .i64 a1] w fun e w' => ∃ v0_ : Value, e = .returned (v0_) ∧ Kd.R (Kd.int .i64) 3 w' w.heap.size (fun _ => True) v0_ r ∧ Below w.heap.size w w' := by
 have hu68 := Try.underlying68
 have HR0_1 := zm hr0_1
 have HC0_1 := zm hc0_1
 clear hr0_1 hc0_1
 have HB := zm (Below.refl w.heap.size w)
 have H := h; clear h; unfold gFElement.f at H
 have H' := zm H
 clear H
 go_enter Try.func52, Try.ntmps52
 go_wp2_with (first | ((with_reducible refine gate_dst (N := 2) rfl ?_); refine zb 2 #[.int .i64 a0_0, .slice A0_1 l0_1.length c0_1] 68 ?_; intro gb101 hg w3 hbox hb; have BK101 := zm (hbox); have GW101 := zg HB hg; have GE101 := GW101; replace HB := zBb HB hb; clear hb hbox hg))
 go_loopg [1, 5] k (fun kq v1 v5 w' => ∃ (x1_1 : Int) (x5_1 : List Int), v1 = .int .i64 x1_1 ∧ Aside0 (gFElement.l0 kq x1_1 x5_1 a0_0 l0_1 = some r) ∧ Aside0 (kq ≤ k) ∧ Aside0 (Kd.R (Kd.int .i64) 3 w' w.heap.size (fun _ => True) v5 x5_1) ∧ Aside0 (w'.heap[gb101]? = some (.cells #[.int .i64 a0_0, (.slice A0_1 l0_1.length c0_1)] 68 (0, 0))) ∧ Aside0 (Below w.heap.size w w'))
 case atStart => exact ⟨(a1), (([] : List Int)), zX, H', ⟨Nat.le_refl _⟩, ⟨by first | exact Kd.R_nil _ _ _ _ _ | exact Kd.N_nil _ _ _ _ _ | exact Kd.V_nil _ _ _ _ _ | exact Kd.Q_nil _ _ _ _ _ | exact Kd.S_nil _ _ _ _ _⟩, ⟨zK BK101.out⟩, ⟨zT⟩⟩
 case round =>
  clear H'
  obtain ⟨x1_1, x5_1, rfl, HA, HK1, HO_5, BK101, HB⟩ := hrel
  cases gk with
  | zero => exact absurd HA.out (by simp [gFElement.l0])
  | succ k1 =>
   have H := HA.out
   clear HA
   simp only [gFElement.l0] at H
   by_cases c4 : x1_1 > 0
   rotate_left
   ·rw [if_neg c4] at H
    have c4b0 := decide_eq_false c4; clear c4
    obtain rfl := Option.some.inj H
    go_wp2
    go_ret
    exact ⟨_, zQ, zR HO_5.out, zT⟩
   rw [if_pos c4] at H
   have c4b0 := decide_eq_true c4; clear c4
   by_cases c5 : a0_0 = 0
   ·rw [if_pos c5] at H
    exact absurd H (by simp)
   rw [if_neg c5] at H
   obtain ⟨c5b0, c5b1⟩ := zU c5
   by_cases c6 : x5_1.length < 17592186044416
   rotate_left
   ·rw [if_neg c6] at H
    exact absurd H (by simp)
   rw [if_pos c6] at H
   have LMc6 := zm c6
   clear c6
   obtain ⟨y102, Ny102⟩ := zA ((x5_1 ++ [Int.tmod x1_1 a0_0]) : List Int); rw [← Ny102.out] at H
   have H' := zm H
   clear H
   obtain ⟨hcz7_0, hcz7_1, hfz7_0, hfz7_1⟩ := zf2 BK101
   go_wp2_with (first | ((with_reducible refine gate_builtin (b := .append) (xs := #[.tmp 13, .tmp 19]) rfl ?_); at_builtin; refine Kd.R_append (Kd.int .i64) (w0 := w) w.heap.size rfl (.tmp 13) (.tmp 19) 25 3 (.int .i64 0) 8 rfl Try.underlying25 info3 rfl (by decide) (by omega) u5 x5_1 (Int.tmod x1_1 a0_0) [.int .i64 (Int.tmod x1_1 a0_0)] (fun _ => True) (fun _ => False) rfl rfl ?aP (fun _ hk => hk.elim) ?aF ?aO ?aB ?aS ?aL ?_; (case aP => exact rfl); (case aB => exact (zT)); (case aF => exact (fun _ _ => trivial)); (case aO => exact (zR HO_5.out)); (case aS => exact (zS HB)); (case aL => have := LMc6.out; omega); intro v103 w8 ho hb hg hat; rw [← Ny102.out] at ho; replace BK101 := zm (blk_grown (g := gb101) (o := .cells #[.int .i64 a0_0, .slice A0_1 l0_1.length c0_1] 68 (0, 0)) (zK BK101.out) hg (Kd.R_ne HO_5.out BK101.out (by decide))); replace HB := zm (hb); have HO104 := zm (ho); clear HO_5; clear ho hb hg hat; obtain ⟨hcz9_0, hcz9_1, hfz9_0, hfz9_1⟩ := zf2 BK101))
   go_roundg k1
   case measure => have := HK1.out; omega
   case rel => exact ⟨(wrap64 (Int.tdiv x1_1 a0_0)), (y102), zX, H', ⟨by have := HK1.out; omega⟩, ⟨zR HO104.out⟩, ⟨zK BK101.out⟩, ⟨zT⟩⟩
def rs_Factor.f (k : Nat) (a0 : Int) : Option ((List (S107)) × Int) := (rs_bad.f (([a0] : List Int))).bind fun t104 => (if t104 = true then (some (([] : List (S107)), 3)) else ((rs_factor.f k a0).bind fun t105 => (some (t105, 0))))
theorem rs_Factor.mono : ∀ a0 k, LeO (rs_Factor.f k a0) (rs_Factor.f (k + 1) a0) := by
 intro a0 k
 unfold rs_Factor.f
 with_reducible repeat' first | exact rs_factor.mono _ _ | exact LeO.refl _ | exact LeO.none _ | refine LeO.ite ?_ ?_ | refine LeO.bind ?_ (fun _ => ?_)
theorem rs_Factor.calls (k : Nat) (a0 : Int) (r1 : List (S107)) (r2 : Int) (w : World) (h : rs_Factor.f k a0 = some (r1, r2)) :
  Calls Try.prog 102 #[.int .i64 a0] w fun e w' => ∃ v0_ : Value, e = .returned (.tuple #[v0_, .int .i64 r2]) ∧ Kd.R k107 107 w' w.heap.size (fun _ => True) v0_ r1 ∧ Below w.heap.size w w' := by
 have HB := zm (Below.refl w.heap.size w)
 have H := h; clear h; unfold rs_Factor.f at H
 obtain ⟨y101, Ny101⟩ := zA ((([a0] : List Int)) : List Int); rw [← Ny101.out] at H
 obtain ⟨t104, A2, H⟩ := zO H
 by_cases c3 : t104 = true
 ·subst c3
  rw [if_pos rfl] at H
  simp only [Option.some.injEq, Prod.mk.injEq] at H
  obtain ⟨rfl, rfl⟩ := H
  go_enter Try.func102, Try.ntmps102
  go_wp2_with (first | ((with_reducible refine gate_dst (N := 5) rfl ?_); refine Kd.R_lit (Kd.int .i64) _ 3 ?hg (N := 5) ?hd (xs := ([a0] : List Int)) (inner := [.int .i64 a0]) (ok := fun _ => True) (okp := fun _ => True) ?hr ?hp (fun _ hk => hk) trivial (Below.refl _ _) (Nat.le_refl _) (by simp) ?_; (case hd => rfl); (case hg => rfl); (case hr => go_simp <;> rfl); (case hp => exact (Reps.one (show Kd.M (Kd.int .i64) _ _ _ a0 [.int .i64 a0] from rfl) (Reps.none _ _))); intro v102 w4 ho5 hb hg_ hnew_; clear hg_ hnew_; (first | rw [← Ny101.out] at ho5 | (simp only [Int.reduceToNat] at ho5; rw [← Ny101.out] at ho5)); have HO103 := zm (Kd.R_lower ho5 (zS HB)); replace HB := zBb HB hb; clear hb ho5; obtain ⟨Ao6, co6, eo6⟩ := Kd.R_slice HO103.out; subst eo6) | ((with_reducible refine gate_callee (f := 115) rfl ?_); refine zG (some 6) Try.func115 #[.slice Ao6 y101.length co6] ?_; (with_reducible refine (rs_bad.calls _ _ y101 true _ (zC ((Kd.R_reads' HO103.out).2.2)) ((Kd.R_reads' HO103.out).2.1) A2.out).mono ?_); rintro e w' ⟨rfl, ⟨nd, rfl⟩⟩; refine ⟨_, rfl, ?_⟩))
  go_ret2
  exact ⟨_, zQ, by first | exact Kd.R_nil _ _ _ _ _ | exact Kd.N_nil _ _ _ _ _ | exact Kd.V_nil _ _ _ _ _ | exact Kd.Q_nil _ _ _ _ _ | exact Kd.S_nil _ _ _ _ _, zT⟩
 replace c3 := Bool.eq_false_iff.mpr c3
 subst c3
 rw [if_neg Bool.false_ne_true] at H
 obtain ⟨t105, A7, H⟩ := zO H
 simp only [Option.some.injEq, Prod.mk.injEq] at H
 obtain ⟨rfl, rfl⟩ := H
 go_enter Try.func102, Try.ntmps102
 go_wp2_with (first | ((with_reducible refine gate_dst (N := 5) rfl ?_); refine Kd.R_lit (Kd.int .i64) _ 3 ?hg (N := 5) ?hd (xs := ([a0] : List Int)) (inner := [.int .i64 a0]) (ok := fun _ => True) (okp := fun _ => True) ?hr ?hp (fun _ hk => hk) trivial (Below.refl _ _) (Nat.le_refl _) (by simp) ?_; (case hd => rfl); (case hg => rfl); (case hr => go_simp <;> rfl); (case hp => exact (Reps.one (show Kd.M (Kd.int .i64) _ _ _ a0 [.int .i64 a0] from rfl) (Reps.none _ _))); intro v102 w8 ho9 hb hg_ hnew_; clear hg_ hnew_; (first | rw [← Ny101.out] at ho9 | (simp only [Int.reduceToNat] at ho9; rw [← Ny101.out] at ho9)); have HO103 := zm (Kd.R_lower ho9 (zS HB)); replace HB := zBb HB hb; clear hb ho9; obtain ⟨Ao10, co10, eo10⟩ := Kd.R_slice HO103.out; subst eo10) | ((with_reducible refine gate_callee (f := 115) rfl ?_); refine zG (some 6) Try.func115 #[.slice Ao10 y101.length co10] ?_; (with_reducible refine (rs_bad.calls _ _ y101 false _ (zC ((Kd.R_reads' HO103.out).2.2)) ((Kd.R_reads' HO103.out).2.1) A2.out).mono ?_); rintro e w' ⟨rfl, ⟨nd, rfl⟩⟩; refine ⟨_, rfl, ?_⟩) | ((with_reducible refine gate_callee (f := 116) rfl ?_); refine zG (some 8) Try.func116 #[.int .i64 a0] ?_; (with_reducible refine (rs_factor.calls k a0 t105 _ A7.out).mono ?_); rintro e w11 ⟨v106, rfl, ho0, hb⟩; refine ⟨_, rfl, ?_⟩; replace HO103 := zRb HO103 hb; have HO107 := zm (Kd.R_lower ho0 (zS HB)); replace HB := zBb HB hb))
 go_ret2
 exact ⟨_, zQ, zR HO107.out, zT⟩
def gFGenerates.l0 : Nat → List Int → Int → List (S107) → Int → Int → Int → List Int → Option (Bool)
 | 0, _, _, _, _, _, _, _ => none
 | k + 1, x1, x2, x17, x18, x19, x102000, x102001 => if x19 < x18 then (if 0 ≤ x19 then (if x19 < (x17.length : Int) then (if ((rd_T107 x17 x19).f0) = 0 then (none) else ((gFPow.f k x102000 x102001 x1 (wrap64 (Int.tdiv (wrap64 (x2 - 1)) ((rd_T107 x17 x19).f0)))).bind fun t108 => ((gf_IsOne.f t108).bind fun t111 => (if t111 = true then (some false) else (gFGenerates.l0 k x1 x2 x17 x18 (wrap64 (x19 + 1)) x102000 x102001))))) else (none)) else (none)) else (some (decide ((x1.length : Int) > 0)))
def gFGenerates.f (k : Nat) (a0_0 : Int) (l0_1 : List Int) (l1 : List Int) (a2 : Int) : Option (Bool) := (rs_Factor.f k (wrap64 (a2 - 1))).bind fun bt102 => (gFGenerates.l0 k l1 a2 bt102.1 (bt102.1.length : Int) 0 a0_0 l0_1)
theorem gFGenerates.mono_l : ∀ k, (∀ y0 y1 y2 y3 y4 y5 y6, LeO (gFGenerates.l0 k y0 y1 y2 y3 y4 y5 y6) (gFGenerates.l0 (k + 1) y0 y1 y2 y3 y4 y5 y6))
 | 0 => fun _ _ _ _ _ _ _ r h => by simp [gFGenerates.l0] at h
 | k + 1 => by
  have ih0 := gFGenerates.mono_l k
  intro y0 y1 y2 y3 y4 y5 y6
  unfold gFGenerates.l0
  with_reducible repeat' first | exact ih0 _ _ _ _ _ _ _ | exact gFPow.mono _ _ _ _ _ | exact rs_Factor.mono _ _ | exact LeO.refl _ | exact LeO.none _ | refine LeO.ite ?_ ?_ | refine LeO.bind ?_ (fun _ => ?_)
theorem gFGenerates.mono : ∀ a0 a1 a2 a3 k, LeO (gFGenerates.f k a0 a1 a2 a3) (gFGenerates.f (k + 1) a0 a1 a2 a3) := by
 intro a0 a1 a2 a3 k
 have ih0 := gFGenerates.mono_l k
 unfold gFGenerates.f
 with_reducible repeat' first | exact ih0 _ _ _ _ _ _ _ | exact gFPow.mono _ _ _ _ _ | exact rs_Factor.mono _ _ | exact LeO.refl _ | exact LeO.none _ | refine LeO.ite ?_ ?_ | refine LeO.bind ?_ (fun _ => ?_)
def gFGenerates.T5 : Bool × List (List Nat × List Nat) := (true, [([], []), ([], []), ([], []), ([2], [2]), ([], []), ([4], [4]), ([3, 5], [3, 5]), ([0, 1, 6], [0, 1, 6]), ([7, 7], [7])])
def gFGenerates.B5 : List Nat := [0, 0, 0, 4, 0, 16, 60, 127, 255]
theorem gFGenerates.tab5 : rtab .any (opsOf Try.f72 5) = gFGenerates.T5 := by kernel_rfl
theorem gFGenerates.bits5 : waitsOk gFGenerates.T5.2 gFGenerates.B5 = true := by kernel_rfl
theorem gFGenerates.calls (k : Nat) (a0_0 : Int) (A0_1 : Option Addr) (c0_1 : Nat) (l0_1 : List Int) (A1 : Option Addr) (c1 : Nat) (l1 : List Int) (a2 : Int) (r : Bool) (w : World) (hr0_1 : Kd.C (Kd.int .i64) w A0_1 l0_1.length l0_1) (hc0_1 : l0_1.length ≤ c0_1) (hr1 : Kd.C (Kd.int .i64) w A1 l1.length l1) (hc1 : l1.length ≤ c1) (h : gFGenerates.f k a0_0 l0_1 l1 a2 = some r) :
  Calls Try.prog 72 #[.agg #[.int .i64 a0_0, .slice A0_1 l0_1.length c0_1], .slice A1 l1.length c1, .int .i64 a2] w fun e w' => e = .returned (.bool r) ∧ Below w.heap.size w w' := by
 have hu68 := Try.underlying68
 have hu107 := Try.underlying107
 have HR0_1 := zm hr0_1
 have HC0_1 := zm hc0_1
 clear hr0_1 hc0_1
 have HR1 := zm hr1
 have HC1 := zm hc1
 clear hr1 hc1
 have HB := zm (Below.refl w.heap.size w)
 have H := h; clear h; unfold gFGenerates.f at H
 obtain ⟨⟨t102, t103⟩, A4, H⟩ := zO H; try dsimp only at H
 have H' := zm H
 clear H
 go_enter Try.func72, Try.ntmps72
 go_wp2_with (first | ((with_reducible refine gate_dst (N := 3) rfl ?_); refine zb 3 #[.int .i64 a0_0, .slice A0_1 l0_1.length c0_1] 68 ?_; intro gb101 hg w5 hbox hb; have BK101 := zm (hbox); have GW101 := zg HB hg; have GE101 := GW101; replace HB := zBb HB hb; clear hb hbox hg) | ((with_reducible refine gate_callee (f := 102) rfl ?_); refine zG (some 14) Try.func102 #[.int .i64 (wrap64 (a2 - 1))] ?_; (with_reducible refine (rs_Factor.calls k (wrap64 (a2 - 1)) t102 t103 _ A4.out).mono ?_); rintro e w6 ⟨v104, rfl, ho0, hb⟩; refine ⟨_, rfl, ?_⟩; have HO105 := zm (Kd.R_lower ho0 (zS HB)); replace BK101 := zKb BK101 hb; replace HB := zBb HB hb; obtain ⟨Ao7, co7, eo7⟩ := Kd.R_slice HO105.out; subst eo7))
 go_loopg [19] k (fun kq v19 w' => ∃ (x19_1 : Int), v19 = .int .i64 x19_1 ∧ Aside0 (gFGenerates.l0 kq l1 a2 t102 (t102.length : Int) x19_1 a0_0 l0_1 = some r) ∧ Aside0 (kq ≤ k) ∧ Aside0 (Kd.R k107 107 w' w.heap.size (fun _ => True) (.slice Ao7 t102.length co7) t102) ∧ Aside0 (w'.heap[gb101]? = some (.cells #[.int .i64 a0_0, (.slice A0_1 l0_1.length c0_1)] 68 (0, 0))) ∧ Aside0 (Below w.heap.size w w'))
 case atStart => exact ⟨(0), zX, H', ⟨Nat.le_refl _⟩, ⟨zR HO105.out⟩, ⟨zK BK101.out⟩, ⟨zT⟩⟩
 case round =>
  clear H'
  obtain ⟨x19_1, rfl, HA, HK1, HO_17, BK101, HB⟩ := hrel
  cases gk with
  | zero => exact absurd HA.out (by simp [gFGenerates.l0])
  | succ k1 =>
   have H := HA.out
   clear HA
   simp only [gFGenerates.l0] at H
   by_cases c8 : x19_1 < (t102.length : Int)
   rotate_left
   ·rw [if_neg c8] at H
    have c8b0 := decide_eq_false c8; clear c8
    obtain rfl := Option.some.inj H
    go_wp2
    go_ret
    exact ⟨zQ, zT⟩
   rw [if_pos c8] at H
   have c8b0 := decide_eq_true c8; clear c8
   by_cases c9 : 0 ≤ x19_1
   rotate_left
   ·rw [if_neg c9] at H
    exact absurd H (by simp)
   rw [if_pos c9] at H
   have c9b0 := decide_eq_true c9; clear c9
   by_cases c10 : x19_1 < (t102.length : Int)
   rotate_left
   ·rw [if_neg c10] at H
    exact absurd H (by simp)
   rw [if_pos c10] at H
   have c10b0 := decide_eq_true c10; clear c10
   by_cases c11 : ((rd_T107 t102 x19_1).f0) = 0
   ·rw [if_pos c11] at H
    exact absurd H (by simp)
   rw [if_neg c11] at H
   obtain ⟨c11b0, c11b1⟩ := zU c11
   obtain ⟨t108, A12, H⟩ := zO H
   obtain ⟨t111, A13, H⟩ := zO H
   by_cases c14 : t111 = true
   ·subst c14
    rw [if_pos rfl] at H
    obtain rfl := Option.some.inj H
    have p106 : 0 ≤ (x19_1 : Int) := zD
    have q106 : x19_1 < (t102.length : Int) := zD
    obtain ⟨ad106, e106, hx106_0, hx106_1⟩ := at_T107 (Kd.R_reads' HO_17.out).2.2 x19_1 p106 q106
    cases e106
    replace p106 := eq_true p106
    replace q106 := eq_true q106
    try go_wp2_with (first | ((with_reducible refine gate_dst (N := 10) rfl ?_); refine zb 10 #[.int .i64 0, .int .i64 0] 107 ?_; intro gb107 hg w15 hbox hb; replace HO_17 := zm (Kd.R_below (Kd.R_elderB (zR HO_17.out) gb107 (Nat.le_of_eq hg.symm)) hb); have BK107 := zm (hbox); have GW107 := zg HB hg; have GE107 := GW107; replace HB := zBb HB hb; have NB101_107 := zm ((by rw [hg]; exact Nat.ne_of_lt (blk_lt (zK BK101.out)) : gb101 ≠ gb107)); have NB107_101 := zm ((by rw [hg]; exact Nat.ne_of_gt (blk_lt (zK BK101.out)) : gb107 ≠ gb101)); replace BK101 := zKb BK101 hb; clear hb hbox hg; have hnb16 := NB107_101.out; have hnc16 := NB101_107.out; obtain ⟨hcz17_0, hcz17_1, hfz17_0, hfz17_1⟩ := zf2 BK107))
    have n0_ : Aside0 (Kd.R k107 107 ((w15.setCell ⟨gb107, 0, none⟩ (.int .i64 ((rd_T107 t102 x19_1).f0))).setCell ⟨gb107, 1, none⟩ (.int .i64 ((rd_T107 t102 x19_1).f1))) w.heap.size (fun k_ => k_ ≠ gb107) (.slice (some ad106) t102.length co7) t102) := ⟨zR (Kd.R_mono (Kd.R_far (p := ⟨gb107, 1, none⟩) (Kd.R_far (p := ⟨gb107, 0, none⟩) (Kd.R_mono HO_17.out (fun k_ hk => (⟨hk, hk.2⟩ : _ ∧ k_ ≠ gb107))) (fun _ hk => hk.2) (.int .i64 ((rd_T107 t102 x19_1).f0))) (fun _ hk => hk.2) (.int .i64 ((rd_T107 t102 x19_1).f1))) (fun _ hk => hk.1.2))⟩
    have n1_ : Aside0 (((w15.setCell ⟨gb107, 0, none⟩ (.int .i64 ((rd_T107 t102 x19_1).f0))).setCell ⟨gb107, 1, none⟩ (.int .i64 ((rd_T107 t102 x19_1).f1))).heap[gb101]? = some (.cells #[.int .i64 a0_0, .slice A0_1 l0_1.length c0_1] 68 (0, 0))) := ⟨by (with_reducible repeat (first | refine blk_drewN ?_ _ | refine blk_drew ?_ | refine blk_alloc ?_ _)); refine blk_far ?_ NB101_107.out _; (with_reducible repeat (first | refine blk_drewN ?_ _ | refine blk_drew ?_ | refine blk_alloc ?_ _)); refine blk_far ?_ NB101_107.out _; (with_reducible repeat (first | refine blk_drewN ?_ _ | refine blk_drew ?_ | refine blk_alloc ?_ _)); exact BK101.out⟩
    have n2_ : Aside0 (((w15.setCell ⟨gb107, 0, none⟩ (.int .i64 ((rd_T107 t102 x19_1).f0))).setCell ⟨gb107, 1, none⟩ (.int .i64 ((rd_T107 t102 x19_1).f1))).heap[gb107]? = some (.cells #[.int .i64 ((rd_T107 t102 x19_1).f0), .int .i64 ((rd_T107 t102 x19_1).f1)] 107 (0, 0))) := ⟨by (with_reducible repeat (first | refine blk_drewN ?_ _ | refine blk_drew ?_ | refine blk_alloc ?_ _)); refine blk_put (cs := #[.int .i64 ((rd_T107 t102 x19_1).f0), .int .i64 0]) ?_ 1 _ rfl; (with_reducible repeat (first | refine blk_drewN ?_ _ | refine blk_drew ?_ | refine blk_alloc ?_ _)); refine blk_put (cs := #[.int .i64 0, .int .i64 0]) ?_ 0 _ rfl; (with_reducible repeat (first | refine blk_drewN ?_ _ | refine blk_drew ?_ | refine blk_alloc ?_ _)); exact BK107.out⟩
    have n3_ : Aside0 (Below w.heap.size w ((w15.setCell ⟨gb107, 0, none⟩ (.int .i64 ((rd_T107 t102 x19_1).f0))).setCell ⟨gb107, 1, none⟩ (.int .i64 ((rd_T107 t102 x19_1).f1)))) := ⟨zT⟩
    (try clear HO_17)
    (try clear BK101)
    (try clear BK107)
    (try clear HB)
    generalize ((w15.setCell ⟨gb107, 0, none⟩ (.int .i64 ((rd_T107 t102 x19_1).f0))).setCell ⟨gb107, 1, none⟩ (.int .i64 ((rd_T107 t102 x19_1).f1))) = w18 at n0_ n1_ n2_ n3_ ⊢
    have HO_17 := n0_
    have BK101 := n1_
    have BK107 := n2_
    have HB := n3_
    clear n0_ n1_ n2_ n3_
    replace HO_17 := zm (Kd.R_drew HO_17.out)
    replace BK101 := zm (blk_drew BK101.out)
    replace BK107 := zm (blk_drew BK107.out)
    replace HB := zm (below_drew1 HB.out)
    refine start_ (n := 9) (S := fun w' => w'.cell? ⟨gb101, 0, none⟩ = some (.int .i64 a0_0) ∧ w'.cell? ⟨gb101, 1, none⟩ = some (.slice A0_1 l0_1.length c0_1) ∧ w'.cell? ⟨gb107, 0, none⟩ = some (.int .i64 ((rd_T107 t102 x19_1).f0)) ∧ w'.cell? ⟨gb107, 1, none⟩ = some (.int .i64 ((rd_T107 t102 x19_1).f1))) (ds := []) #[false, false, false, false, false, false, false, false, false] (by kernel_rfl) rfl rfl ⟨(blk_cell BK101.out 0).trans rfl, (blk_cell BK101.out 1).trans rfl, (blk_cell BK107.out 0).trans rfl, (blk_cell BK107.out 1).trans rfl⟩ (fun hHeld => ?_); refine with_tabW gFGenerates.tab5 gFGenerates.bits5 (fun HT_ HW_ => ?_)
    generalize w18.drew = w19 at HO_17 BK101 BK107 HB hHeld ⊢
    refine zP 1 24 ?_; refine zP 2 25 ?_; refine zP 3 26 ?_; refine zP 4 27 ?_
    refine take_ (i := 0) (N := some 23) (v := ?_) (a' := ?_) #[true, true, true, true, true, false, false, false, false] rfl rfl (take_ofW HT_.out HW_.out (by kernel_rfl)) (fun _ _ _ h => h) (Or.inl ⟨by rfl, ?_⟩) hHeld ?_ ?_
    rotate_left
    ·rintro w' ⟨s0, s1, s2, s3⟩
     go_simp
     with_reducible rfl
    rotate_left
    ·simp only [Act.put, List.setIfInBounds_toArray, List.set_cons_zero, List.set_cons_succ, i64_w, i32_w]
     rfl
    refine take_ (i := 5) (N := some 28) (v := ?_) (a' := ?_) #[true, true, true, true, true, true, false, false, false] rfl rfl (take_ofW HT_.out HW_.out (by kernel_rfl)) (fun _ _ _ h => h) (Or.inl ⟨by rfl, ?_⟩) hHeld ?_ ?_
    rotate_left
    ·rintro w' ⟨s0, s1, s2, s3⟩
     go_simp
     with_reducible rfl
    rotate_left
    ·simp only [Act.put, List.setIfInBounds_toArray, List.set_cons_zero, List.set_cons_succ, i64_w, i32_w]
     rfl
    refine zP 6 29 ?_
    refine one_ (i := 7) (N := some 30) #[true, true, true, true, true, true, true, true, false] rfl rfl (one_of HT_.out (by kernel_rfl)) (by decide) (fun K hK => ?_)
    refine goes_ Try.func54 (by kernel_rfl) rfl #[.agg #[.int .i64 a0_0, .slice A0_1 l0_1.length c0_1], .slice A1 l1.length c1, .int .i64 (wrap64 (Int.tdiv (wrap64 (a2 - 1)) ((rd_T107 t102 x19_1).f0)))] (by rfl) rfl rfl (by (try simp only [List.map_toArray, List.map_cons, List.map_nil]); first | done | rfl | (simp only [List.length_drop, List.length_take]; rfl)) ?_
    with_reducible refine (gFPow.calls k1 a0_0 _ _ l0_1 (fun k_ => k_ < w.heap.size) _ _ l1 (wrap64 (Int.tdiv (wrap64 (a2 - 1)) ((rd_T107 t102 x19_1).f0))) t108 _ ?side1 ?side2 ?side3 A12.out).mono ?_
    (case side1 => exact zC (Kd.C_below HR0_1.out HB.out))
    (case side2 => exact HC0_1.out)
    (case side3 => exact Kd.V_mk HC1.out (Kd.F_below (Kd.C_F (Kd.heap_int .i64) HR1.out) (zT)))
    rintro e w20 ⟨v109, rfl, ho0, hb⟩
    refine ⟨_, rfl, ?_⟩
    have HO110 := zm (Kd.V_lower (Kd.V_mono (ok' := fun k_ => some k_ ≠ (.slice (some ad106) t102.length co7 : Value).ownBlock ∧ k_ ≠ gb101 ∧ k_ ≠ gb107) ho0 (fun k_ hk_ => ⟨Or.elim hk_ (fun hs_ => fun e_ => Nat.not_le.2 hs_ (Kd.R_base HO_17.out k_ e_.symm)) (fun hn_ => (Kd.fresh' (Kd.R_lt (zR HO_17.out)) k_ hn_)), Or.elim hk_ (fun hs_ => fun e_ => Nat.not_le.2 hs_ (by rw [e_]; exact GW101.out)) (fun hn_ => (Kd.freshB (zK BK101.out) k_ hn_)), Or.elim hk_ (fun hs_ => fun e_ => Nat.not_le.2 hs_ (by rw [e_]; exact GW107.out)) (fun hn_ => (Kd.freshB (zK BK107.out) k_ hn_))⟩)) (zS HB))
    replace HO_17 := zRb HO_17 hb
    replace BK101 := zKb BK101 hb
    replace BK107 := zKb BK107 hb
    replace HB := zBb HB hb
    (try clear hb)
    (try clear hb2)
    (try clear hk)
    (try clear hi)
    (try clear ho0)
    obtain ⟨Ao21, co21, eo21⟩ := Kd.V_slice HO110.out
    (first | subst eo21 | (injection eo21 with f1_ f2_ f3_; have f4_ := f1_.symm; have f5_ := f3_.symm; clear f1_ f2_ f3_; subst f4_; subst f5_))
    refine hK.out _ _ ⟨(blk_cell BK101.out 0).trans rfl, (blk_cell BK101.out 1).trans rfl, (blk_cell BK107.out 0).trans rfl, (blk_cell BK107.out 1).trans rfl⟩ (fun hHeld => ?_)
    clear hK K
    refine norm_ (a' := ?_) ?_ ?_
    rotate_left
    ·show Act.put _ (some 30) _ = _
     simp only [Act.put, List.setIfInBounds_toArray, List.set_cons_zero, List.set_cons_succ, i64_w, i32_w]
     rfl
    refine one_ (i := 8) (N := some 31) #[true, true, true, true, true, true, true, true, true] rfl rfl (one_of HT_.out (by kernel_rfl)) (by decide) (fun K hK => ?_)
    refine goes_ Try.func55 (by kernel_rfl) rfl #[.slice Ao21 t108.length co21] (by rfl) rfl rfl (by (try simp only [List.map_toArray, List.map_cons, List.map_nil]); first | done | rfl | (simp only [List.length_drop, List.length_take]; rfl)) ?_
    with_reducible refine (gf_IsOne.calls _ _ t108 true _ ?side1 ?side2 A13.out).mono ?_
    (case side1 => exact zC ((Kd.V_reads' HO110.out).2.2))
    (case side2 => exact (Kd.V_reads' HO110.out).2.1)
    rintro e w' ⟨rfl, ⟨nd, rfl⟩⟩
    refine ⟨_, rfl, ?_⟩
    refine hK.out _ _ ⟨(blk_cell BK101.out 0).trans rfl, (blk_cell BK101.out 1).trans rfl, (blk_cell BK107.out 0).trans rfl, (blk_cell BK107.out 1).trans rfl⟩ (fun hHeld => ?_)
    clear hK K
    refine norm_ (a' := ?_) ?_ ?_
    rotate_left
    ·show Act.put _ (some 31) _ = _
     simp only [Act.put, List.setIfInBounds_toArray, List.set_cons_zero, List.set_cons_succ, i64_w, i32_w]
     rfl
    refine done_ (done_of HT_.out (by kernel_rfl)) ?_
    try go_wp2
    go_ret
    exact ⟨zQ, zT⟩
   replace c14 := Bool.eq_false_iff.mpr c14
   subst c14
   rw [if_neg Bool.false_ne_true] at H
   have H' := zm H
   clear H
   have p106 : 0 ≤ (x19_1 : Int) := zD
   have q106 : x19_1 < (t102.length : Int) := zD
   obtain ⟨ad106, e106, hx106_0, hx106_1⟩ := at_T107 (Kd.R_reads' HO_17.out).2.2 x19_1 p106 q106
   cases e106
   replace p106 := eq_true p106
   replace q106 := eq_true q106
   try go_wp2_with (first | ((with_reducible refine gate_dst (N := 10) rfl ?_); refine zb 10 #[.int .i64 0, .int .i64 0] 107 ?_; intro gb107 hg w22 hbox hb; replace HO_17 := zm (Kd.R_below (Kd.R_elderB (zR HO_17.out) gb107 (Nat.le_of_eq hg.symm)) hb); have BK107 := zm (hbox); have GW107 := zg HB hg; have GE107 := GW107; replace HB := zBb HB hb; have NB101_107 := zm ((by rw [hg]; exact Nat.ne_of_lt (blk_lt (zK BK101.out)) : gb101 ≠ gb107)); have NB107_101 := zm ((by rw [hg]; exact Nat.ne_of_gt (blk_lt (zK BK101.out)) : gb107 ≠ gb101)); replace BK101 := zKb BK101 hb; clear hb hbox hg; have hnb23 := NB107_101.out; have hnc23 := NB101_107.out; obtain ⟨hcz24_0, hcz24_1, hfz24_0, hfz24_1⟩ := zf2 BK107))
   have n0_ : Aside0 (Kd.R k107 107 ((w22.setCell ⟨gb107, 0, none⟩ (.int .i64 ((rd_T107 t102 x19_1).f0))).setCell ⟨gb107, 1, none⟩ (.int .i64 ((rd_T107 t102 x19_1).f1))) w.heap.size (fun k_ => k_ ≠ gb107) (.slice (some ad106) t102.length co7) t102) := ⟨zR (Kd.R_mono (Kd.R_far (p := ⟨gb107, 1, none⟩) (Kd.R_far (p := ⟨gb107, 0, none⟩) (Kd.R_mono HO_17.out (fun k_ hk => (⟨hk, hk.2⟩ : _ ∧ k_ ≠ gb107))) (fun _ hk => hk.2) (.int .i64 ((rd_T107 t102 x19_1).f0))) (fun _ hk => hk.2) (.int .i64 ((rd_T107 t102 x19_1).f1))) (fun _ hk => hk.1.2))⟩
   have n1_ : Aside0 (((w22.setCell ⟨gb107, 0, none⟩ (.int .i64 ((rd_T107 t102 x19_1).f0))).setCell ⟨gb107, 1, none⟩ (.int .i64 ((rd_T107 t102 x19_1).f1))).heap[gb101]? = some (.cells #[.int .i64 a0_0, .slice A0_1 l0_1.length c0_1] 68 (0, 0))) := ⟨by (with_reducible repeat (first | refine blk_drewN ?_ _ | refine blk_drew ?_ | refine blk_alloc ?_ _)); refine blk_far ?_ NB101_107.out _; (with_reducible repeat (first | refine blk_drewN ?_ _ | refine blk_drew ?_ | refine blk_alloc ?_ _)); refine blk_far ?_ NB101_107.out _; (with_reducible repeat (first | refine blk_drewN ?_ _ | refine blk_drew ?_ | refine blk_alloc ?_ _)); exact BK101.out⟩
   have n2_ : Aside0 (((w22.setCell ⟨gb107, 0, none⟩ (.int .i64 ((rd_T107 t102 x19_1).f0))).setCell ⟨gb107, 1, none⟩ (.int .i64 ((rd_T107 t102 x19_1).f1))).heap[gb107]? = some (.cells #[.int .i64 ((rd_T107 t102 x19_1).f0), .int .i64 ((rd_T107 t102 x19_1).f1)] 107 (0, 0))) := ⟨by (with_reducible repeat (first | refine blk_drewN ?_ _ | refine blk_drew ?_ | refine blk_alloc ?_ _)); refine blk_put (cs := #[.int .i64 ((rd_T107 t102 x19_1).f0), .int .i64 0]) ?_ 1 _ rfl; (with_reducible repeat (first | refine blk_drewN ?_ _ | refine blk_drew ?_ | refine blk_alloc ?_ _)); refine blk_put (cs := #[.int .i64 0, .int .i64 0]) ?_ 0 _ rfl; (with_reducible repeat (first | refine blk_drewN ?_ _ | refine blk_drew ?_ | refine blk_alloc ?_ _)); exact BK107.out⟩
   have n3_ : Aside0 (Below w.heap.size w ((w22.setCell ⟨gb107, 0, none⟩ (.int .i64 ((rd_T107 t102 x19_1).f0))).setCell ⟨gb107, 1, none⟩ (.int .i64 ((rd_T107 t102 x19_1).f1)))) := ⟨zT⟩
   (try clear HO_17)
   (try clear BK101)
   (try clear BK107)
   (try clear HB)
   generalize ((w22.setCell ⟨gb107, 0, none⟩ (.int .i64 ((rd_T107 t102 x19_1).f0))).setCell ⟨gb107, 1, none⟩ (.int .i64 ((rd_T107 t102 x19_1).f1))) = w25 at n0_ n1_ n2_ n3_ ⊢
   have HO_17 := n0_
   have BK101 := n1_
   have BK107 := n2_
   have HB := n3_
   clear n0_ n1_ n2_ n3_
   replace HO_17 := zm (Kd.R_drew HO_17.out)
   replace BK101 := zm (blk_drew BK101.out)
   replace BK107 := zm (blk_drew BK107.out)
   replace HB := zm (below_drew1 HB.out)
   refine start_ (n := 9) (S := fun w' => w'.cell? ⟨gb101, 0, none⟩ = some (.int .i64 a0_0) ∧ w'.cell? ⟨gb101, 1, none⟩ = some (.slice A0_1 l0_1.length c0_1) ∧ w'.cell? ⟨gb107, 0, none⟩ = some (.int .i64 ((rd_T107 t102 x19_1).f0)) ∧ w'.cell? ⟨gb107, 1, none⟩ = some (.int .i64 ((rd_T107 t102 x19_1).f1))) (ds := []) #[false, false, false, false, false, false, false, false, false] (by kernel_rfl) rfl rfl ⟨(blk_cell BK101.out 0).trans rfl, (blk_cell BK101.out 1).trans rfl, (blk_cell BK107.out 0).trans rfl, (blk_cell BK107.out 1).trans rfl⟩ (fun hHeld => ?_); refine with_tabW gFGenerates.tab5 gFGenerates.bits5 (fun HT_ HW_ => ?_)
   generalize w25.drew = w26 at HO_17 BK101 BK107 HB hHeld ⊢
   refine zP 1 24 ?_; refine zP 2 25 ?_; refine zP 3 26 ?_; refine zP 4 27 ?_
   refine take_ (i := 0) (N := some 23) (v := ?_) (a' := ?_) #[true, true, true, true, true, false, false, false, false] rfl rfl (take_ofW HT_.out HW_.out (by kernel_rfl)) (fun _ _ _ h => h) (Or.inl ⟨by rfl, ?_⟩) hHeld ?_ ?_
   rotate_left
   ·rintro w' ⟨s0, s1, s2, s3⟩
    go_simp
    with_reducible rfl
   rotate_left
   ·simp only [Act.put, List.setIfInBounds_toArray, List.set_cons_zero, List.set_cons_succ, i64_w, i32_w]
    rfl
   refine take_ (i := 5) (N := some 28) (v := ?_) (a' := ?_) #[true, true, true, true, true, true, false, false, false] rfl rfl (take_ofW HT_.out HW_.out (by kernel_rfl)) (fun _ _ _ h => h) (Or.inl ⟨by rfl, ?_⟩) hHeld ?_ ?_
   rotate_left
   ·rintro w' ⟨s0, s1, s2, s3⟩
    go_simp
    with_reducible rfl
   rotate_left
   ·simp only [Act.put, List.setIfInBounds_toArray, List.set_cons_zero, List.set_cons_succ, i64_w, i32_w]
    rfl
   refine zP 6 29 ?_
   refine one_ (i := 7) (N := some 30) #[true, true, true, true, true, true, true, true, false] rfl rfl (one_of HT_.out (by kernel_rfl)) (by decide) (fun K hK => ?_)
   refine goes_ Try.func54 (by kernel_rfl) rfl #[.agg #[.int .i64 a0_0, .slice A0_1 l0_1.length c0_1], .slice A1 l1.length c1, .int .i64 (wrap64 (Int.tdiv (wrap64 (a2 - 1)) ((rd_T107 t102 x19_1).f0)))] (by rfl) rfl rfl (by (try simp only [List.map_toArray, List.map_cons, List.map_nil]); first | done | rfl | (simp only [List.length_drop, List.length_take]; rfl)) ?_
   with_reducible refine (gFPow.calls k1 a0_0 _ _ l0_1 (fun k_ => k_ < w.heap.size) _ _ l1 (wrap64 (Int.tdiv (wrap64 (a2 - 1)) ((rd_T107 t102 x19_1).f0))) t108 _ ?side1 ?side2 ?side3 A12.out).mono ?_
   (case side1 => exact zC (Kd.C_below HR0_1.out HB.out))
   (case side2 => exact HC0_1.out)
   (case side3 => exact Kd.V_mk HC1.out (Kd.F_below (Kd.C_F (Kd.heap_int .i64) HR1.out) (zT)))
   rintro e w27 ⟨v109, rfl, ho0, hb⟩
   refine ⟨_, rfl, ?_⟩
   have HO110 := zm (Kd.V_lower (Kd.V_mono (ok' := fun k_ => some k_ ≠ (.slice (some ad106) t102.length co7 : Value).ownBlock ∧ k_ ≠ gb101 ∧ k_ ≠ gb107) ho0 (fun k_ hk_ => ⟨Or.elim hk_ (fun hs_ => fun e_ => Nat.not_le.2 hs_ (Kd.R_base HO_17.out k_ e_.symm)) (fun hn_ => (Kd.fresh' (Kd.R_lt (zR HO_17.out)) k_ hn_)), Or.elim hk_ (fun hs_ => fun e_ => Nat.not_le.2 hs_ (by rw [e_]; exact GW101.out)) (fun hn_ => (Kd.freshB (zK BK101.out) k_ hn_)), Or.elim hk_ (fun hs_ => fun e_ => Nat.not_le.2 hs_ (by rw [e_]; exact GW107.out)) (fun hn_ => (Kd.freshB (zK BK107.out) k_ hn_))⟩)) (zS HB))
   replace HO_17 := zRb HO_17 hb
   replace BK101 := zKb BK101 hb
   replace BK107 := zKb BK107 hb
   replace HB := zBb HB hb
   (try clear hb)
   (try clear hb2)
   (try clear hk)
   (try clear hi)
   (try clear ho0)
   obtain ⟨Ao28, co28, eo28⟩ := Kd.V_slice HO110.out
   (first | subst eo28 | (injection eo28 with f1_ f2_ f3_; have f4_ := f1_.symm; have f5_ := f3_.symm; clear f1_ f2_ f3_; subst f4_; subst f5_))
   refine hK.out _ _ ⟨(blk_cell BK101.out 0).trans rfl, (blk_cell BK101.out 1).trans rfl, (blk_cell BK107.out 0).trans rfl, (blk_cell BK107.out 1).trans rfl⟩ (fun hHeld => ?_)
   clear hK K
   refine norm_ (a' := ?_) ?_ ?_
   rotate_left
   ·show Act.put _ (some 30) _ = _
    simp only [Act.put, List.setIfInBounds_toArray, List.set_cons_zero, List.set_cons_succ, i64_w, i32_w]
    rfl
   refine one_ (i := 8) (N := some 31) #[true, true, true, true, true, true, true, true, true] rfl rfl (one_of HT_.out (by kernel_rfl)) (by decide) (fun K hK => ?_)
   refine goes_ Try.func55 (by kernel_rfl) rfl #[.slice Ao28 t108.length co28] (by rfl) rfl rfl (by (try simp only [List.map_toArray, List.map_cons, List.map_nil]); first | done | rfl | (simp only [List.length_drop, List.length_take]; rfl)) ?_
   with_reducible refine (gf_IsOne.calls _ _ t108 false _ ?side1 ?side2 A13.out).mono ?_
   (case side1 => exact zC ((Kd.V_reads' HO110.out).2.2))
   (case side2 => exact (Kd.V_reads' HO110.out).2.1)
   rintro e w' ⟨rfl, ⟨nd, rfl⟩⟩
   refine ⟨_, rfl, ?_⟩
   refine hK.out _ _ ⟨(blk_cell BK101.out 0).trans rfl, (blk_cell BK101.out 1).trans rfl, (blk_cell BK107.out 0).trans rfl, (blk_cell BK107.out 1).trans rfl⟩ (fun hHeld => ?_)
   clear hK K
   refine norm_ (a' := ?_) ?_ ?_
   rotate_left
   ·show Act.put _ (some 31) _ = _
    simp only [Act.put, List.setIfInBounds_toArray, List.set_cons_zero, List.set_cons_succ, i64_w, i32_w]
    rfl
   refine done_ (done_of HT_.out (by kernel_rfl)) ?_
   try go_wp2
   go_roundg k1
   case measure => have := HK1.out; omega
   case rel => exact ⟨(wrap64 (x19_1 + 1)), zX, H', ⟨by have := HK1.out; omega⟩, ⟨zR (Kd.R_mono HO_17.out (fun _ hk => trivial))⟩, ⟨zK BK101.out⟩, ⟨zT⟩⟩
def cmp_isNaN_int.f (a0 : Int) : Option (Bool) := some (a0 != a0)
theorem cmp_isNaN_int.calls (a0 : Int) (r : Bool) (w : World) (h : cmp_isNaN_int.f a0 = some r) :
  Calls Try.prog 121 #[.int .i64 a0] w fun e w' => e = .returned (.bool r) ∧ Drawn0 w w' := by
 have H := h; clear h; unfold cmp_isNaN_int.f at H
 obtain rfl := Option.some.inj H
 go_enter Try.func121, Try.ntmps121
 go_wp2
 go_ret
 exact ⟨by first | rfl | (simp; done) | (simp [*]; done), by repeat (first | exact Drawn0.refl _ | apply Drawn0.step)⟩
def cmp_Compare_int.f (a0 : Int) (a1 : Int) : Option (Int) := (cmp_isNaN_int.f a0).bind fun t101 => ((cmp_isNaN_int.f a1).bind fun t102 => (if t101 = true then (if t102 = true then (some 0) else (some (-1))) else (if t102 = true then (some 1) else (if a0 < a1 then (some (-1)) else (if a0 > a1 then (some 1) else (some 0))))))
theorem cmp_Compare_int.calls (a0 : Int) (a1 : Int) (r : Int) (w : World) (h : cmp_Compare_int.f a0 a1 = some r) :
  Calls Try.prog 111 #[.int .i64 a0, .int .i64 a1] w fun e w' => e = .returned (.int .i64 r) ∧ Drawn0 w w' := by
 have H := h; clear h; unfold cmp_Compare_int.f at H
 obtain ⟨t101, A3, H⟩ := zO H
 obtain ⟨t102, A4, H⟩ := zO H
 by_cases c5 : t101 = true
 ·subst c5
  rw [if_pos rfl] at H
  by_cases c6 : t102 = true
  ·subst c6
   rw [if_pos rfl] at H
   obtain rfl := Option.some.inj H
   go_enter Try.func111, Try.ntmps111
   go_wp2_with (first | ((with_reducible refine gate_callee (f := 121) rfl ?_); refine zG (some 8) Try.func121 #[.int .i64 a0] ?_; (with_reducible refine (cmp_isNaN_int.calls a0 true _ A3.out).mono ?_); rintro e w' ⟨rfl, ⟨nd, rfl⟩⟩; refine ⟨_, rfl, ?_⟩) | ((with_reducible refine gate_callee (f := 121) rfl ?_); refine zG (some 10) Try.func121 #[.int .i64 a1] ?_; (with_reducible refine (cmp_isNaN_int.calls a1 true _ A4.out).mono ?_); rintro e w' ⟨rfl, ⟨nd, rfl⟩⟩; refine ⟨_, rfl, ?_⟩))
   go_ret
   exact ⟨by first | rfl | (simp; done) | (simp [*]; done), by repeat (first | exact Drawn0.refl _ | apply Drawn0.step)⟩
  replace c6 := Bool.eq_false_iff.mpr c6
  subst c6
  rw [if_neg Bool.false_ne_true] at H
  obtain rfl := Option.some.inj H
  go_enter Try.func111, Try.ntmps111
  go_wp2_with (first | ((with_reducible refine gate_callee (f := 121) rfl ?_); refine zG (some 8) Try.func121 #[.int .i64 a0] ?_; (with_reducible refine (cmp_isNaN_int.calls a0 true _ A3.out).mono ?_); rintro e w' ⟨rfl, ⟨nd, rfl⟩⟩; refine ⟨_, rfl, ?_⟩) | ((with_reducible refine gate_callee (f := 121) rfl ?_); refine zG (some 10) Try.func121 #[.int .i64 a1] ?_; (with_reducible refine (cmp_isNaN_int.calls a1 false _ A4.out).mono ?_); rintro e w' ⟨rfl, ⟨nd, rfl⟩⟩; refine ⟨_, rfl, ?_⟩))
  go_ret
  exact ⟨by first | rfl | (simp; done) | (simp [*]; done), by repeat (first | exact Drawn0.refl _ | apply Drawn0.step)⟩
 replace c5 := Bool.eq_false_iff.mpr c5
 subst c5
 rw [if_neg Bool.false_ne_true] at H
 by_cases c7 : t102 = true
 ·subst c7
  rw [if_pos rfl] at H
  obtain rfl := Option.some.inj H
  go_enter Try.func111, Try.ntmps111
  go_wp2_with (first | ((with_reducible refine gate_callee (f := 121) rfl ?_); refine zG (some 8) Try.func121 #[.int .i64 a0] ?_; (with_reducible refine (cmp_isNaN_int.calls a0 false _ A3.out).mono ?_); rintro e w' ⟨rfl, ⟨nd, rfl⟩⟩; refine ⟨_, rfl, ?_⟩) | ((with_reducible refine gate_callee (f := 121) rfl ?_); refine zG (some 10) Try.func121 #[.int .i64 a1] ?_; (with_reducible refine (cmp_isNaN_int.calls a1 true _ A4.out).mono ?_); rintro e w' ⟨rfl, ⟨nd, rfl⟩⟩; refine ⟨_, rfl, ?_⟩))
  go_ret
  exact ⟨by first | rfl | (simp; done) | (simp [*]; done), by repeat (first | exact Drawn0.refl _ | apply Drawn0.step)⟩
 replace c7 := Bool.eq_false_iff.mpr c7
 subst c7
 rw [if_neg Bool.false_ne_true] at H
 by_cases c8 : a0 < a1
 ·rw [if_pos c8] at H
  have c8b0 := decide_eq_true c8; clear c8
  obtain rfl := Option.some.inj H
  go_enter Try.func111, Try.ntmps111
  go_wp2_with (first | ((with_reducible refine gate_callee (f := 121) rfl ?_); refine zG (some 8) Try.func121 #[.int .i64 a0] ?_; (with_reducible refine (cmp_isNaN_int.calls a0 false _ A3.out).mono ?_); rintro e w' ⟨rfl, ⟨nd, rfl⟩⟩; refine ⟨_, rfl, ?_⟩) | ((with_reducible refine gate_callee (f := 121) rfl ?_); refine zG (some 10) Try.func121 #[.int .i64 a1] ?_; (with_reducible refine (cmp_isNaN_int.calls a1 false _ A4.out).mono ?_); rintro e w' ⟨rfl, ⟨nd, rfl⟩⟩; refine ⟨_, rfl, ?_⟩))
  go_ret
  exact ⟨by first | rfl | (simp; done) | (simp [*]; done), by repeat (first | exact Drawn0.refl _ | apply Drawn0.step)⟩
 rw [if_neg c8] at H
 have c8b0 := decide_eq_false c8; clear c8
 by_cases c9 : a0 > a1
 ·rw [if_pos c9] at H
  have c9b0 := decide_eq_true c9; clear c9
  obtain rfl := Option.some.inj H
  go_enter Try.func111, Try.ntmps111
  go_wp2_with (first | ((with_reducible refine gate_callee (f := 121) rfl ?_); refine zG (some 8) Try.func121 #[.int .i64 a0] ?_; (with_reducible refine (cmp_isNaN_int.calls a0 false _ A3.out).mono ?_); rintro e w' ⟨rfl, ⟨nd, rfl⟩⟩; refine ⟨_, rfl, ?_⟩) | ((with_reducible refine gate_callee (f := 121) rfl ?_); refine zG (some 10) Try.func121 #[.int .i64 a1] ?_; (with_reducible refine (cmp_isNaN_int.calls a1 false _ A4.out).mono ?_); rintro e w' ⟨rfl, ⟨nd, rfl⟩⟩; refine ⟨_, rfl, ?_⟩))
  go_ret
  exact ⟨by first | rfl | (simp; done) | (simp [*]; done), by repeat (first | exact Drawn0.refl _ | apply Drawn0.step)⟩
 rw [if_neg c9] at H
 have c9b0 := decide_eq_false c9; clear c9
 obtain rfl := Option.some.inj H
 go_enter Try.func111, Try.ntmps111
 go_wp2_with (first | ((with_reducible refine gate_callee (f := 121) rfl ?_); refine zG (some 8) Try.func121 #[.int .i64 a0] ?_; (with_reducible refine (cmp_isNaN_int.calls a0 false _ A3.out).mono ?_); rintro e w' ⟨rfl, ⟨nd, rfl⟩⟩; refine ⟨_, rfl, ?_⟩) | ((with_reducible refine gate_callee (f := 121) rfl ?_); refine zG (some 10) Try.func121 #[.int .i64 a1] ?_; (with_reducible refine (cmp_isNaN_int.calls a1 false _ A4.out).mono ?_); rintro e w' ⟨rfl, ⟨nd, rfl⟩⟩; refine ⟨_, rfl, ?_⟩))
 go_ret
 exact ⟨by first | rfl | (simp; done) | (simp [*]; done), by repeat (first | exact Drawn0.refl _ | apply Drawn0.step)⟩
def api_ModPoly_int_93.l0 : Nat → List Int → List Int → List Int → Int → Int → Option (Int)
 | 0, _, _, _, _, _ => none
 | k + 1, x0, x1, x9, x10, x11 => if x11 < x10 then (if 0 ≤ x11 then (if x11 < (x9.length : Int) then (if x11 ≥ (x1.length : Int) then (some 1) else (if x11 < (x1.length : Int) then ((cmp_Compare_int.f (rd x9 x11) (rd x1 x11)).bind fun t103 => (if t103 = 0 then (api_ModPoly_int_93.l0 k x0 x1 x9 x10 (wrap64 (x11 + 1))) else (some t103))) else (none))) else (none)) else (none)) else (if (x0.length : Int) < (x1.length : Int) then (some (-1)) else (some 0))
def api_ModPoly_int_93.f (k : Nat) (l0 : List Int) (l1 : List Int) : Option (Int) := api_ModPoly_int_93.l0 k l0 l1 l0 (l0.length : Int) 0
theorem api_ModPoly_int_93.mono_l : ∀ k, (∀ y0 y1 y2 y3 y4, LeO (api_ModPoly_int_93.l0 k y0 y1 y2 y3 y4) (api_ModPoly_int_93.l0 (k + 1) y0 y1 y2 y3 y4))
 | 0 => fun _ _ _ _ _ r h => by simp [api_ModPoly_int_93.l0] at h
 | k + 1 => by
  have ih0 := api_ModPoly_int_93.mono_l k
  intro y0 y1 y2 y3 y4
  unfold api_ModPoly_int_93.l0
  with_reducible repeat' first | exact ih0 _ _ _ _ _ | exact LeO.refl _ | exact LeO.none _ | refine LeO.ite ?_ ?_ | refine LeO.bind ?_ (fun _ => ?_)
theorem api_ModPoly_int_93.mono : ∀ a0 a1 k, LeO (api_ModPoly_int_93.f k a0 a1) (api_ModPoly_int_93.f (k + 1) a0 a1) := by
 intro a0 a1 k
 have ih0 := api_ModPoly_int_93.mono_l k
 unfold api_ModPoly_int_93.f
 with_reducible repeat' first | exact ih0 _ _ _ _ _ | exact LeO.refl _ | exact LeO.none _ | refine LeO.ite ?_ ?_ | refine LeO.bind ?_ (fun _ => ?_)
theorem api_ModPoly_int_93.calls (k : Nat) (A0 : Option Addr) (c0 : Nat) (l0 : List Int) (A1 : Option Addr) (c1 : Nat) (l1 : List Int) (r : Int) (w : World) (hr0 : Kd.C (Kd.int .i64) w A0 l0.length l0) (hc0 : l0.length ≤ c0) (hr1 : Kd.C (Kd.int .i64) w A1 l1.length l1) (hc1 : l1.length ≤ c1) (h : api_ModPoly_int_93.f k l0 l1 = some r) :
  Calls Try.prog 93 #[.slice A0 l0.length c0, .slice A1 l1.length c1] w fun e w' => e = .returned (.int .i64 r) ∧ Drawn0 w w' := by
 have HR0 := zm hr0
 have HC0 := zm hc0
 clear hr0 hc0
 have HR1 := zm hr1
 have HC1 := zm hc1
 clear hr1 hc1
 have H := h; clear h; unfold api_ModPoly_int_93.f at H
 have H' := zm H
 clear H
 go_enter Try.func93, Try.ntmps93
 go_wp2
 go_loopg [11] k (fun kq v11 w' => ∃ (x11_1 : Int), v11 = .int .i64 x11_1 ∧ Aside0 (api_ModPoly_int_93.l0 kq l0 l1 l0 (l0.length : Int) x11_1 = some r) ∧ Aside0 (kq ≤ k) ∧ Drawn0 w w')
 case atStart => exact ⟨(0), zX, H', ⟨Nat.le_refl _⟩, by repeat (first | exact Drawn0.refl _ | apply Drawn0.step)⟩
 case round =>
  clear H'
  obtain ⟨x11_1, rfl, HA, HK1, ⟨m1, rfl⟩⟩ := hrel
  cases gk with
  | zero => exact absurd HA.out (by simp [api_ModPoly_int_93.l0])
  | succ k1 =>
   have H := HA.out
   clear HA
   simp only [api_ModPoly_int_93.l0] at H
   by_cases c3 : x11_1 < (l0.length : Int)
   rotate_left
   ·rw [if_neg c3] at H
    have c3b0 := decide_eq_false c3; clear c3
    by_cases c10 : (l0.length : Int) < (l1.length : Int)
    ·rw [if_pos c10] at H
     have c10b0 : decide ((l0.length : Int) < (l1.length : Int)) = true := decide_eq_true c10
     have c10b1 : decide (l0.length < l1.length) = true := decide_eq_true (Int.ofNat_lt.mp c10)
     clear c10
     obtain rfl := Option.some.inj H
     go_wp2
     go_ret
     exact ⟨by first | rfl | (simp; done) | (simp [*]; done), by repeat (first | exact Drawn0.refl _ | apply Drawn0.step)⟩
    rw [if_neg c10] at H
    have c10b0 : decide ((l0.length : Int) < (l1.length : Int)) = false := decide_eq_false c10
    have c10b1 : decide (l0.length < l1.length) = false := decide_eq_false (fun h => c10 (Int.ofNat_lt.mpr h))
    clear c10
    obtain rfl := Option.some.inj H
    go_wp2
    go_ret
    exact ⟨by first | rfl | (simp; done) | (simp [*]; done), by repeat (first | exact Drawn0.refl _ | apply Drawn0.step)⟩
   rw [if_pos c3] at H
   have c3b0 := decide_eq_true c3; clear c3
   by_cases c4 : 0 ≤ x11_1
   rotate_left
   ·rw [if_neg c4] at H
    exact absurd H (by simp)
   rw [if_pos c4] at H
   have c4b0 := decide_eq_true c4; clear c4
   by_cases c5 : x11_1 < (l0.length : Int)
   rotate_left
   ·rw [if_neg c5] at H
    exact absurd H (by simp)
   rw [if_pos c5] at H
   have c5b0 := decide_eq_true c5; clear c5
   by_cases c6 : x11_1 ≥ (l1.length : Int)
   ·rw [if_pos c6] at H
    have c6b0 := decide_eq_true c6; clear c6
    obtain rfl := Option.some.inj H
    obtain ⟨p101, q101, ad101, e101, hx101_0⟩ := zI (HR0.out) (x11_1) zD zD
    cases e101
    go_wp2
    go_ret
    exact ⟨by first | rfl | (simp; done) | (simp [*]; done), by repeat (first | exact Drawn0.refl _ | apply Drawn0.step)⟩
   rw [if_neg c6] at H
   have c6b0 := decide_eq_false c6; clear c6
   by_cases c7 : x11_1 < (l1.length : Int)
   rotate_left
   ·rw [if_neg c7] at H
    exact absurd H (by simp)
   rw [if_pos c7] at H
   have c7b0 := decide_eq_true c7; clear c7
   obtain ⟨t103, A8, H⟩ := zO H
   by_cases c9 : t103 = 0
   rotate_left
   ·rw [if_neg c9] at H
    obtain ⟨c9b0, c9b1⟩ := zU c9
    obtain rfl := Option.some.inj H
    obtain ⟨p101, q101, ad101, e101, hx101_0⟩ := zI (HR0.out) (x11_1) zD zD
    cases e101
    obtain ⟨p102, q102, ad102, e102, hx102_0⟩ := zI (HR1.out) (x11_1) zD zD
    cases e102
    go_wp2_with (first | ((with_reducible refine gate_callee (f := 111) rfl ?_); refine zG (some 26) Try.func111 #[.int .i64 (rd l0 x11_1), .int .i64 (rd l1 x11_1)] ?_; (with_reducible refine (cmp_Compare_int.calls (rd l0 x11_1) (rd l1 x11_1) t103 _ A8.out).mono ?_); rintro e w' ⟨rfl, ⟨nd, rfl⟩⟩; refine ⟨_, rfl, ?_⟩))
    go_ret
    exact ⟨by first | rfl | (simp; done) | (simp [*]; done), by repeat (first | exact Drawn0.refl _ | apply Drawn0.step)⟩
   rw [if_pos c9] at H
   obtain ⟨c9b0, c9b1⟩ := zE c9; clear c9
   have H' := zm H
   clear H
   obtain ⟨p101, q101, ad101, e101, hx101_0⟩ := zI (HR0.out) (x11_1) zD zD
   cases e101
   obtain ⟨p102, q102, ad102, e102, hx102_0⟩ := zI (HR1.out) (x11_1) zD zD
   cases e102
   go_wp2_with (first | ((with_reducible refine gate_callee (f := 111) rfl ?_); refine zG (some 26) Try.func111 #[.int .i64 (rd l0 x11_1), .int .i64 (rd l1 x11_1)] ?_; (with_reducible refine (cmp_Compare_int.calls (rd l0 x11_1) (rd l1 x11_1) t103 _ A8.out).mono ?_); rintro e w' ⟨rfl, ⟨nd, rfl⟩⟩; refine ⟨_, rfl, ?_⟩))
   go_roundg k1
   case measure => have := HK1.out; omega
   case rel => exact ⟨(wrap64 (x11_1 + 1)), zX, H', ⟨by have := HK1.out; omega⟩, by repeat (first | exact Drawn0.refl _ | apply Drawn0.step)⟩
def pm_Compare.f (k : Nat) (l0 : List Int) (l1 : List Int) : Option (Int) := if (l0.length : Int) = (l1.length : Int) then ((api_ModPoly_int_93.f k l0 l1).bind fun t101 => (some t101)) else (if (l0.length : Int) < (l1.length : Int) then (some (-1)) else (some 1))
theorem pm_Compare.mono : ∀ a0 a1 k, LeO (pm_Compare.f k a0 a1) (pm_Compare.f (k + 1) a0 a1) := by
 intro a0 a1 k
 unfold pm_Compare.f
 with_reducible repeat' first | exact api_ModPoly_int_93.mono _ _ _ | exact LeO.refl _ | exact LeO.none _ | refine LeO.ite ?_ ?_ | refine LeO.bind ?_ (fun _ => ?_)
theorem pm_Compare.calls (k : Nat) (A0 : Option Addr) (c0 : Nat) (l0 : List Int) (A1 : Option Addr) (c1 : Nat) (l1 : List Int) (r : Int) (w : World) (hr0 : Kd.C (Kd.int .i64) w A0 l0.length l0) (hc0 : l0.length ≤ c0) (hr1 : Kd.C (Kd.int .i64) w A1 l1.length l1) (hc1 : l1.length ≤ c1) (h : pm_Compare.f k l0 l1 = some r) :
  Calls Try.prog 58 #[.slice A0 l0.length c0, .slice A1 l1.length c1] w fun e w' => e = .returned (.int .i64 r) ∧ Drawn0 w w' := by
 have HR0 := zm hr0
 have HC0 := zm hc0
 clear hr0 hc0
 have HR1 := zm hr1
 have HC1 := zm hc1
 clear hr1 hc1
 have H := h; clear h; unfold pm_Compare.f at H
 by_cases c3 : (l0.length : Int) = (l1.length : Int)
 ·rw [if_pos c3] at H
  obtain ⟨c3b0, c3b1⟩ := zE c3
  have c3b2 : (l0.length == l1.length) = true := by first | simpa using c3 | (simp at c3 ⊢; omega)
  clear c3
  obtain ⟨t101, A4, H⟩ := zO H
  obtain rfl := Option.some.inj H
  go_enter Try.func58, Try.ntmps58
  go_wp2_with (first | ((with_reducible refine gate_callee (f := 93) rfl ?_); refine zG (some 17) Try.func93 #[.slice A0 l0.length c0, .slice A1 l1.length c1] ?_; (with_reducible refine (api_ModPoly_int_93.calls k _ _ l0 _ _ l1 t101 _ (zC (HR0.out)) HC0.out (zC (HR1.out)) HC1.out A4.out).mono ?_); rintro e w' ⟨rfl, ⟨nd, rfl⟩⟩; refine ⟨_, rfl, ?_⟩))
  go_ret
  exact ⟨by first | rfl | (simp; done) | (simp [*]; done), by repeat (first | exact Drawn0.refl _ | apply Drawn0.step)⟩
 rw [if_neg c3] at H
 obtain ⟨c3b0, c3b1⟩ := zU c3
 have c3b2 : (l0.length == l1.length) = false := by first | simpa using c3 | (simp at c3 ⊢; omega)
 by_cases c5 : (l0.length : Int) < (l1.length : Int)
 ·rw [if_pos c5] at H
  have c5b0 : decide ((l0.length : Int) < (l1.length : Int)) = true := decide_eq_true c5
  have c5b1 : decide (l0.length < l1.length) = true := decide_eq_true (Int.ofNat_lt.mp c5)
  clear c5
  obtain rfl := Option.some.inj H
  go_enter Try.func58, Try.ntmps58
  go_wp2
  go_ret
  exact ⟨by first | rfl | (simp; done) | (simp [*]; done), by repeat (first | exact Drawn0.refl _ | apply Drawn0.step)⟩
 rw [if_neg c5] at H
 have c5b0 : decide ((l0.length : Int) < (l1.length : Int)) = false := decide_eq_false c5
 have c5b1 : decide (l0.length < l1.length) = false := decide_eq_false (fun h => c5 (Int.ofNat_lt.mpr h))
 clear c5
 obtain rfl := Option.some.inj H
 go_enter Try.func58, Try.ntmps58
 go_wp2
 go_ret
 exact ⟨by first | rfl | (simp; done) | (simp [*]; done), by repeat (first | exact Drawn0.refl _ | apply Drawn0.step)⟩
def fi_Mul.f (k : Nat) (a0_0 : Int) (l0_1 : List Int) (l1 : List Int) (l2 : List Int) : Option (List Int × Int) := (fi_check.f k a0_0 l0_1 (([l1, l2] : List (List Int)))).bind fun t105 => (if t105 = 0 then ((gFMul.f k a0_0 l0_1 l1 l2).bind fun t106 => (some (t106, 0))) else (some (([] : List Int), t105)))
theorem fi_Mul.mono : ∀ a0 a1 a2 a3 k, LeO (fi_Mul.f k a0 a1 a2 a3) (fi_Mul.f (k + 1) a0 a1 a2 a3) := by
 intro a0 a1 a2 a3 k
 unfold fi_Mul.f
 with_reducible repeat' first | exact fi_check.mono _ _ _ _ | exact gFMul.mono _ _ _ _ _ | exact LeO.refl _ | exact LeO.none _ | refine LeO.ite ?_ ?_ | refine LeO.bind ?_ (fun _ => ?_)
theorem fi_Mul.calls (k : Nat) (a0_0 : Int) (A0_1 : Option Addr) (c0_1 : Nat) (l0_1 : List Int) (P1_ : Nat → Prop) (A1 : Option Addr) (c1 : Nat) (l1 : List Int) (P2_ : Nat → Prop) (A2 : Option Addr) (c2 : Nat) (l2 : List Int) (r1 : List Int) (r2 : Int) (w : World) (hr0_1 : Kd.C (Kd.int .i64) w A0_1 l0_1.length l0_1) (hc0_1 : l0_1.length ≤ c0_1) (hs1 : Kd.V (Kd.int .i64) 3 w w.heap.size (fun k_ => P1_ k_) (.slice A1 l1.length c1) l1) (hs2 : Kd.V (Kd.int .i64) 3 w w.heap.size (fun k_ => P2_ k_) (.slice A2 l2.length c2) l2) (h : fi_Mul.f k a0_0 l0_1 l1 l2 = some (r1, r2)) :
  Calls Try.prog 18 #[.agg #[.int .i64 a0_0, .slice A0_1 l0_1.length c0_1], .slice A1 l1.length c1, .slice A2 l2.length c2] w fun e w' => ∃ v0_ : Value, e = .returned (.tuple #[v0_, .int .i64 r2]) ∧ Kd.V (Kd.int .i64) 3 w' w.heap.size (fun k_ => ((P1_ k_ ∨ P2_ k_) ∨ w.heap.size ≤ k_)) v0_ r1 ∧ Below w.heap.size w w' := by
 have hu33 := Try.underlying33
 have hu68 := Try.underlying68
 have HR0_1 := zm hr0_1
 have HC0_1 := zm hc0_1
 clear hr0_1 hc0_1
 have HO1 := zm (show Kd.V (Kd.int .i64) 3 w w.heap.size (fun k_ => ((P1_ k_ ∨ P2_ k_) ∨ w.heap.size ≤ k_)) (.slice A1 l1.length c1) l1 from Kd.V_mono hs1 (fun k_ hk => .inl (.inl hk)))
 have HO2 := zm (show Kd.V (Kd.int .i64) 3 w w.heap.size (fun k_ => ((P1_ k_ ∨ P2_ k_) ∨ w.heap.size ≤ k_)) (.slice A2 l2.length c2) l2 from Kd.V_mono hs2 (fun k_ hk => .inl (.inr hk)))
 have HB := zm (Below.refl w.heap.size w)
 have H := h; clear h; unfold fi_Mul.f at H
 obtain ⟨y102, Ny102⟩ := zA ((([l1, l2] : List (List Int))) : List (List Int)); rw [← Ny102.out] at H
 obtain ⟨t105, A4, H⟩ := zO H
 by_cases c5 : t105 = 0
 rotate_left
 ·rw [if_neg c5] at H
  obtain ⟨c5b0, c5b1⟩ := zU c5
  simp only [Option.some.injEq, Prod.mk.injEq] at H
  obtain ⟨rfl, rfl⟩ := H
  go_enter Try.func18, Try.ntmps18
  go_wp2_with (first | ((with_reducible refine gate_dst (N := 3) rfl ?_); refine zb 3 #[.int .i64 a0_0, .slice A0_1 l0_1.length c0_1] 33 ?_; intro gb101 hg w15 hbox hb; replace HO1 := zm (Kd.V_below (Kd.V_elderB (zV HO1.out) gb101 (Nat.le_of_eq hg.symm)) hb); replace HO2 := zm (Kd.V_below (Kd.V_elderB (zV HO2.out) gb101 (Nat.le_of_eq hg.symm)) hb); have BK101 := zm (hbox); have GW101 := zg HB hg; have GE101 := GW101; replace HB := zBb HB hb; clear hb hbox hg; obtain ⟨hcz16_0, hcz16_1, hfz16_0, hfz16_1⟩ := zf2 BK101) | ((with_reducible refine gate_dst (N := 12) rfl ?_); refine Kd.N_lit (Kd.slice 3 (Kd.int .i64)) _ 25 ?hg (N' := 12) ?hd (xs := ([l1, l2] : List (List Int))) (inner := [.slice A1 l1.length c1, .slice A2 l2.length c2]) (ok := (fun k_ => ((P1_ k_ ∨ P2_ k_) ∨ w.heap.size ≤ k_) ∧ k_ ≠ gb101)) (okp := (fun k_ => ((P1_ k_ ∨ P2_ k_) ∨ w.heap.size ≤ k_) ∧ k_ ≠ gb101)) ?hr ?hp (fun _ hk => hk) ((show ∀ k_, w15.heap.size ≤ k_ → (fun k_ => ((P1_ k_ ∨ P2_ k_) ∨ w.heap.size ≤ k_) ∧ k_ ≠ gb101) k_ from fun k_ hk => ⟨(.inr (Nat.le_trans (zS HB) hk)), Kd.freshB (zK BK101.out) k_ hk⟩) _ (Nat.le_refl _)) (Below.refl _ _) (Nat.le_refl _) (by simp) ?_; (case hd => rfl); (case hg => rfl); (case hr => go_simp <;> rfl); (case hp => exact (Reps.one (show Kd.FK (Kd.slice 3 (Kd.int .i64)) _ _ l1 [.slice A1 l1.length c1] from (zFK HO1.out (fun k_ hk => ⟨hk.1, hk.2⟩))) (Reps.one (show Kd.FK (Kd.slice 3 (Kd.int .i64)) _ _ l2 [.slice A2 l2.length c2] from (zFK HO2.out (fun k_ hk => ⟨hk.1, hk.2⟩))) (Reps.none _ _)))); intro v103 w17 ho18 hb hg_ hnew_; clear hg_ hnew_; (first | rw [← Ny102.out] at ho18 | (simp only [Int.reduceToNat] at ho18; rw [← Ny102.out] at ho18)); replace HO1 := zm (Kd.V_elder' (zV HO1.out) (Kd.N_base ho18) hb); replace HO2 := zm (Kd.V_elder' (zV HO2.out) (Kd.N_base ho18) hb); have HO104 := zm (Kd.N_lower ho18 (zS HB)); replace BK101 := zKb BK101 hb; replace HB := zBb HB hb; clear hb ho18; obtain ⟨Ao19, co19, eo19⟩ := Kd.N_slice HO104.out; subst eo19) | ((with_reducible refine gate_callee (f := 53) rfl ?_); refine zG (some 13) Try.func53 #[.agg #[.int .i64 a0_0, .slice A0_1 l0_1.length c0_1], .slice Ao19 y102.length co19] ?_; (with_reducible refine (fi_check.calls k a0_0 _ _ l0_1 _ _ y102 t105 _ (zC (Kd.C_below HR0_1.out HB.out)) HC0_1.out (zC ((Kd.N_reads' HO104.out).2.2)) ((Kd.N_reads' HO104.out).2.1) A4.out).mono ?_); rintro e w20 ⟨rfl, hb⟩; refine ⟨_, rfl, ?_⟩; replace HO1 := zVb HO1 hb; replace HO2 := zVb HO2 hb; replace HO104 := zNb HO104 hb; replace BK101 := zKb BK101 hb; replace HB := zBb HB hb))
  go_ret2
  exact ⟨_, zQ, zL, zT⟩
 rw [if_pos c5] at H
 obtain ⟨c5b0, c5b1⟩ := zE c5; clear c5
 obtain ⟨t106, A6, H⟩ := zO H
 simp only [Option.some.injEq, Prod.mk.injEq] at H
 obtain ⟨rfl, rfl⟩ := H
 go_enter Try.func18, Try.ntmps18
 go_wp2_with (first | ((with_reducible refine gate_dst (N := 3) rfl ?_); refine zb 3 #[.int .i64 a0_0, .slice A0_1 l0_1.length c0_1] 33 ?_; intro gb101 hg w7 hbox hb; replace HO1 := zm (Kd.V_below (Kd.V_elderB (zV HO1.out) gb101 (Nat.le_of_eq hg.symm)) hb); replace HO2 := zm (Kd.V_below (Kd.V_elderB (zV HO2.out) gb101 (Nat.le_of_eq hg.symm)) hb); have BK101 := zm (hbox); have GW101 := zg HB hg; have GE101 := GW101; replace HB := zBb HB hb; clear hb hbox hg; obtain ⟨hcz8_0, hcz8_1, hfz8_0, hfz8_1⟩ := zf2 BK101) | ((with_reducible refine gate_dst (N := 12) rfl ?_); refine Kd.N_lit (Kd.slice 3 (Kd.int .i64)) _ 25 ?hg (N' := 12) ?hd (xs := ([l1, l2] : List (List Int))) (inner := [.slice A1 l1.length c1, .slice A2 l2.length c2]) (ok := (fun k_ => ((P1_ k_ ∨ P2_ k_) ∨ w.heap.size ≤ k_) ∧ k_ ≠ gb101)) (okp := (fun k_ => ((P1_ k_ ∨ P2_ k_) ∨ w.heap.size ≤ k_) ∧ k_ ≠ gb101)) ?hr ?hp (fun _ hk => hk) ((show ∀ k_, w7.heap.size ≤ k_ → (fun k_ => ((P1_ k_ ∨ P2_ k_) ∨ w.heap.size ≤ k_) ∧ k_ ≠ gb101) k_ from fun k_ hk => ⟨(.inr (Nat.le_trans (zS HB) hk)), Kd.freshB (zK BK101.out) k_ hk⟩) _ (Nat.le_refl _)) (Below.refl _ _) (Nat.le_refl _) (by simp) ?_; (case hd => rfl); (case hg => rfl); (case hr => go_simp <;> rfl); (case hp => exact (Reps.one (show Kd.FK (Kd.slice 3 (Kd.int .i64)) _ _ l1 [.slice A1 l1.length c1] from (zFK HO1.out (fun k_ hk => ⟨hk.1, hk.2⟩))) (Reps.one (show Kd.FK (Kd.slice 3 (Kd.int .i64)) _ _ l2 [.slice A2 l2.length c2] from (zFK HO2.out (fun k_ hk => ⟨hk.1, hk.2⟩))) (Reps.none _ _)))); intro v103 w9 ho10 hb hg_ hnew_; clear hg_ hnew_; (first | rw [← Ny102.out] at ho10 | (simp only [Int.reduceToNat] at ho10; rw [← Ny102.out] at ho10)); replace HO1 := zm (Kd.V_elder' (zV HO1.out) (Kd.N_base ho10) hb); replace HO2 := zm (Kd.V_elder' (zV HO2.out) (Kd.N_base ho10) hb); have HO104 := zm (Kd.N_lower ho10 (zS HB)); replace BK101 := zKb BK101 hb; replace HB := zBb HB hb; clear hb ho10; obtain ⟨Ao11, co11, eo11⟩ := Kd.N_slice HO104.out; subst eo11) | ((with_reducible refine gate_callee (f := 53) rfl ?_); refine zG (some 13) Try.func53 #[.agg #[.int .i64 a0_0, .slice A0_1 l0_1.length c0_1], .slice Ao11 y102.length co11] ?_; (with_reducible refine (fi_check.calls k a0_0 _ _ l0_1 _ _ y102 t105 _ (zC (Kd.C_below HR0_1.out HB.out)) HC0_1.out (zC ((Kd.N_reads' HO104.out).2.2)) ((Kd.N_reads' HO104.out).2.1) A4.out).mono ?_); rintro e w12 ⟨rfl, hb⟩; refine ⟨_, rfl, ?_⟩; replace HO1 := zVb HO1 hb; replace HO2 := zVb HO2 hb; replace HO104 := zNb HO104 hb; replace BK101 := zKb BK101 hb; replace HB := zBb HB hb; obtain ⟨hcz13_0, hcz13_1, hfz13_0, hfz13_1⟩ := zf2 BK101) | ((with_reducible refine gate_callee (f := 59) rfl ?_); refine zG (some 21) Try.func59 #[.agg #[.int .i64 a0_0, .slice A0_1 l0_1.length c0_1], .slice A1 l1.length c1, .slice A2 l2.length c2] ?_; (with_reducible refine (gFMul.calls k a0_0 _ _ l0_1 _ _ l1 _ _ l2 t106 _ (zC (Kd.C_below HR0_1.out HB.out)) HC0_1.out (zC ((Kd.V_reads' HO1.out).2.2)) ((Kd.V_reads' HO1.out).2.1) (zC ((Kd.V_reads' HO2.out).2.2)) ((Kd.V_reads' HO2.out).2.1) A6.out).mono ?_); rintro e w14 ⟨v107, rfl, ho0, hb⟩; refine ⟨_, rfl, ?_⟩; replace HO1 := zVb HO1 hb; replace HO2 := zVb HO2 hb; have HO108 := zWV (fun k_ => ((P1_ k_ ∨ P2_ k_) ∨ w.heap.size ≤ k_) ∧ some k_ ≠ (.slice Ao11 y102.length co11 : Value).ownBlock ∧ k_ ≠ gb101) ho0 HB (fun k_ hk_ => ⟨(.inr (Nat.le_trans (zS HB) hk_)), (Kd.fresh' (Kd.N_lt (zN HO104.out)) k_ hk_), (Kd.freshB (zK BK101.out) k_ hk_)⟩); replace HO104 := zNb HO104 hb; replace BK101 := zKb BK101 hb; replace HB := zBb HB hb))
 go_ret2
 exact ⟨_, zQ, zV (Kd.V_mono HO108.out (fun _ hk => hk.1)), zT⟩
def r9Same.l0 : Nat → List Int → List Int → Int → Option (Bool)
 | 0, _, _, _ => none
 | k + 1, x0, x1, x5 => if x5 < (x0.length : Int) then (if 0 ≤ x5 then (if x5 < (x1.length : Int) then (if (rd x0 x5) = (rd x1 x5) then (r9Same.l0 k x0 x1 (wrap64 (x5 + 1))) else (some false)) else (none)) else (none)) else (some true)
def r9Same.f (k : Nat) (l0 : List Int) (l1 : List Int) : Option (Bool) := if (l0.length : Int) = (l1.length : Int) then (r9Same.l0 k l0 l1 0) else (some false)
theorem r9Same.mono_l : ∀ k, (∀ y0 y1 y2, LeO (r9Same.l0 k y0 y1 y2) (r9Same.l0 (k + 1) y0 y1 y2))
 | 0 => fun _ _ _ r h => by simp [r9Same.l0] at h
 | k + 1 => by
  have ih0 := r9Same.mono_l k
  intro y0 y1 y2
  unfold r9Same.l0
  with_reducible repeat' first | exact ih0 _ _ _ | exact LeO.refl _ | exact LeO.none _ | refine LeO.ite ?_ ?_ | refine LeO.bind ?_ (fun _ => ?_)
theorem r9Same.mono : ∀ a0 a1 k, LeO (r9Same.f k a0 a1) (r9Same.f (k + 1) a0 a1) := by
 intro a0 a1 k
 have ih0 := r9Same.mono_l k
 unfold r9Same.f
 with_reducible repeat' first | exact ih0 _ _ _ | exact LeO.refl _ | exact LeO.none _ | refine LeO.ite ?_ ?_ | refine LeO.bind ?_ (fun _ => ?_)
theorem r9Same.calls (k : Nat) (A0 : Option Addr) (c0 : Nat) (l0 : List Int) (A1 : Option Addr) (c1 : Nat) (l1 : List Int) (r : Bool) (w : World) (hr0 : Kd.C (Kd.int .i64) w A0 l0.length l0) (hc0 : l0.length ≤ c0) (hr1 : Kd.C (Kd.int .i64) w A1 l1.length l1) (hc1 : l1.length ≤ c1) (h : r9Same.f k l0 l1 = some r) :
  Calls Try.prog 19 #[.slice A0 l0.length c0, .slice A1 l1.length c1] w fun e w' => e = .returned (.bool r) ∧ Drawn0 w w' := by
 have HR0 := zm hr0
 have HC0 := zm hc0
 clear hr0 hc0
 have HR1 := zm hr1
 have HC1 := zm hc1
 clear hr1 hc1
 have H := h; clear h; unfold r9Same.f at H
 by_cases c3 : (l0.length : Int) = (l1.length : Int)
 rotate_left
 ·rw [if_neg c3] at H
  obtain ⟨c3b0, c3b1⟩ := zU c3
  have c3b2 : (l0.length == l1.length) = false := by first | simpa using c3 | (simp at c3 ⊢; omega)
  obtain rfl := Option.some.inj H
  go_enter Try.func19, Try.ntmps19
  go_wp2
  repeat (go_quiet (fail); try go_wp2)
  go_ret
  exact ⟨by first | rfl | (simp; done) | (simp [*]; done), by repeat (first | exact Drawn0.refl _ | apply Drawn0.step)⟩
 rw [if_pos c3] at H
 obtain ⟨c3b0, c3b1⟩ := zE c3
 have c3b2 : (l0.length == l1.length) = true := by first | simpa using c3 | (simp at c3 ⊢; omega)
 clear c3
 have H' := zm H
 clear H
 go_enter Try.func19, Try.ntmps19
 go_wp2
 repeat (go_quiet (fail); try go_wp2)
 go_loopg [5] k (fun kq v5 w' => ∃ (x5_1 : Int), v5 = .int .i64 x5_1 ∧ Aside0 (r9Same.l0 kq l0 l1 x5_1 = some r) ∧ Aside0 (kq ≤ k) ∧ Drawn0 w w')
 case atStart => exact ⟨(0), zX, H', ⟨Nat.le_refl _⟩, by repeat (first | exact Drawn0.refl _ | apply Drawn0.step)⟩
 case round =>
  clear H'
  obtain ⟨x5_1, rfl, HA, HK1, ⟨m1, rfl⟩⟩ := hrel
  cases gk with
  | zero => exact absurd HA.out (by simp [r9Same.l0])
  | succ k1 =>
   have H := HA.out
   clear HA
   simp only [r9Same.l0] at H
   by_cases c4 : x5_1 < (l0.length : Int)
   rotate_left
   ·rw [if_neg c4] at H
    have c4b0 := decide_eq_false c4; clear c4
    obtain rfl := Option.some.inj H
    go_wp2
    repeat (go_quiet (fail); try go_wp2)
    go_ret
    exact ⟨by first | rfl | (simp; done) | (simp [*]; done), by repeat (first | exact Drawn0.refl _ | apply Drawn0.step)⟩
   rw [if_pos c4] at H
   have c4b0 := decide_eq_true c4; clear c4
   by_cases c5 : 0 ≤ x5_1
   rotate_left
   ·rw [if_neg c5] at H
    exact absurd H (by simp)
   rw [if_pos c5] at H
   have c5b0 := decide_eq_true c5; clear c5
   by_cases c6 : x5_1 < (l1.length : Int)
   rotate_left
   ·rw [if_neg c6] at H
    exact absurd H (by simp)
   rw [if_pos c6] at H
   have c6b0 := decide_eq_true c6; clear c6
   by_cases c7 : (rd l0 x5_1) = (rd l1 x5_1)
   rotate_left
   ·rw [if_neg c7] at H
    obtain ⟨c7b0, c7b1⟩ := zU c7
    obtain rfl := Option.some.inj H
    obtain ⟨p101, q101, ad101, e101, hx101_0⟩ := zI (HR0.out) (x5_1) zD zD
    cases e101
    obtain ⟨p102, q102, ad102, e102, hx102_0⟩ := zI (HR1.out) (x5_1) zD zD
    cases e102
    go_wp2
    repeat (go_quiet (fail); try go_wp2)
    go_ret
    exact ⟨by first | rfl | (simp; done) | (simp [*]; done), by repeat (first | exact Drawn0.refl _ | apply Drawn0.step)⟩
   rw [if_pos c7] at H
   obtain ⟨c7b0, c7b1⟩ := zE c7; clear c7
   have H' := zm H
   clear H
   obtain ⟨p101, q101, ad101, e101, hx101_0⟩ := zI (HR0.out) (x5_1) zD zD
   cases e101
   obtain ⟨p102, q102, ad102, e102, hx102_0⟩ := zI (HR1.out) (x5_1) zD zD
   cases e102
   go_wp2
   repeat (go_quiet (fail); try go_wp2)
   go_roundg k1
   case measure => have := HK1.out; omega
   case rel => exact ⟨(wrap64 (x5_1 + 1)), zX, H', ⟨by have := HK1.out; omega⟩, by repeat (first | exact Drawn0.refl _ | apply Drawn0.step)⟩
def fp_Xgcd.l0 : Nat → Int → List Int → List Int → List Int → List Int → List Int → List Int → Option (List Int × List Int × List Int)
 | 0, _, _, _, _, _, _, _ => none
 | k + 1, x0, x1, x2, x9, x10, x11, x12 => if (x10.length : Int) > 0 then ((fp_DivMod.f k x0 x9 x10).bind fun bt112 => ((fp_Mul.f k x0 bt112.1 x12).bind fun t118 => ((fp_Sub.f k x0 x11 t118).bind fun t121 => (fp_Xgcd.l0 k x0 x1 x2 x10 bt112.2 x12 t121)))) else (if 0 ≤ (wrap64 ((x9.length : Int) - 1)) then (if (wrap64 ((x9.length : Int) - 1)) < (x9.length : Int) then ((fp_Inv.f k x0 (rd x9 (wrap64 ((x9.length : Int) - 1)))).bind fun t125 => ((fp_Scale.f k x0 x9 t125).bind fun t126 => ((fp_DivMod.f k x0 x2 t126).bind fun bt129 => ((fp_Scale.f k x0 x11 t125).bind fun t135 => ((fp_Rem.f k x0 t135 bt129.1).bind fun t138 => ((fp_Mul.f k x0 t138 x1).bind fun t141 => ((fp_Sub.f k x0 t126 t141).bind fun t144 => ((fp_DivMod.f k x0 t144 x2).bind fun bt147 => (some (t126, t138, bt147.1)))))))))) else (none)) else (none))
def fp_Xgcd.f (k : Nat) (a0 : Int) (l1 : List Int) (l2 : List Int) : Option (List Int × List Int × List Int) := if (l2.length : Int) = 0 then (if (l1.length : Int) = 0 then (some (([] : List Int), ([] : List Int), ([] : List Int))) else ((fp_Monic.f k a0 l1).bind fun t101 => (if 0 ≤ (wrap64 ((l1.length : Int) - 1)) then (if (wrap64 ((l1.length : Int) - 1)) < (l1.length : Int) then ((fp_Inv.f k a0 (rd l1 (wrap64 ((l1.length : Int) - 1)))).bind fun t105 => (some (t101, (([t105] : List Int)), ([] : List Int)))) else (none)) else (none)))) else (fp_Xgcd.l0 k a0 l1 l2 l1 l2 (([1] : List Int)) ([] : List Int))
theorem fp_Xgcd.mono_l : ∀ k, (∀ y0 y1 y2 y3 y4 y5 y6, LeO (fp_Xgcd.l0 k y0 y1 y2 y3 y4 y5 y6) (fp_Xgcd.l0 (k + 1) y0 y1 y2 y3 y4 y5 y6))
 | 0 => fun _ _ _ _ _ _ _ r h => by simp [fp_Xgcd.l0] at h
 | k + 1 => by
  have ih0 := fp_Xgcd.mono_l k
  intro y0 y1 y2 y3 y4 y5 y6
  unfold fp_Xgcd.l0
  with_reducible repeat' first | exact ih0 _ _ _ _ _ _ _ | exact fp_DivMod.mono _ _ _ _ | exact fp_Inv.mono _ _ _ | exact fp_Monic.mono _ _ _ | exact fp_Mul.mono _ _ _ _ | exact fp_Rem.mono _ _ _ _ | exact fp_Scale.mono _ _ _ _ | exact fp_Sub.mono _ _ _ _ | exact LeO.refl _ | exact LeO.none _ | refine LeO.ite ?_ ?_ | refine LeO.bind ?_ (fun _ => ?_)
theorem fp_Xgcd.mono : ∀ a0 a1 a2 k, LeO (fp_Xgcd.f k a0 a1 a2) (fp_Xgcd.f (k + 1) a0 a1 a2) := by
 intro a0 a1 a2 k
 have ih0 := fp_Xgcd.mono_l k
 unfold fp_Xgcd.f
 with_reducible repeat' first | exact ih0 _ _ _ _ _ _ _ | exact fp_DivMod.mono _ _ _ _ | exact fp_Inv.mono _ _ _ | exact fp_Monic.mono _ _ _ | exact fp_Mul.mono _ _ _ _ | exact fp_Rem.mono _ _ _ _ | exact fp_Scale.mono _ _ _ _ | exact fp_Sub.mono _ _ _ _ | exact LeO.refl _ | exact LeO.none _ | refine LeO.ite ?_ ?_ | refine LeO.bind ?_ (fun _ => ?_)
def fp_Xgcd.T4 : Bool × List (List Nat × List Nat) := (true, [([], []), ([], []), ([0, 1], [0, 1]), ([], []), ([], []), ([], []), ([5], [5]), ([6], [6]), ([4, 7], [4, 7]), ([8], [8]), ([3, 9, 2], [3, 9]), ([10], [10]), ([2, 10, 0, 1, 2], [2]), ([11, 12, 0, 1, 2, 3, 4, 5, 6, 7, 8, 9, 10, 11, 12], [11]), ([13, 0, 1, 2, 3, 4, 5, 6, 7, 8, 9, 10, 11, 12, 13], [])])
def fp_Xgcd.B4 : List Nat := [0, 0, 3, 0, 0, 0, 32, 96, 240, 496, 1023, 2047, 2047, 8191, 16383]
theorem fp_Xgcd.tab4 : rtab .any (opsOf Try.f98 4) = fp_Xgcd.T4 := by kernel_rfl
theorem fp_Xgcd.bits4 : waitsOk fp_Xgcd.T4.2 fp_Xgcd.B4 = true := by kernel_rfl
theorem fp_Xgcd.calls (k : Nat) (a0 : Int) (P1_ : Nat → Prop) (A1 : Option Addr) (c1 : Nat) (l1 : List Int) (P2_ : Nat → Prop) (A2 : Option Addr) (c2 : Nat) (l2 : List Int) (r1 : List Int) (r2 : List Int) (r3 : List Int) (w : World) (hs1 : Kd.V (Kd.int .i64) 3 w w.heap.size (fun k_ => P1_ k_) (.slice A1 l1.length c1) l1) (hs2 : Kd.V (Kd.int .i64) 3 w w.heap.size (fun k_ => P2_ k_) (.slice A2 l2.length c2) l2) (h : fp_Xgcd.f k a0 l1 l2 = some (r1, r2, r3)) :
  Calls Try.prog 98 #[.int .i64 a0, .slice A1 l1.length c1, .slice A2 l2.length c2] w fun e w' => ∃ v0_ v1_ v2_ : Value, e = .returned (.tuple #[v0_, v1_, v2_]) ∧ Kd.V (Kd.int .i64) 3 w' w.heap.size (fun k_ => ((P1_ k_ ∨ P2_ k_) ∨ w.heap.size ≤ k_)) v0_ r1 ∧ Kd.V (Kd.int .i64) 3 w' w.heap.size (fun k_ => ((P1_ k_ ∨ P2_ k_) ∨ w.heap.size ≤ k_)) v1_ r2 ∧ Kd.V (Kd.int .i64) 3 w' w.heap.size (fun k_ => ((P1_ k_ ∨ P2_ k_) ∨ w.heap.size ≤ k_)) v2_ r3 ∧ Below w.heap.size w w' := by
 have HO1 := zm (show Kd.V (Kd.int .i64) 3 w w.heap.size (fun k_ => ((P1_ k_ ∨ P2_ k_) ∨ w.heap.size ≤ k_)) (.slice A1 l1.length c1) l1 from Kd.V_mono hs1 (fun k_ hk => .inl (.inl hk)))
 have HO2 := zm (show Kd.V (Kd.int .i64) 3 w w.heap.size (fun k_ => ((P1_ k_ ∨ P2_ k_) ∨ w.heap.size ≤ k_)) (.slice A2 l2.length c2) l2 from Kd.V_mono hs2 (fun k_ hk => .inl (.inr hk)))
 have HB := zm (Below.refl w.heap.size w)
 have H := h; clear h; unfold fp_Xgcd.f at H
 by_cases c4 : (l2.length : Int) = 0
 ·rw [if_pos c4] at H
  obtain ⟨c4b0, c4b1⟩ := zE c4; clear c4
  by_cases c5 : (l1.length : Int) = 0
  ·rw [if_pos c5] at H
   obtain ⟨c5b0, c5b1⟩ := zE c5; clear c5
   simp only [Option.some.injEq, Prod.mk.injEq] at H
   obtain ⟨rfl, rfl, rfl⟩ := H
   go_enter Try.func98, Try.ntmps98
   go_wp2
   go_ret3
   exact ⟨_, _, _, zQ, zL, zL, zL, zT⟩
  rw [if_neg c5] at H
  obtain ⟨c5b0, c5b1⟩ := zU c5
  have c5b2 : ¬ (l1 = []) := fun h_ => c5 (by rw [h_]; rfl)
  obtain ⟨t101, A6, H⟩ := zO H
  obtain ⟨ji7, hji7⟩ : ∃ j_ : Int, (wrap64 ((l1.length : Int) - 1)) = j_ := ⟨_, rfl⟩
  first | rw [hji7] at H | simp only [hji7] at H
  (try rw [hji7] at A6)
  have hji7w : (IntKind.i64.wrap ((l1.length : Int) - 1)) = ji7 := (i64_w _).trans hji7
  by_cases c8 : 0 ≤ (ji7)
  rotate_left
  ·rw [if_neg c8] at H
   exact absurd H (by simp)
  rw [if_pos c8] at H
  have c8b0 := decide_eq_true c8; clear c8
  by_cases c9 : (ji7) < (l1.length : Int)
  rotate_left
  ·rw [if_neg c9] at H
   exact absurd H (by simp)
  rw [if_pos c9] at H
  have c9b0 := decide_eq_true c9; clear c9
  obtain ⟨t105, A10, H⟩ := zO H
  obtain ⟨y106, Ny106⟩ := zA ((([t105] : List Int)) : List Int); rw [← Ny106.out] at H
  simp only [Option.some.injEq, Prod.mk.injEq] at H
  obtain ⟨rfl, rfl, rfl⟩ := H
  go_enter Try.func98, Try.ntmps98
  try go_wp2
  replace HO1 := zm (Kd.V_drew HO1.out)
  replace HO2 := zm (Kd.V_drew HO2.out)
  replace HB := zm (below_drew1 HB.out)
  obtain ⟨p104, q104, ad104, e104, hx104_0⟩ := zI ((Kd.V_reads' HO1.out).2.2) ((ji7)) zD zD
  cases e104
  refine start_ (n := 15) (S := fun w' => w'.cell? (ad104.add ((ji7)).toNat) = some (.int .i64 (rd l1 (ji7)))) (ds := []) #[false, false, false, false, false, false, false, false, false, false, false, false, false, false, false] (by kernel_rfl) rfl rfl (hx104_0) (fun hHeld => ?_); refine with_tabW fp_Xgcd.tab4 fp_Xgcd.bits4 (fun HT_ HW_ => ?_)
  generalize w.drew = w11 at HO1 HO2 HB hx104_0 hHeld ⊢
  refine zP 0 27 ?_; refine zP 1 28 ?_; refine zP 3 30 ?_; refine zP 4 31 ?_; refine zP 5 32 ?_; refine zP 6 33 ?_; refine zP 7 34 ?_; refine zP 8 35 ?_
  refine take_ (i := 9) (N := some 36) (v := ?_) (a' := ?_) #[true, true, false, true, true, true, true, true, true, true, false, false, false, false, false] rfl rfl (take_ofW HT_.out HW_.out (by kernel_rfl)) (fun _ _ _ h => h) (Or.inl ⟨by rfl, ?_⟩) hHeld ?_ ?_
  rotate_left
  ·intro w' s0
   go_simp
   with_reducible rfl
  rotate_left
  ·simp only [Act.put, List.setIfInBounds_toArray, List.set_cons_zero, List.set_cons_succ, i64_w, i32_w]
   rfl
  refine one_ (i := 2) (N := some 29) #[true, true, true, true, true, true, true, true, true, true, false, false, false, false, false] rfl rfl (one_of HT_.out (by kernel_rfl)) (by decide) (fun K hK => ?_)
  refine goes_ Try.func107 (by kernel_rfl) rfl #[.int .i64 a0, .slice (some ad104) l1.length c1] (by rfl) rfl rfl (by (try simp only [List.map_toArray, List.map_cons, List.map_nil]); first | done | rfl | (simp only [List.length_drop, List.length_take]; rfl)) ?_
  with_reducible refine (fp_Monic.calls k a0 _ _ l1 t101 _ ?side1 ?side2 A6.out).mono ?_
  (case side1 => exact zC ((Kd.V_reads' HO1.out).2.2))
  (case side2 => exact (Kd.V_reads' HO1.out).2.1)
  rintro e w12 ⟨v102, rfl, ho0, hb⟩
  have HS0_ := (hb.cell (World.block_lt_of_cell? _ _ (hHeld))).trans (hHeld)
  refine ⟨_, rfl, ?_⟩
  replace HO1 := zVb HO1 hb
  replace HO2 := zVb HO2 hb
  have HO103 := zm (Kd.V_lower (Kd.V_mono (ok' := fun k_ => ((P1_ k_ ∨ P2_ k_) ∨ w.heap.size ≤ k_)) ho0 (fun k_ hk_ => (.inr (Nat.le_trans (zS HB) hk_)))) (zS HB))
  replace HB := zBb HB hb
  (try clear hb)
  (try clear hb2)
  (try clear hk)
  (try clear hi)
  (try clear ho0)
  refine hK.out _ _ (HS0_) (fun hHeld => ?_)
  clear hK K
  refine norm_ (a' := ?_) ?_ ?_
  rotate_left
  ·show Act.put _ (some 29) _ = _
   simp only [Act.put, List.setIfInBounds_toArray, List.set_cons_zero, List.set_cons_succ, i64_w, i32_w]
   rfl
  refine one_ (i := 10) (N := some 37) #[true, true, true, true, true, true, true, true, true, true, true, false, false, false, false] rfl rfl (one_of HT_.out (by kernel_rfl)) (by decide) (fun K hK => ?_)
  refine goes_ Try.func114 (by kernel_rfl) rfl #[.int .i64 a0, .int .i64 (rd l1 (ji7))] (by rfl) rfl rfl (by (try simp only [List.map_toArray, List.map_cons, List.map_nil]); first | done | (simp only [hji7]; rfl) | rfl | (simp only [List.length_drop, List.length_take]; rfl)) ?_
  with_reducible refine (fp_Inv.calls k a0 (rd l1 (ji7)) t105 _ A10.out).mono ?_
  rintro e w' ⟨rfl, ⟨nd, rfl⟩⟩
  refine ⟨_, rfl, ?_⟩
  refine hK.out _ _ (hHeld) (fun hHeld => ?_)
  clear hK K
  refine norm_ (a' := ?_) ?_ ?_
  rotate_left
  ·show Act.put _ (some 37) _ = _
   simp only [Act.put, List.setIfInBounds_toArray, List.set_cons_zero, List.set_cons_succ, i64_w, i32_w]
   rfl
  refine zP 12 6 ?_
  refine one_ (i := 11) (N := some 38) #[true, true, true, true, true, true, true, true, true, true, true, true, true, false, false] rfl rfl (one_of HT_.out (by kernel_rfl)) (by decide) (fun K hK => ?_)
  refine Kd.R_lit_step (Kd.int .i64) _ 3 ?hg (N := 38) ?hd (xs := ([t105] : List Int)) (inner := [.int .i64 t105]) (ok := fun _ => True) (okp := fun _ => True) ?hr ?hp (fun _ hk => hk) trivial (Below.refl _ _) (Nat.le_refl _) (by simp) ?_; (case hd => rfl); (case hg => rfl); (case hr => go_simp <;> rfl); (case hp => exact (Reps.one (show Kd.M (Kd.int .i64) _ _ _ t105 [.int .i64 t105] from rfl) (Reps.none _ _)))
  intro v107 w13 ho14 hb hg_ hnew_
  have HS0_ := (hb.cell (World.block_lt_of_cell? _ _ (hHeld))).trans (hHeld)
  clear hg_ hnew_
  (first | rw [← Ny106.out] at ho14 | (simp only [Int.reduceToNat] at ho14; rw [← Ny106.out] at ho14))
  replace HO1 := zm (Kd.V_elder' (zV HO1.out) (Kd.R_base ho14) hb)
  replace HO2 := zm (Kd.V_elder' (zV HO2.out) (Kd.R_base ho14) hb)
  replace HO103 := zm (Kd.V_elder' (zV HO103.out) (Kd.R_base ho14) hb)
  have HO108 := zm (Kd.R_lower (Kd.R_newM (M := fun k_ => (w.heap.size ≤ k_)) ho14 (zS HB) (fun k_ h_ => h_)) (zS HB))
  replace HB := zBb HB hb
  clear hb ho14
  refine hK.out _ _ (HS0_) (fun hHeld => ?_)
  clear hK K
  refine norm_ (a' := ?_) ?_ ?_
  rotate_left
  ·show Act.put _ (some 38) _ = _
   simp only [Act.put, List.setIfInBounds_toArray, List.set_cons_zero, List.set_cons_succ, i64_w, i32_w]
   rfl
  refine zP 13 7 ?_; refine zP 14 8 ?_
  refine done_ (done_of HT_.out (by kernel_rfl)) ?_
  try go_wp2
  go_ret3
  exact ⟨_, _, _, by first | rfl | (simp [errW_none, errW_some] <;> rfl) | (simp only [← hji7]; first | rfl | (simp [errW_none, errW_some] <;> rfl)) | (simp [*, errW_none, errW_some] <;> rfl), zV (Kd.V_mono HO103.out (fun _ hk => hk.1)), Kd.V_mono (Kd.R_V (zR (Kd.R_mono HO108.out (fun _ hk => hk.1)))) (fun k_ hk => by first | exact ⟨(.inr (hk.1)), hk.2⟩ | exact (.inr (hk))), zL, zT⟩
 rw [if_neg c4] at H
 obtain ⟨c4b0, c4b1⟩ := zU c4
 have c4b2 : ¬ (l2 = []) := fun h_ => c4 (by rw [h_]; rfl)
 obtain ⟨y109, Ny109⟩ := zA ((([1] : List Int)) : List Int); rw [← Ny109.out] at H
 have H' := zm H
 clear H
 go_enter Try.func98, Try.ntmps98
 go_wp2_with (first | ((with_reducible refine gate_dst (N := 41) rfl ?_); refine Kd.R_lit (Kd.int .i64) _ 3 ?hg (N := 41) ?hd (xs := ([1] : List Int)) (inner := [.int .i64 1]) (ok := fun _ => True) (okp := fun _ => True) ?hr ?hp (fun _ hk => hk) trivial (Below.refl _ _) (Nat.le_refl _) (by simp) ?_; (case hd => rfl); (case hg => rfl); (case hr => go_simp <;> rfl); (case hp => exact (Reps.one (show Kd.M (Kd.int .i64) _ _ _ 1 [.int .i64 1] from rfl) (Reps.none _ _))); intro v110 w15 ho16 hb hg_ hnew_; clear hg_ hnew_; (first | rw [← Ny109.out] at ho16 | (simp only [Int.reduceToNat] at ho16; rw [← Ny109.out] at ho16)); replace HO1 := zm (Kd.V_elder' (zV HO1.out) (Kd.R_base ho16) hb); replace HO2 := zm (Kd.V_elder' (zV HO2.out) (Kd.R_base ho16) hb); have HO111 := zm (Kd.R_lower (Kd.R_newM (M := fun k_ => (w.heap.size ≤ k_)) ho16 (zS HB) (fun k_ h_ => h_)) (zS HB)); replace HB := zBb HB hb; clear hb ho16))
 go_loopg [9, 10, 11, 12] k (fun kq v9 v10 v11 v12 w' => ∃ (x9_1 : List Int) (x10_1 : List Int) (x11_1 : List Int) (x12_1 : List Int), Aside0 (fp_Xgcd.l0 kq a0 l1 l2 x9_1 x10_1 x11_1 x12_1 = some (r1, r2, r3)) ∧ Aside0 (kq ≤ k) ∧ Aside0 (Kd.V (Kd.int .i64) 3 w' w.heap.size (fun k_ => ((P1_ k_ ∨ P2_ k_) ∨ w.heap.size ≤ k_)) (.slice A1 l1.length c1) l1) ∧ Aside0 (Kd.V (Kd.int .i64) 3 w' w.heap.size (fun k_ => ((P1_ k_ ∨ P2_ k_) ∨ w.heap.size ≤ k_)) (.slice A2 l2.length c2) l2) ∧ Aside0 (Kd.V (Kd.int .i64) 3 w' w.heap.size (fun k_ => ((P1_ k_ ∨ P2_ k_) ∨ w.heap.size ≤ k_)) v9 x9_1) ∧ Aside0 (Kd.V (Kd.int .i64) 3 w' w.heap.size (fun k_ => ((P1_ k_ ∨ P2_ k_) ∨ w.heap.size ≤ k_)) v10 x10_1) ∧ Aside0 (Kd.V (Kd.int .i64) 3 w' w.heap.size (fun k_ => ((P1_ k_ ∨ P2_ k_) ∨ w.heap.size ≤ k_)) v11 x11_1) ∧ Aside0 (Kd.V (Kd.int .i64) 3 w' w.heap.size (fun k_ => ((P1_ k_ ∨ P2_ k_) ∨ w.heap.size ≤ k_)) v12 x12_1) ∧ Aside0 (Below w.heap.size w w'))
 case atStart => exact ⟨(l1), (l2), (y109), (([] : List Int)), H', ⟨Nat.le_refl _⟩, ⟨zV (Kd.V_mono HO1.out (fun _ hk => hk.1))⟩, ⟨zV (Kd.V_mono HO2.out (fun _ hk => hk.1))⟩, ⟨zV (Kd.V_mono HO1.out (fun _ hk => hk.1))⟩, ⟨zV (Kd.V_mono HO2.out (fun _ hk => hk.1))⟩, ⟨Kd.V_mono (Kd.R_V (zR (Kd.R_mono HO111.out (fun _ hk => hk.1)))) (fun k_ hk => by first | exact ⟨(.inr (hk.1)), hk.2⟩ | exact (.inr (hk)))⟩, ⟨zL⟩, ⟨zT⟩⟩
 case round =>
  clear H'
  obtain ⟨x9_1, x10_1, x11_1, x12_1, HA, HK1, HO_1, HO_2, HO_9, HO_10, HO_11, HO_12, HB⟩ := hrel
  cases gk with
  | zero => exact absurd HA.out (by simp [fp_Xgcd.l0])
  | succ k1 =>
   have H := HA.out
   clear HA
   simp only [fp_Xgcd.l0] at H
   by_cases c17 : (x10_1.length : Int) > 0
   ·rw [if_pos c17] at H
    have c17b0 : decide (0 < (x10_1.length : Int)) = true := decide_eq_true c17
    have c17b1 : decide (0 < x10_1.length) = true := decide_eq_true (by omega)
    clear c17
    obtain ⟨⟨t112, t115⟩, A18, H⟩ := zO H; try dsimp only at H
    obtain ⟨t118, A19, H⟩ := zO H
    obtain ⟨t121, A20, H⟩ := zO H
    have H' := zm H
    clear H
    obtain ⟨Ao21, co21, eo21⟩ := Kd.V_slice HO_10.out
    subst eo21
    obtain ⟨Ao22, co22, eo22⟩ := Kd.V_slice HO_9.out
    subst eo22
    go_wp2_with (first | ((with_reducible refine gate_callee (f := 106) rfl ?_); refine zG (some 49) Try.func106 #[.int .i64 a0, .slice Ao22 x9_1.length co22, .slice Ao21 x10_1.length co21] ?_; (with_reducible refine (fp_DivMod.calls k1 a0 _ _ x9_1 _ _ x10_1 t112 t115 _ (zC ((Kd.V_reads' HO_9.out).2.2)) ((Kd.V_reads' HO_9.out).2.1) (zC ((Kd.V_reads' HO_10.out).2.2)) ((Kd.V_reads' HO_10.out).2.1) A18.out).mono ?_); rintro e w23 ⟨v113, v116, rfl, ho0, ho1, hb⟩; refine ⟨_, rfl, ?_⟩; replace HO_1 := zVb HO_1 hb; replace HO_2 := zVb HO_2 hb; replace HO_9 := zVb HO_9 hb; replace HO_10 := zVb HO_10 hb; replace HO_11 := zVb HO_11 hb; replace HO_12 := zVb HO_12 hb; have HO114 := zWV (fun k_ => ((P1_ k_ ∨ P2_ k_) ∨ w.heap.size ≤ k_)) ho0 HB (fun k_ hk_ => (.inr (Nat.le_trans (zS HB) hk_))); have HO117 := zm (Kd.V_lower (Kd.V_mono (ok' := fun k_ => ((P1_ k_ ∨ P2_ k_) ∨ w.heap.size ≤ k_)) ho1 (fun k_ hk_ => (.inr (Nat.le_trans (zS HB) hk_)))) (zS HB)); replace HB := zBb HB hb; (try clear ho1); obtain ⟨Ao24, co24, eo24⟩ := Kd.V_slice HO114.out; subst eo24; obtain ⟨Ao25, co25, eo25⟩ := Kd.V_slice HO_12.out; subst eo25) | ((with_reducible refine gate_callee (f := 112) rfl ?_); refine zG (some 60) Try.func112 #[.int .i64 a0, .slice Ao24 t112.length co24, .slice Ao25 x12_1.length co25] ?_; (with_reducible refine (fp_Mul.calls k1 a0 _ _ t112 _ _ x12_1 t118 _ (zC ((Kd.V_reads' HO114.out).2.2)) ((Kd.V_reads' HO114.out).2.1) (zC ((Kd.V_reads' HO_12.out).2.2)) ((Kd.V_reads' HO_12.out).2.1) A19.out).mono ?_); rintro e w26 ⟨v119, rfl, ho0, hb⟩; refine ⟨_, rfl, ?_⟩; replace HO_1 := zVb HO_1 hb; replace HO_2 := zVb HO_2 hb; replace HO_9 := zVb HO_9 hb; replace HO_10 := zVb HO_10 hb; replace HO_11 := zVb HO_11 hb; replace HO_12 := zVb HO_12 hb; replace HO114 := zVb HO114 hb; replace HO117 := zVb HO117 hb; have HO120 := zWV (fun k_ => ((P1_ k_ ∨ P2_ k_) ∨ w.heap.size ≤ k_)) ho0 HB (fun k_ hk_ => (.inr (Nat.le_trans (zS HB) hk_))); replace HB := zBb HB hb; obtain ⟨Ao27, co27, eo27⟩ := Kd.V_slice HO_11.out; subst eo27; obtain ⟨Ao28, co28, eo28⟩ := Kd.V_slice HO120.out; subst eo28) | ((with_reducible refine gate_callee (f := 61) rfl ?_); refine zG (some 61) Try.func61 #[.int .i64 a0, .slice Ao27 x11_1.length co27, .slice Ao28 t118.length co28] ?_; (with_reducible refine (fp_Sub.calls k1 a0 _ _ x11_1 _ _ t118 t121 _ (zC ((Kd.V_reads' HO_11.out).2.2)) ((Kd.V_reads' HO_11.out).2.1) (zC ((Kd.V_reads' HO120.out).2.2)) ((Kd.V_reads' HO120.out).2.1) A20.out).mono ?_); rintro e w29 ⟨v122, rfl, ho0, hb⟩; refine ⟨_, rfl, ?_⟩; replace HO_1 := zVb HO_1 hb; replace HO_2 := zVb HO_2 hb; replace HO_9 := zVb HO_9 hb; replace HO_10 := zVb HO_10 hb; replace HO_11 := zVb HO_11 hb; replace HO_12 := zVb HO_12 hb; replace HO114 := zVb HO114 hb; replace HO117 := zVb HO117 hb; replace HO120 := zVb HO120 hb; have HO123 := zWV (fun k_ => ((P1_ k_ ∨ P2_ k_) ∨ w.heap.size ≤ k_)) ho0 HB (fun k_ hk_ => (.inr (Nat.le_trans (zS HB) hk_))); replace HB := zBb HB hb))
    go_roundg k1
    case measure => have := HK1.out; omega
    case rel => exact ⟨(x10_1), (t115), (x12_1), (t121), H', ⟨by have := HK1.out; omega⟩, ⟨zV HO_1.out⟩, ⟨zV HO_2.out⟩, ⟨zV HO_10.out⟩, ⟨zV HO117.out⟩, ⟨zV HO_12.out⟩, ⟨zV HO123.out⟩, ⟨zT⟩⟩
   rw [if_neg c17] at H
   have c17b0 : decide (0 < (x10_1.length : Int)) = false := decide_eq_false c17
   have c17b1 : decide (0 < x10_1.length) = false := decide_eq_false (by omega)
   clear c17
   obtain ⟨ji30, hji30⟩ : ∃ j_ : Int, (wrap64 ((x9_1.length : Int) - 1)) = j_ := ⟨_, rfl⟩
   first | rw [hji30] at H | simp only [hji30] at H
   have hji30w : (IntKind.i64.wrap ((x9_1.length : Int) - 1)) = ji30 := (i64_w _).trans hji30
   by_cases c31 : 0 ≤ (ji30)
   rotate_left
   ·rw [if_neg c31] at H
    exact absurd H (by simp)
   rw [if_pos c31] at H
   have c31b0 := decide_eq_true c31; clear c31
   by_cases c32 : (ji30) < (x9_1.length : Int)
   rotate_left
   ·rw [if_neg c32] at H
    exact absurd H (by simp)
   rw [if_pos c32] at H
   have c32b0 := decide_eq_true c32; clear c32
   obtain ⟨t125, A33, H⟩ := zO H
   obtain ⟨t126, A34, H⟩ := zO H
   obtain ⟨⟨t129, t132⟩, A35, H⟩ := zO H; try dsimp only at H
   obtain ⟨t135, A36, H⟩ := zO H
   obtain ⟨t138, A37, H⟩ := zO H
   obtain ⟨t141, A38, H⟩ := zO H
   obtain ⟨t144, A39, H⟩ := zO H
   obtain ⟨⟨t147, t150⟩, A40, H⟩ := zO H; try dsimp only at H
   simp only [Option.some.injEq, Prod.mk.injEq] at H
   obtain ⟨rfl, rfl, rfl⟩ := H
   obtain ⟨Ao41, co41, eo41⟩ := Kd.V_slice HO_10.out
   subst eo41
   obtain ⟨Ao42, co42, eo42⟩ := Kd.V_slice HO_9.out
   subst eo42
   obtain ⟨p124, q124, ad124, e124, hx124_0⟩ := zI ((Kd.V_reads' HO_9.out).2.2) ((ji30)) zD zD
   cases e124
   go_wp2_with (first | ((with_reducible refine gate_callee (f := 114) rfl ?_); refine zH (some 69) Try.func114 #[.int .i64 a0, .int .i64 (rd x9_1 (ji30))] rfl (by (try simp only [List.map_toArray, List.map_cons, List.map_nil]); first | done | (simp only [hji30]; rfl) | rfl | (simp only [List.length_drop, List.length_take]; rfl)) ?_; (with_reducible refine (fp_Inv.calls k1 a0 (rd x9_1 (ji30)) t125 _ A33.out).mono ?_); rintro e w' ⟨rfl, ⟨nd, rfl⟩⟩; refine ⟨_, rfl, ?_⟩) | ((with_reducible refine gate_callee (f := 57) rfl ?_); refine zG (some 73) Try.func57 #[.int .i64 a0, .slice (some ad124) x9_1.length co42, .int .i64 t125] ?_; (with_reducible refine (fp_Scale.calls k1 a0 _ _ x9_1 t125 t126 _ (zC ((Kd.V_reads' HO_9.out).2.2)) ((Kd.V_reads' HO_9.out).2.1) A34.out).mono ?_); rintro e w43 ⟨v127, rfl, ho0, hb⟩; refine ⟨_, rfl, ?_⟩; replace HO_1 := zVb HO_1 hb; replace HO_2 := zVb HO_2 hb; replace HO_9 := zVb HO_9 hb; replace HO_10 := zVb HO_10 hb; replace HO_11 := zVb HO_11 hb; replace HO_12 := zVb HO_12 hb; have HO128 := zWV (fun k_ => ((P1_ k_ ∨ P2_ k_) ∨ w.heap.size ≤ k_)) ho0 HB (fun k_ hk_ => (.inr (Nat.le_trans (zS HB) hk_))); replace HB := zBb HB hb; obtain ⟨Ao44, co44, eo44⟩ := Kd.V_slice HO128.out; subst eo44) | ((with_reducible refine gate_callee (f := 106) rfl ?_); refine zG (some 78) Try.func106 #[.int .i64 a0, .slice A2 l2.length c2, .slice Ao44 t126.length co44] ?_; (with_reducible refine (fp_DivMod.calls k1 a0 _ _ l2 _ _ t126 t129 t132 _ (zC ((Kd.V_reads' HO_2.out).2.2)) ((Kd.V_reads' HO_2.out).2.1) (zC ((Kd.V_reads' HO128.out).2.2)) ((Kd.V_reads' HO128.out).2.1) A35.out).mono ?_); rintro e w45 ⟨v130, v133, rfl, ho0, ho1, hb⟩; refine ⟨_, rfl, ?_⟩; replace HO_1 := zVb HO_1 hb; replace HO_2 := zVb HO_2 hb; replace HO_9 := zVb HO_9 hb; replace HO_10 := zVb HO_10 hb; replace HO_11 := zVb HO_11 hb; replace HO_12 := zVb HO_12 hb; replace HO128 := zVb HO128 hb; have HO131 := zWV (fun k_ => ((P1_ k_ ∨ P2_ k_) ∨ w.heap.size ≤ k_)) ho0 HB (fun k_ hk_ => (.inr (Nat.le_trans (zS HB) hk_))); have HO134 := zm (Kd.V_lower (Kd.V_mono (ok' := fun k_ => ((P1_ k_ ∨ P2_ k_) ∨ w.heap.size ≤ k_)) ho1 (fun k_ hk_ => (.inr (Nat.le_trans (zS HB) hk_)))) (zS HB)); replace HB := zBb HB hb; (try clear ho1); obtain ⟨Ao46, co46, eo46⟩ := Kd.V_slice HO_11.out; subst eo46) | ((with_reducible refine gate_callee (f := 57) rfl ?_); refine zG (some 85) Try.func57 #[.int .i64 a0, .slice Ao46 x11_1.length co46, .int .i64 t125] ?_; (with_reducible refine (fp_Scale.calls k1 a0 _ _ x11_1 t125 t135 _ (zC ((Kd.V_reads' HO_11.out).2.2)) ((Kd.V_reads' HO_11.out).2.1) A36.out).mono ?_); rintro e w47 ⟨v136, rfl, ho0, hb⟩; refine ⟨_, rfl, ?_⟩; replace HO_1 := zVb HO_1 hb; replace HO_2 := zVb HO_2 hb; replace HO_9 := zVb HO_9 hb; replace HO_10 := zVb HO_10 hb; replace HO_11 := zVb HO_11 hb; replace HO_12 := zVb HO_12 hb; replace HO128 := zVb HO128 hb; replace HO131 := zVb HO131 hb; replace HO134 := zVb HO134 hb; have HO137 := zWV (fun k_ => ((P1_ k_ ∨ P2_ k_) ∨ w.heap.size ≤ k_)) ho0 HB (fun k_ hk_ => (.inr (Nat.le_trans (zS HB) hk_))); replace HB := zBb HB hb; obtain ⟨Ao48, co48, eo48⟩ := Kd.V_slice HO137.out; subst eo48; obtain ⟨Ao49, co49, eo49⟩ := Kd.V_slice HO131.out; subst eo49) | ((with_reducible refine gate_callee (f := 83) rfl ?_); refine zG (some 87) Try.func83 #[.int .i64 a0, .slice Ao48 t135.length co48, .slice Ao49 t129.length co49] ?_; (with_reducible refine (fp_Rem.calls k1 a0 _ _ t135 _ _ t129 t138 _ (zC ((Kd.V_reads' HO137.out).2.2)) ((Kd.V_reads' HO137.out).2.1) (zC ((Kd.V_reads' HO131.out).2.2)) ((Kd.V_reads' HO131.out).2.1) A37.out).mono ?_); rintro e w50 ⟨v139, rfl, ho0, hb⟩; refine ⟨_, rfl, ?_⟩; replace HO_1 := zVb HO_1 hb; replace HO_2 := zVb HO_2 hb; replace HO_9 := zVb HO_9 hb; replace HO_10 := zVb HO_10 hb; replace HO_11 := zVb HO_11 hb; replace HO_12 := zVb HO_12 hb; replace HO128 := zVb HO128 hb; replace HO131 := zVb HO131 hb; replace HO134 := zVb HO134 hb; replace HO137 := zVb HO137 hb; have HO140 := zWV (fun k_ => ((P1_ k_ ∨ P2_ k_) ∨ w.heap.size ≤ k_)) ho0 HB (fun k_ hk_ => (.inr (Nat.le_trans (zS HB) hk_))); replace HB := zBb HB hb; obtain ⟨Ao51, co51, eo51⟩ := Kd.V_slice HO140.out; subst eo51) | ((with_reducible refine gate_callee (f := 112) rfl ?_); refine zG (some 95) Try.func112 #[.int .i64 a0, .slice Ao51 t138.length co51, .slice A1 l1.length c1] ?_; (with_reducible refine (fp_Mul.calls k1 a0 _ _ t138 _ _ l1 t141 _ (zC ((Kd.V_reads' HO140.out).2.2)) ((Kd.V_reads' HO140.out).2.1) (zC ((Kd.V_reads' HO_1.out).2.2)) ((Kd.V_reads' HO_1.out).2.1) A38.out).mono ?_); rintro e w52 ⟨v142, rfl, ho0, hb⟩; refine ⟨_, rfl, ?_⟩; replace HO_1 := zVb HO_1 hb; replace HO_2 := zVb HO_2 hb; replace HO_9 := zVb HO_9 hb; replace HO_10 := zVb HO_10 hb; replace HO_11 := zVb HO_11 hb; replace HO_12 := zVb HO_12 hb; replace HO128 := zVb HO128 hb; replace HO131 := zVb HO131 hb; replace HO134 := zVb HO134 hb; replace HO137 := zVb HO137 hb; replace HO140 := zVb HO140 hb; have HO143 := zWV (fun k_ => ((P1_ k_ ∨ P2_ k_) ∨ w.heap.size ≤ k_)) ho0 HB (fun k_ hk_ => (.inr (Nat.le_trans (zS HB) hk_))); replace HB := zBb HB hb; obtain ⟨Ao53, co53, eo53⟩ := Kd.V_slice HO143.out; subst eo53) | ((with_reducible refine gate_callee (f := 61) rfl ?_); refine zG (some 96) Try.func61 #[.int .i64 a0, .slice Ao44 t126.length co44, .slice Ao53 t141.length co53] ?_; (with_reducible refine (fp_Sub.calls k1 a0 _ _ t126 _ _ t141 t144 _ (zC ((Kd.V_reads' HO128.out).2.2)) ((Kd.V_reads' HO128.out).2.1) (zC ((Kd.V_reads' HO143.out).2.2)) ((Kd.V_reads' HO143.out).2.1) A39.out).mono ?_); rintro e w54 ⟨v145, rfl, ho0, hb⟩; refine ⟨_, rfl, ?_⟩; replace HO_1 := zVb HO_1 hb; replace HO_2 := zVb HO_2 hb; replace HO_9 := zVb HO_9 hb; replace HO_10 := zVb HO_10 hb; replace HO_11 := zVb HO_11 hb; replace HO_12 := zVb HO_12 hb; replace HO128 := zVb HO128 hb; replace HO131 := zVb HO131 hb; replace HO134 := zVb HO134 hb; replace HO137 := zVb HO137 hb; replace HO140 := zVb HO140 hb; replace HO143 := zVb HO143 hb; have HO146 := zWV (fun k_ => ((P1_ k_ ∨ P2_ k_) ∨ w.heap.size ≤ k_)) ho0 HB (fun k_ hk_ => (.inr (Nat.le_trans (zS HB) hk_))); replace HB := zBb HB hb; obtain ⟨Ao55, co55, eo55⟩ := Kd.V_slice HO146.out; subst eo55) | ((with_reducible refine gate_callee (f := 106) rfl ?_); refine zG (some 98) Try.func106 #[.int .i64 a0, .slice Ao55 t144.length co55, .slice A2 l2.length c2] ?_; (with_reducible refine (fp_DivMod.calls k1 a0 _ _ t144 _ _ l2 t147 t150 _ (zC ((Kd.V_reads' HO146.out).2.2)) ((Kd.V_reads' HO146.out).2.1) (zC ((Kd.V_reads' HO_2.out).2.2)) ((Kd.V_reads' HO_2.out).2.1) A40.out).mono ?_); rintro e w56 ⟨v148, v151, rfl, ho0, ho1, hb⟩; refine ⟨_, rfl, ?_⟩; replace HO_1 := zVb HO_1 hb; replace HO_2 := zVb HO_2 hb; replace HO_9 := zVb HO_9 hb; replace HO_10 := zVb HO_10 hb; replace HO_11 := zVb HO_11 hb; replace HO_12 := zVb HO_12 hb; replace HO128 := zVb HO128 hb; replace HO131 := zVb HO131 hb; replace HO134 := zVb HO134 hb; replace HO137 := zVb HO137 hb; replace HO140 := zVb HO140 hb; replace HO143 := zVb HO143 hb; replace HO146 := zVb HO146 hb; have HO149 := zWV (fun k_ => ((P1_ k_ ∨ P2_ k_) ∨ w.heap.size ≤ k_)) ho0 HB (fun k_ hk_ => (.inr (Nat.le_trans (zS HB) hk_))); have HO152 := zm (Kd.V_lower (Kd.V_mono (ok' := fun k_ => ((P1_ k_ ∨ P2_ k_) ∨ w.heap.size ≤ k_)) ho1 (fun k_ hk_ => (.inr (Nat.le_trans (zS HB) hk_)))) (zS HB)); replace HB := zBb HB hb; (try clear ho1)))
   go_ret3
   exact ⟨_, _, _, by first | rfl | (simp [errW_none, errW_some] <;> rfl) | (simp only [← hji30]; first | rfl | (simp [errW_none, errW_some] <;> rfl)) | (simp [*, errW_none, errW_some] <;> rfl), zV HO128.out, zV HO140.out, zV HO149.out, zT⟩
def gFInverse.f (k : Nat) (a0_0 : Int) (l0_1 : List Int) (l1 : List Int) : Option (List Int) := (fp_Xgcd.f k a0_0 l1 l0_1).bind fun bt102 => ((fp_Rem.f k a0_0 bt102.2.1 l0_1).bind fun t111 => (some t111))
theorem gFInverse.mono : ∀ a0 a1 a2 k, LeO (gFInverse.f k a0 a1 a2) (gFInverse.f (k + 1) a0 a1 a2) := by
 intro a0 a1 a2 k
 unfold gFInverse.f
 with_reducible repeat' first | exact fp_Rem.mono _ _ _ _ | exact fp_Xgcd.mono _ _ _ _ | exact LeO.refl _ | exact LeO.none _ | refine LeO.ite ?_ ?_ | refine LeO.bind ?_ (fun _ => ?_)
theorem gFInverse.calls (k : Nat) (a0_0 : Int) (P0_1_ : Nat → Prop) (A0_1 : Option Addr) (c0_1 : Nat) (l0_1 : List Int) (P1_ : Nat → Prop) (A1 : Option Addr) (c1 : Nat) (l1 : List Int) (r : List Int) (w : World) (hs0_1 : Kd.V (Kd.int .i64) 3 w w.heap.size (fun k_ => P0_1_ k_) (.slice A0_1 l0_1.length c0_1) l0_1) (hs1 : Kd.V (Kd.int .i64) 3 w w.heap.size (fun k_ => P1_ k_) (.slice A1 l1.length c1) l1) (h : gFInverse.f k a0_0 l0_1 l1 = some r) :
  Calls Try.prog 67 #[.agg #[.int .i64 a0_0, .slice A0_1 l0_1.length c0_1], .slice A1 l1.length c1] w fun e w' => ∃ v0_ : Value, e = .returned (v0_) ∧ Kd.V (Kd.int .i64) 3 w' w.heap.size (fun k_ => ((P0_1_ k_ ∨ P1_ k_) ∨ w.heap.size ≤ k_)) v0_ r ∧ Below w.heap.size w w' := by
 have hu68 := Try.underlying68
 have HO0_1 := zm (show Kd.V (Kd.int .i64) 3 w w.heap.size (fun k_ => ((P0_1_ k_ ∨ P1_ k_) ∨ w.heap.size ≤ k_)) (.slice A0_1 l0_1.length c0_1) l0_1 from Kd.V_mono hs0_1 (fun k_ hk => .inl (.inl hk)))
 have HO1 := zm (show Kd.V (Kd.int .i64) 3 w w.heap.size (fun k_ => ((P0_1_ k_ ∨ P1_ k_) ∨ w.heap.size ≤ k_)) (.slice A1 l1.length c1) l1 from Kd.V_mono hs1 (fun k_ hk => .inl (.inr hk)))
 have HB := zm (Below.refl w.heap.size w)
 have H := h; clear h; unfold gFInverse.f at H
 obtain ⟨⟨t102, t105, t108⟩, A3, H⟩ := zO H; try dsimp only at H
 obtain ⟨t111, A4, H⟩ := zO H
 obtain rfl := Option.some.inj H
 go_enter Try.func67, Try.ntmps67
 go_wp2_with (first | ((with_reducible refine gate_dst (N := 2) rfl ?_); refine zb 2 #[.int .i64 a0_0, .slice A0_1 l0_1.length c0_1] 68 ?_; intro gb101 hg w5 hbox hb; replace HO0_1 := zm (Kd.V_below (Kd.V_elderB (zV HO0_1.out) gb101 (Nat.le_of_eq hg.symm)) hb); replace HO1 := zm (Kd.V_below (Kd.V_elderB (zV HO1.out) gb101 (Nat.le_of_eq hg.symm)) hb); have BK101 := zm (hbox); have GW101 := zg HB hg; have GE101 := GW101; replace HB := zBb HB hb; clear hb hbox hg; obtain ⟨hcz6_0, hcz6_1, hfz6_0, hfz6_1⟩ := zf2 BK101) | ((with_reducible refine gate_callee (f := 98) rfl ?_); refine zG (some 16) Try.func98 #[.int .i64 a0_0, .slice A1 l1.length c1, .slice A0_1 l0_1.length c0_1] ?_; (with_reducible refine (fp_Xgcd.calls k a0_0 (fun k_ => (((P0_1_ k_ ∨ P1_ k_) ∨ w.heap.size ≤ k_) ∧ k_ ≠ gb101)) _ _ l1 (fun k_ => (((P0_1_ k_ ∨ P1_ k_) ∨ w.heap.size ≤ k_) ∧ k_ ≠ gb101)) _ _ l0_1 t102 t105 t108 _ HO1.out HO0_1.out A3.out).mono ?_); rintro e w7 ⟨v103, v106, v109, rfl, ho0, ho1, ho2, hb⟩; refine ⟨_, rfl, ?_⟩; replace HO0_1 := zVb HO0_1 hb; replace HO1 := zVb HO1 hb; have HO104 := zWV (fun k_ => ((P0_1_ k_ ∨ P1_ k_) ∨ w.heap.size ≤ k_) ∧ k_ ≠ gb101) ho0 HB (fun k_ hk_ => ⟨Or.elim hk_ (fun hs_ => Or.elim hs_ (fun hs_ => hs_.1) (fun hs_ => hs_.1)) (fun hn_ => (.inr (Nat.le_trans (zS HB) hn_))), Or.elim hk_ (fun hs_ => Or.elim hs_ (fun hs_ => hs_.2) (fun hs_ => hs_.2)) (fun hn_ => (Kd.freshB (zK BK101.out) k_ hn_))⟩); have HO107 := zm (Kd.V_lower (Kd.V_mono (ok' := fun k_ => ((P0_1_ k_ ∨ P1_ k_) ∨ w.heap.size ≤ k_) ∧ k_ ≠ gb101) ho1 (fun k_ hk_ => ⟨Or.elim hk_ (fun hs_ => Or.elim hs_ (fun hs_ => hs_.1) (fun hs_ => hs_.1)) (fun hn_ => (.inr (Nat.le_trans (zS HB) hn_))), Or.elim hk_ (fun hs_ => Or.elim hs_ (fun hs_ => hs_.2) (fun hs_ => hs_.2)) (fun hn_ => (Kd.freshB (zK BK101.out) k_ hn_))⟩)) (zS HB)); have HO110 := zm (Kd.V_lower (Kd.V_mono (ok' := fun k_ => ((P0_1_ k_ ∨ P1_ k_) ∨ w.heap.size ≤ k_) ∧ k_ ≠ gb101) ho2 (fun k_ hk_ => ⟨Or.elim hk_ (fun hs_ => Or.elim hs_ (fun hs_ => hs_.1) (fun hs_ => hs_.1)) (fun hn_ => (.inr (Nat.le_trans (zS HB) hn_))), Or.elim hk_ (fun hs_ => Or.elim hs_ (fun hs_ => hs_.2) (fun hs_ => hs_.2)) (fun hn_ => (Kd.freshB (zK BK101.out) k_ hn_))⟩)) (zS HB)); replace BK101 := zKb BK101 hb; replace HB := zBb HB hb; (try clear ho1); (try clear ho2); obtain ⟨hcz8_0, hcz8_1, hfz8_0, hfz8_1⟩ := zf2 BK101; obtain ⟨Ao9, co9, eo9⟩ := Kd.V_slice HO107.out; subst eo9) | ((with_reducible refine gate_callee (f := 83) rfl ?_); refine zG (some 27) Try.func83 #[.int .i64 a0_0, .slice Ao9 t105.length co9, .slice A0_1 l0_1.length c0_1] ?_; (with_reducible refine (fp_Rem.calls k a0_0 _ _ t105 _ _ l0_1 t111 _ (zC ((Kd.V_reads' HO107.out).2.2)) ((Kd.V_reads' HO107.out).2.1) (zC ((Kd.V_reads' HO0_1.out).2.2)) ((Kd.V_reads' HO0_1.out).2.1) A4.out).mono ?_); rintro e w10 ⟨v112, rfl, ho0, hb⟩; refine ⟨_, rfl, ?_⟩; replace HO0_1 := zVb HO0_1 hb; replace HO1 := zVb HO1 hb; replace HO104 := zVb HO104 hb; replace HO107 := zVb HO107 hb; replace HO110 := zVb HO110 hb; have HO113 := zWV (fun k_ => ((P0_1_ k_ ∨ P1_ k_) ∨ w.heap.size ≤ k_) ∧ k_ ≠ gb101) ho0 HB (fun k_ hk_ => ⟨(.inr (Nat.le_trans (zS HB) hk_)), (Kd.freshB (zK BK101.out) k_ hk_)⟩); replace BK101 := zKb BK101 hb; replace HB := zBb HB hb))
 go_ret
 exact ⟨_, zQ, zV (Kd.V_mono HO113.out (fun _ hk => hk.1)), zT⟩
def fi_Inverse.f (k : Nat) (a0_0 : Int) (l0_1 : List Int) (l1 : List Int) : Option (List Int × Int) := (fi_check.f k a0_0 l0_1 (([l1] : List (List Int)))).bind fun t105 => (if t105 = 0 then (if (l1.length : Int) = 0 then (none) else ((gFInverse.f k a0_0 l0_1 l1).bind fun t106 => (some (t106, 0)))) else (none))
theorem fi_Inverse.mono : ∀ a0 a1 a2 k, LeO (fi_Inverse.f k a0 a1 a2) (fi_Inverse.f (k + 1) a0 a1 a2) := by
 intro a0 a1 a2 k
 unfold fi_Inverse.f
 with_reducible repeat' first | exact fi_check.mono _ _ _ _ | exact gFInverse.mono _ _ _ _ | exact LeO.refl _ | exact LeO.none _ | refine LeO.ite ?_ ?_ | refine LeO.bind ?_ (fun _ => ?_)
theorem fi_Inverse.calls (k : Nat) (a0_0 : Int) (P0_1_ : Nat → Prop) (A0_1 : Option Addr) (c0_1 : Nat) (l0_1 : List Int) (P1_ : Nat → Prop) (A1 : Option Addr) (c1 : Nat) (l1 : List Int) (r1 : List Int) (r2 : Int) (w : World) (hs0_1 : Kd.V (Kd.int .i64) 3 w w.heap.size (fun k_ => P0_1_ k_) (.slice A0_1 l0_1.length c0_1) l0_1) (hs1 : Kd.V (Kd.int .i64) 3 w w.heap.size (fun k_ => P1_ k_) (.slice A1 l1.length c1) l1) (h : fi_Inverse.f k a0_0 l0_1 l1 = some (r1, r2)) :
  Calls Try.prog 33 #[.agg #[.int .i64 a0_0, .slice A0_1 l0_1.length c0_1], .slice A1 l1.length c1] w fun e w' => ∃ v0_ : Value, e = .returned (.tuple #[v0_, .int .i64 r2]) ∧ Kd.V (Kd.int .i64) 3 w' w.heap.size (fun k_ => ((P0_1_ k_ ∨ P1_ k_) ∨ w.heap.size ≤ k_)) v0_ r1 ∧ Below w.heap.size w w' := by
 have hu33 := Try.underlying33
 have hu68 := Try.underlying68
 have HO0_1 := zm (show Kd.V (Kd.int .i64) 3 w w.heap.size (fun k_ => ((P0_1_ k_ ∨ P1_ k_) ∨ w.heap.size ≤ k_)) (.slice A0_1 l0_1.length c0_1) l0_1 from Kd.V_mono hs0_1 (fun k_ hk => .inl (.inl hk)))
 have HO1 := zm (show Kd.V (Kd.int .i64) 3 w w.heap.size (fun k_ => ((P0_1_ k_ ∨ P1_ k_) ∨ w.heap.size ≤ k_)) (.slice A1 l1.length c1) l1 from Kd.V_mono hs1 (fun k_ hk => .inl (.inr hk)))
 have HB := zm (Below.refl w.heap.size w)
 have H := h; clear h; unfold fi_Inverse.f at H
 obtain ⟨y102, Ny102⟩ := zA ((([l1] : List (List Int))) : List (List Int)); rw [← Ny102.out] at H
 obtain ⟨t105, A3, H⟩ := zO H
 by_cases c4 : t105 = 0
 rotate_left
 ·rw [if_neg c4] at H
  exact absurd H (by simp)
 rw [if_pos c4] at H
 obtain ⟨c4b0, c4b1⟩ := zE c4; clear c4
 by_cases c5 : (l1.length : Int) = 0
 ·rw [if_pos c5] at H
  exact absurd H (by simp)
 rw [if_neg c5] at H
 obtain ⟨c5b0, c5b1⟩ := zU c5
 have c5b2 : ¬ (l1 = []) := fun h_ => c5 (by rw [h_]; rfl)
 obtain ⟨t106, A6, H⟩ := zO H
 simp only [Option.some.injEq, Prod.mk.injEq] at H
 obtain ⟨rfl, rfl⟩ := H
 go_enter Try.func33, Try.ntmps33
 go_wp2_with (first | ((with_reducible refine gate_dst (N := 2) rfl ?_); refine zb 2 #[.int .i64 a0_0, .slice A0_1 l0_1.length c0_1] 33 ?_; intro gb101 hg w7 hbox hb; replace HO0_1 := zm (Kd.V_below (Kd.V_elderB (zV HO0_1.out) gb101 (Nat.le_of_eq hg.symm)) hb); replace HO1 := zm (Kd.V_below (Kd.V_elderB (zV HO1.out) gb101 (Nat.le_of_eq hg.symm)) hb); have BK101 := zm (hbox); have GW101 := zg HB hg; have GE101 := GW101; replace HB := zBb HB hb; clear hb hbox hg; obtain ⟨hcz8_0, hcz8_1, hfz8_0, hfz8_1⟩ := zf2 BK101) | ((with_reducible refine gate_dst (N := 9) rfl ?_); refine Kd.N_lit (Kd.slice 3 (Kd.int .i64)) _ 25 ?hg (N' := 9) ?hd (xs := ([l1] : List (List Int))) (inner := [.slice A1 l1.length c1]) (ok := (fun k_ => ((P0_1_ k_ ∨ P1_ k_) ∨ w.heap.size ≤ k_) ∧ k_ ≠ gb101)) (okp := (fun k_ => ((P0_1_ k_ ∨ P1_ k_) ∨ w.heap.size ≤ k_) ∧ k_ ≠ gb101)) ?hr ?hp (fun _ hk => hk) ((show ∀ k_, w7.heap.size ≤ k_ → (fun k_ => ((P0_1_ k_ ∨ P1_ k_) ∨ w.heap.size ≤ k_) ∧ k_ ≠ gb101) k_ from fun k_ hk => ⟨(.inr (Nat.le_trans (zS HB) hk)), Kd.freshB (zK BK101.out) k_ hk⟩) _ (Nat.le_refl _)) (Below.refl _ _) (Nat.le_refl _) (by simp) ?_; (case hd => rfl); (case hg => rfl); (case hr => go_simp <;> rfl); (case hp => exact (Reps.one (show Kd.FK (Kd.slice 3 (Kd.int .i64)) _ _ l1 [.slice A1 l1.length c1] from (zFK HO1.out (fun k_ hk => ⟨hk.1, hk.2⟩))) (Reps.none _ _))); intro v103 w9 ho10 hb hg_ hnew_; clear hg_ hnew_; (first | rw [← Ny102.out] at ho10 | (simp only [Int.reduceToNat] at ho10; rw [← Ny102.out] at ho10)); replace HO0_1 := zm (Kd.V_elder' (zV HO0_1.out) (Kd.N_base ho10) hb); replace HO1 := zm (Kd.V_elder' (zV HO1.out) (Kd.N_base ho10) hb); have HO104 := zm (Kd.N_lower ho10 (zS HB)); replace BK101 := zKb BK101 hb; replace HB := zBb HB hb; clear hb ho10; obtain ⟨Ao11, co11, eo11⟩ := Kd.N_slice HO104.out; subst eo11) | ((with_reducible refine gate_callee (f := 53) rfl ?_); refine zG (some 10) Try.func53 #[.agg #[.int .i64 a0_0, .slice A0_1 l0_1.length c0_1], .slice Ao11 y102.length co11] ?_; (with_reducible refine (fi_check.calls k a0_0 _ _ l0_1 _ _ y102 t105 _ (zC ((Kd.V_reads' HO0_1.out).2.2)) ((Kd.V_reads' HO0_1.out).2.1) (zC ((Kd.N_reads' HO104.out).2.2)) ((Kd.N_reads' HO104.out).2.1) A3.out).mono ?_); rintro e w12 ⟨rfl, hb⟩; refine ⟨_, rfl, ?_⟩; replace HO0_1 := zVb HO0_1 hb; replace HO1 := zVb HO1 hb; replace HO104 := zNb HO104 hb; replace BK101 := zKb BK101 hb; replace HB := zBb HB hb; obtain ⟨hcz13_0, hcz13_1, hfz13_0, hfz13_1⟩ := zf2 BK101) | ((with_reducible refine gate_callee (f := 67) rfl ?_); refine zG (some 20) Try.func67 #[.agg #[.int .i64 a0_0, .slice A0_1 l0_1.length c0_1], .slice A1 l1.length c1] ?_; (with_reducible refine (gFInverse.calls k a0_0 (fun k_ => ((((P0_1_ k_ ∨ P1_ k_) ∨ w.heap.size ≤ k_) ∧ k_ ≠ gb101) ∧ some k_ ≠ (.slice Ao11 y102.length co11 : Value).ownBlock)) _ _ l0_1 (fun k_ => ((((P0_1_ k_ ∨ P1_ k_) ∨ w.heap.size ≤ k_) ∧ k_ ≠ gb101) ∧ some k_ ≠ (.slice Ao11 y102.length co11 : Value).ownBlock)) _ _ l1 t106 _ HO0_1.out HO1.out A6.out).mono ?_); rintro e w14 ⟨v107, rfl, ho0, hb⟩; refine ⟨_, rfl, ?_⟩; replace HO0_1 := zVb HO0_1 hb; replace HO1 := zVb HO1 hb; have HO108 := zWV (fun k_ => ((P0_1_ k_ ∨ P1_ k_) ∨ w.heap.size ≤ k_) ∧ some k_ ≠ (.slice Ao11 y102.length co11 : Value).ownBlock ∧ k_ ≠ gb101) ho0 HB (fun k_ hk_ => ⟨Or.elim hk_ (fun hs_ => Or.elim hs_ (fun hs_ => hs_.1.1) (fun hs_ => hs_.1.1)) (fun hn_ => (.inr (Nat.le_trans (zS HB) hn_))), Or.elim hk_ (fun hs_ => Or.elim hs_ (fun hs_ => hs_.2) (fun hs_ => hs_.2)) (fun hn_ => (Kd.fresh' (Kd.N_lt (zN HO104.out)) k_ hn_)), Or.elim hk_ (fun hs_ => Or.elim hs_ (fun hs_ => hs_.1.2) (fun hs_ => hs_.1.2)) (fun hn_ => (Kd.freshB (zK BK101.out) k_ hn_))⟩); replace HO104 := zNb HO104 hb; replace BK101 := zKb BK101 hb; replace HB := zBb HB hb))
 go_ret2
 exact ⟨_, zQ, zV (Kd.V_mono HO108.out (fun _ hk => hk.1)), zT⟩
mutual
def gFOrder.l0 : Nat → List Int → Int → List (S107) → Int → Int → Int → List Int → Option (Int)
 | 0, _, _, _, _, _, _, _ => none
 | k + 1, x1, x7, x19, x20, x21, x102000, x102001 => if x21 < x20 then (if 0 ≤ x21 then (if x21 < (x19.length : Int) then (gFOrder.l1 k x1 x7 x19 x20 x21 x102000 x102001 ((rd_T107 x19 x21).f0) ((rd_T107 x19 x21).f1)) else (none)) else (none)) else (some x7)
def gFOrder.l1 : Nat → List Int → Int → List (S107) → Int → Int → Int → List Int → Int → Int → Option (Int)
 | 0, _, _, _, _, _, _, _, _, _ => none
 | k + 1, x1, x7, x19, x20, x21, x102000, x102001, x108000, x108001 => if x108000 = 0 then (none) else (if (Int.tmod x7 x108000) = 0 then ((gFPow.f k x102000 x102001 x1 (wrap64 (Int.tdiv x7 x108000))).bind fun t108 => ((gf_IsOne.f t108).bind fun t111 => (if t111 = true then (gFOrder.l1 k x1 (wrap64 (Int.tdiv x7 x108000)) x19 x20 x21 x102000 x102001 x108000 x108001) else (gFOrder.l0 k x1 x7 x19 x20 (wrap64 (x21 + 1)) x102000 x102001)))) else (gFOrder.l0 k x1 x7 x19 x20 (wrap64 (x21 + 1)) x102000 x102001))
end
def gFOrder.f (k : Nat) (a0_0 : Int) (l0_1 : List Int) (l1 : List Int) (a2 : Int) : Option (Int) := (rs_Factor.f k (wrap64 (a2 - 1))).bind fun bt102 => (gFOrder.l0 k l1 (wrap64 (a2 - 1)) bt102.1 (bt102.1.length : Int) 0 a0_0 l0_1)
theorem gFOrder.mono_l : ∀ k, (∀ y0 y1 y2 y3 y4 y5 y6, LeO (gFOrder.l0 k y0 y1 y2 y3 y4 y5 y6) (gFOrder.l0 (k + 1) y0 y1 y2 y3 y4 y5 y6)) ∧ (∀ y0 y1 y2 y3 y4 y5 y6 y7 y8, LeO (gFOrder.l1 k y0 y1 y2 y3 y4 y5 y6 y7 y8) (gFOrder.l1 (k + 1) y0 y1 y2 y3 y4 y5 y6 y7 y8))
 | 0 => ⟨fun _ _ _ _ _ _ _ r h => by simp [gFOrder.l0] at h, fun _ _ _ _ _ _ _ _ _ r h => by simp [gFOrder.l1] at h⟩
 | k + 1 => by
  obtain ⟨ih0, ih1⟩ := gFOrder.mono_l k
  refine ⟨?_, ?_⟩
  ·intro y0 y1 y2 y3 y4 y5 y6
   unfold gFOrder.l0
   with_reducible repeat' first | exact ih0 _ _ _ _ _ _ _ | exact ih1 _ _ _ _ _ _ _ _ _ | exact gFPow.mono _ _ _ _ _ | exact rs_Factor.mono _ _ | exact LeO.refl _ | exact LeO.none _ | refine LeO.ite ?_ ?_ | refine LeO.bind ?_ (fun _ => ?_)
  intro y0 y1 y2 y3 y4 y5 y6 y7 y8
  unfold gFOrder.l1
  with_reducible repeat' first | exact ih0 _ _ _ _ _ _ _ | exact ih1 _ _ _ _ _ _ _ _ _ | exact gFPow.mono _ _ _ _ _ | exact rs_Factor.mono _ _ | exact LeO.refl _ | exact LeO.none _ | refine LeO.ite ?_ ?_ | refine LeO.bind ?_ (fun _ => ?_)
theorem gFOrder.mono : ∀ a0 a1 a2 a3 k, LeO (gFOrder.f k a0 a1 a2 a3) (gFOrder.f (k + 1) a0 a1 a2 a3) := by
 intro a0 a1 a2 a3 k
 obtain ⟨ih0, ih1⟩ := gFOrder.mono_l k
 unfold gFOrder.f
 with_reducible repeat' first | exact ih0 _ _ _ _ _ _ _ | exact ih1 _ _ _ _ _ _ _ _ _ | exact gFPow.mono _ _ _ _ _ | exact rs_Factor.mono _ _ | exact LeO.refl _ | exact LeO.none _ | refine LeO.ite ?_ ?_ | refine LeO.bind ?_ (fun _ => ?_)
def gFOrder.T6 : Bool × List (List Nat × List Nat) := (true, [([], []), ([], []), ([1], [1]), ([0, 2], [0, 2]), ([3], [3]), ([4], [4]), ([5], [5]), ([5], [5]), ([5], [5]), ([5], [5]), ([9, 5], [5, 9]), ([8, 10, 5], [5, 8, 10]), ([6, 7, 11, 5, 5], [5, 6, 7, 11]), ([12, 12, 5], [5, 12]), ([5, 13], [5, 13])])
def gFOrder.B6 : List Nat := [0, 0, 2, 7, 15, 31, 63, 63, 63, 63, 575, 1855, 4095, 8191, 16383]
theorem gFOrder.tab6 : rtab .any (opsOf Try.f73 6) = gFOrder.T6 := by kernel_rfl
theorem gFOrder.bits6 : waitsOk gFOrder.T6.2 gFOrder.B6 = true := by kernel_rfl
theorem gFOrder.calls (k : Nat) (a0_0 : Int) (A0_1 : Option Addr) (c0_1 : Nat) (l0_1 : List Int) (A1 : Option Addr) (c1 : Nat) (l1 : List Int) (a2 : Int) (r : Int) (w : World) (hr0_1 : Kd.C (Kd.int .i64) w A0_1 l0_1.length l0_1) (hc0_1 : l0_1.length ≤ c0_1) (hr1 : Kd.C (Kd.int .i64) w A1 l1.length l1) (hc1 : l1.length ≤ c1) (h : gFOrder.f k a0_0 l0_1 l1 a2 = some r) :
  Calls Try.prog 73 #[.agg #[.int .i64 a0_0, .slice A0_1 l0_1.length c0_1], .slice A1 l1.length c1, .int .i64 a2] w fun e w' => e = .returned (.int .i64 r) ∧ Below w.heap.size w w' := by
 have hu68 := Try.underlying68
 have hu107 := Try.underlying107
 have HR0_1 := zm hr0_1
 have HC0_1 := zm hc0_1
 clear hr0_1 hc0_1
 have HR1 := zm hr1
 have HC1 := zm hc1
 clear hr1 hc1
 have HB := zm (Below.refl w.heap.size w)
 have H := h; clear h; unfold gFOrder.f at H
 obtain ⟨⟨t102, t103⟩, A4, H⟩ := zO H; try dsimp only at H
 have H' := zm H
 clear H
 go_enter Try.func73, Try.ntmps73
 go_wp2_with (first | ((with_reducible refine gate_dst (N := 3) rfl ?_); refine zb 3 #[.int .i64 a0_0, .slice A0_1 l0_1.length c0_1] 68 ?_; intro gb101 hg w5 hbox hb; have BK101 := zm (hbox); have GW101 := zg HB hg; have GE101 := GW101; replace HB := zBb HB hb; clear hb hbox hg) | ((with_reducible refine gate_callee (f := 102) rfl ?_); refine zG (some 16) Try.func102 #[.int .i64 (wrap64 (a2 - 1))] ?_; (with_reducible refine (rs_Factor.calls k (wrap64 (a2 - 1)) t102 t103 _ A4.out).mono ?_); rintro e w6 ⟨v104, rfl, ho0, hb⟩; refine ⟨_, rfl, ?_⟩; have HO105 := zm (Kd.R_lower ho0 (zS HB)); replace BK101 := zKb BK101 hb; replace HB := zBb HB hb; obtain ⟨Ao7, co7, eo7⟩ := Kd.R_slice HO105.out; subst eo7))
 go_loopg [7, 21] k (fun kq v7 v21 w' => ∃ (x7_1 : Int) (x21_1 : Int), v7 = .int .i64 x7_1 ∧ v21 = .int .i64 x21_1 ∧ Aside0 (gFOrder.l0 kq l1 x7_1 t102 (t102.length : Int) x21_1 a0_0 l0_1 = some r) ∧ Aside0 (kq ≤ k) ∧ Aside0 (Kd.R k107 107 w' w.heap.size (fun _ => True) (.slice Ao7 t102.length co7) t102) ∧ Aside0 (w'.heap[gb101]? = some (.cells #[.int .i64 a0_0, (.slice A0_1 l0_1.length c0_1)] 68 (0, 0))) ∧ Aside0 (Below w.heap.size w w'))
 case atStart => exact ⟨(wrap64 (a2 - 1)), (0), zX, zX, H', ⟨Nat.le_refl _⟩, ⟨zR HO105.out⟩, ⟨zK BK101.out⟩, ⟨zT⟩⟩
 case round =>
  clear H'
  obtain ⟨x7_1, x21_1, rfl, rfl, HA, HK1, HO_19, BK101, HB⟩ := hrel
  cases gk with
  | zero => exact absurd HA.out (by simp [gFOrder.l0])
  | succ k1 =>
   have H := HA.out
   clear HA
   simp only [gFOrder.l0] at H
   by_cases c8 : x21_1 < (t102.length : Int)
   rotate_left
   ·rw [if_neg c8] at H
    have c8b0 := decide_eq_false c8; clear c8
    obtain rfl := Option.some.inj H
    go_wp2
    go_ret
    exact ⟨zQ, zT⟩
   rw [if_pos c8] at H
   have c8b0 := decide_eq_true c8; clear c8
   by_cases c9 : 0 ≤ x21_1
   rotate_left
   ·rw [if_neg c9] at H
    exact absurd H (by simp)
   rw [if_pos c9] at H
   have c9b0 := decide_eq_true c9; clear c9
   by_cases c10 : x21_1 < (t102.length : Int)
   rotate_left
   ·rw [if_neg c10] at H
    exact absurd H (by simp)
   rw [if_pos c10] at H
   have c10b0 := decide_eq_true c10; clear c10
   have H' := zm H
   clear H
   have p106 : 0 ≤ (x21_1 : Int) := zD
   have q106 : x21_1 < (t102.length : Int) := zD
   obtain ⟨ad106, e106, hx106_0, hx106_1⟩ := at_T107 (Kd.R_reads' HO_19.out).2.2 x21_1 p106 q106
   cases e106
   replace p106 := eq_true p106
   replace q106 := eq_true q106
   go_wp2_with (first | ((with_reducible refine gate_dst (N := 11) rfl ?_); refine zb 11 #[.int .i64 0, .int .i64 0] 107 ?_; intro gb107 hg w11 hbox hb; replace HO_19 := zm (Kd.R_below (Kd.R_elderB (zR HO_19.out) gb107 (Nat.le_of_eq hg.symm)) hb); have BK107 := zm (hbox); have GW107 := zg HB hg; have GE107 := GW107; replace HB := zBb HB hb; have NB101_107 := zm ((by rw [hg]; exact Nat.ne_of_lt (blk_lt (zK BK101.out)) : gb101 ≠ gb107)); have NB107_101 := zm ((by rw [hg]; exact Nat.ne_of_gt (blk_lt (zK BK101.out)) : gb107 ≠ gb101)); replace BK101 := zKb BK101 hb; clear hb hbox hg; have hnb12 := NB107_101.out; have hnc12 := NB101_107.out; obtain ⟨hcz13_0, hcz13_1, hfz13_0, hfz13_1⟩ := zf2 BK107))
   go_loopg [7] k1 (fun kq v7 w' => ∃ (x7_2 : Int), v7 = .int .i64 x7_2 ∧ Aside0 (gFOrder.l1 kq l1 x7_2 t102 (t102.length : Int) x21_1 a0_0 l0_1 ((rd_T107 t102 x21_1).f0) ((rd_T107 t102 x21_1).f1) = some r) ∧ Aside0 (kq ≤ k1) ∧ Aside0 (Kd.R k107 107 w' w.heap.size (fun k_ => k_ ≠ gb107) (.slice (some ad106) t102.length co7) t102) ∧ Aside0 (w'.heap[gb101]? = some (.cells #[.int .i64 a0_0, (.slice A0_1 l0_1.length c0_1)] 68 (0, 0))) ∧ Aside0 (w'.heap[gb107]? = some (.cells #[.int .i64 ((rd_T107 t102 x21_1).f0), .int .i64 ((rd_T107 t102 x21_1).f1)] 107 (0, 0))) ∧ Aside0 (Below w.heap.size w w'))
   case atStart => exact ⟨(x7_1), zX, H', ⟨Nat.le_refl _⟩, ⟨zR (Kd.R_mono (Kd.R_far (p := ⟨gb107, 1, none⟩) (Kd.R_far (p := ⟨gb107, 0, none⟩) (Kd.R_mono HO_19.out (fun k_ hk => (⟨hk, hk.2⟩ : _ ∧ k_ ≠ gb107))) (fun _ hk => hk.2) (.int .i64 ((rd_T107 t102 x21_1).f0))) (fun _ hk => hk.2) (.int .i64 ((rd_T107 t102 x21_1).f1))) (fun _ hk => hk.1.2))⟩, ⟨by (with_reducible repeat (first | refine blk_drewN ?_ _ | refine blk_drew ?_ | refine blk_alloc ?_ _)); refine blk_far ?_ NB101_107.out _; (with_reducible repeat (first | refine blk_drewN ?_ _ | refine blk_drew ?_ | refine blk_alloc ?_ _)); refine blk_far ?_ NB101_107.out _; (with_reducible repeat (first | refine blk_drewN ?_ _ | refine blk_drew ?_ | refine blk_alloc ?_ _)); exact BK101.out⟩, ⟨by (with_reducible repeat (first | refine blk_drewN ?_ _ | refine blk_drew ?_ | refine blk_alloc ?_ _)); refine blk_put (cs := #[.int .i64 ((rd_T107 t102 x21_1).f0), .int .i64 0]) ?_ 1 _ rfl; (with_reducible repeat (first | refine blk_drewN ?_ _ | refine blk_drew ?_ | refine blk_alloc ?_ _)); refine blk_put (cs := #[.int .i64 0, .int .i64 0]) ?_ 0 _ rfl; (with_reducible repeat (first | refine blk_drewN ?_ _ | refine blk_drew ?_ | refine blk_alloc ?_ _)); exact BK107.out⟩, ⟨zT⟩⟩
   case round =>
    clear H'
    obtain ⟨x7_2, rfl, HA, HK2, HO_19, BK101, BK107, HB⟩ := hrel
    cases gk with
    | zero => exact absurd HA.out (by simp [gFOrder.l1])
    | succ k2 =>
     have H := HA.out
     clear HA
     simp only [gFOrder.l1] at H
     by_cases c14 : ((rd_T107 t102 x21_1).f0) = 0
     ·rw [if_pos c14] at H
      exact absurd H (by simp)
     rw [if_neg c14] at H
     obtain ⟨c14b0, c14b1⟩ := zU c14
     by_cases c15 : (Int.tmod x7_2 ((rd_T107 t102 x21_1).f0)) = 0
     rotate_left
     ·rw [if_neg c15] at H
      obtain ⟨c15b0, c15b1⟩ := zU c15
      have H' := zm H
      clear H
      try go_wp2
      replace HO_19 := zm (Kd.R_drew HO_19.out)
      replace BK101 := zm (blk_drew BK101.out)
      replace BK107 := zm (blk_drew BK107.out)
      replace HB := zm (below_drew1 HB.out)
      refine start_ (n := 15) (S := fun w' => w'.cell? ⟨gb107, 0, none⟩ = some (.int .i64 ((rd_T107 t102 x21_1).f0)) ∧ w'.cell? ⟨gb107, 1, none⟩ = some (.int .i64 ((rd_T107 t102 x21_1).f1))) (ds := []) #[false, false, false, false, false, false, false, false, false, false, false, false, false, false, false] (by kernel_rfl) rfl rfl ⟨(blk_cell BK107.out 0).trans rfl, (blk_cell BK107.out 1).trans rfl⟩ (fun hHeld => ?_); refine with_tabW gFOrder.tab6 gFOrder.bits6 (fun HT_ HW_ => ?_)
      generalize wr.drew = w27 at HO_19 BK101 BK107 HB hHeld ⊢
      refine zP 0 25 ?_; refine zP 1 26 ?_
      refine take_ (i := 2) (N := some 27) (v := ?_) (a' := ?_) #[true, true, true, false, false, false, false, false, false, false, false, false, false, false, false] rfl rfl (take_ofW HT_.out HW_.out (by kernel_rfl)) (fun _ _ _ h => h) (Or.inl ⟨by rfl, ?_⟩) hHeld ?_ ?_
      rotate_left
      ·rintro w' ⟨s0, s1⟩
       go_simp
       with_reducible rfl
      rotate_left
      ·simp only [Act.put, List.setIfInBounds_toArray, List.set_cons_zero, List.set_cons_succ, i64_w, i32_w]
       rfl
      refine zP 3 28 ?_; refine zP 4 29 ?_; refine zP 5 30 ?_
      refine pure_ (i := 6) (N := some 31) (v := undef) (a' := ?_) #[true, true, true, true, true, true, true, false, false, false, false, false, false, false, false] rfl rfl (any_of HT_.out (by kernel_rfl)) (fun _ _ _ h => h) (Or.inr ⟨by rfl, rfl⟩) ?_ ?_
      rotate_left
      ·simp only [Act.put, List.setIfInBounds_toArray, List.set_cons_zero, List.set_cons_succ, i64_w, i32_w]
       rfl
      refine pure_ (i := 7) (N := some 32) (v := undef) (a' := ?_) #[true, true, true, true, true, true, true, true, false, false, false, false, false, false, false] rfl rfl (any_of HT_.out (by kernel_rfl)) (fun _ _ _ h => h) (Or.inr ⟨by rfl, rfl⟩) ?_ ?_
      rotate_left
      ·simp only [Act.put, List.setIfInBounds_toArray, List.set_cons_zero, List.set_cons_succ, i64_w, i32_w]
       rfl
      refine pure_ (i := 8) (N := some 33) (v := undef) (a' := ?_) #[true, true, true, true, true, true, true, true, true, false, false, false, false, false, false] rfl rfl (any_of HT_.out (by kernel_rfl)) (fun _ _ _ h => h) (Or.inr ⟨by rfl, rfl⟩) ?_ ?_
      rotate_left
      ·simp only [Act.put, List.setIfInBounds_toArray, List.set_cons_zero, List.set_cons_succ, i64_w, i32_w]
       rfl
      refine pure_ (i := 9) (N := some 34) (v := undef) (a' := ?_) #[true, true, true, true, true, true, true, true, true, true, false, false, false, false, false] rfl rfl (any_of HT_.out (by kernel_rfl)) (fun _ _ _ h => h) (Or.inr ⟨by rfl, rfl⟩) ?_ ?_
      rotate_left
      ·simp only [Act.put, List.setIfInBounds_toArray, List.set_cons_zero, List.set_cons_succ, i64_w, i32_w]
       rfl
      refine pure_ (i := 10) (N := some 35) (v := undef) (a' := ?_) #[true, true, true, true, true, true, true, true, true, true, true, false, false, false, false] rfl rfl (any_of HT_.out (by kernel_rfl)) (fun _ _ _ h => h) (Or.inr ⟨by rfl, rfl⟩) ?_ ?_
      rotate_left
      ·simp only [Act.put, List.setIfInBounds_toArray, List.set_cons_zero, List.set_cons_succ, i64_w, i32_w]
       rfl
      refine pure_ (i := 11) (N := some 36) (v := undef) (a' := ?_) #[true, true, true, true, true, true, true, true, true, true, true, true, false, false, false] rfl rfl (any_of HT_.out (by kernel_rfl)) (fun _ _ _ h => h) (Or.inr ⟨by rfl, rfl⟩) ?_ ?_
      rotate_left
      ·simp only [Act.put, List.setIfInBounds_toArray, List.set_cons_zero, List.set_cons_succ, i64_w, i32_w]
       rfl
      refine pure_ (i := 12) (N := some 37) (v := undef) (a' := ?_) #[true, true, true, true, true, true, true, true, true, true, true, true, true, false, false] rfl rfl (any_of HT_.out (by kernel_rfl)) (fun _ _ _ h => h) (Or.inr ⟨by rfl, rfl⟩) ?_ ?_
      rotate_left
      ·simp only [Act.put, List.setIfInBounds_toArray, List.set_cons_zero, List.set_cons_succ, i64_w, i32_w]
       rfl
      refine pure_ (i := 13) (N := some 38) (v := undef) (a' := ?_) #[true, true, true, true, true, true, true, true, true, true, true, true, true, true, false] rfl rfl (any_of HT_.out (by kernel_rfl)) (fun _ _ _ h => h) (Or.inr ⟨by rfl, rfl⟩) ?_ ?_
      rotate_left
      ·simp only [Act.put, List.setIfInBounds_toArray, List.set_cons_zero, List.set_cons_succ, i64_w, i32_w]
       rfl
      refine zP 14 39 ?_
      refine done_ (done_of HT_.out (by kernel_rfl)) ?_
      try go_wp2
      go_roundg k2
      case measure => have := HK1.out; have := HK2.out; omega
      case rel => exact ⟨(x7_2), (wrap64 (x21_1 + 1)), zX, zX, H', ⟨by have := HK1.out; have := HK2.out; omega⟩, ⟨zR (Kd.R_mono HO_19.out (fun _ hk => trivial))⟩, ⟨zK BK101.out⟩, ⟨zT⟩⟩
     rw [if_pos c15] at H
     obtain ⟨c15b0, c15b1⟩ := zE c15; clear c15
     obtain ⟨t108, A16, H⟩ := zO H
     obtain ⟨t111, A17, H⟩ := zO H
     by_cases c18 : t111 = true
     rotate_left
     ·replace c18 := Bool.eq_false_iff.mpr c18
      subst c18
      rw [if_neg Bool.false_ne_true] at H
      have H' := zm H
      clear H
      try go_wp2
      replace HO_19 := zm (Kd.R_drew HO_19.out)
      replace BK101 := zm (blk_drew BK101.out)
      replace BK107 := zm (blk_drew BK107.out)
      replace HB := zm (below_drew1 HB.out)
      refine start_ (n := 15) (S := fun w' => w'.cell? ⟨gb107, 0, none⟩ = some (.int .i64 ((rd_T107 t102 x21_1).f0)) ∧ w'.cell? ⟨gb107, 1, none⟩ = some (.int .i64 ((rd_T107 t102 x21_1).f1)) ∧ w'.cell? ⟨gb101, 0, none⟩ = some (.int .i64 a0_0) ∧ w'.cell? ⟨gb101, 1, none⟩ = some (.slice A0_1 l0_1.length c0_1)) (ds := []) #[false, false, false, false, false, false, false, false, false, false, false, false, false, false, false] (by kernel_rfl) rfl rfl ⟨(blk_cell BK107.out 0).trans rfl, (blk_cell BK107.out 1).trans rfl, (blk_cell BK101.out 0).trans rfl, (blk_cell BK101.out 1).trans rfl⟩ (fun hHeld => ?_); refine with_tabW gFOrder.tab6 gFOrder.bits6 (fun HT_ HW_ => ?_)
      generalize wr.drew = w24 at HO_19 BK101 BK107 HB hHeld ⊢
      refine zP 0 25 ?_; refine zP 1 26 ?_
      refine take_ (i := 2) (N := some 27) (v := ?_) (a' := ?_) #[true, true, true, false, false, false, false, false, false, false, false, false, false, false, false] rfl rfl (take_ofW HT_.out HW_.out (by kernel_rfl)) (fun _ _ _ h => h) (Or.inl ⟨by rfl, ?_⟩) hHeld ?_ ?_
      rotate_left
      ·rintro w' ⟨s0, s1, s2, s3⟩
       go_simp
       with_reducible rfl
      rotate_left
      ·simp only [Act.put, List.setIfInBounds_toArray, List.set_cons_zero, List.set_cons_succ, i64_w, i32_w]
       rfl
      refine zP 3 28 ?_; refine zP 4 29 ?_; refine zP 5 30 ?_; refine zP 7 32 ?_; refine zP 8 33 ?_; refine zP 9 34 ?_
      refine take_ (i := 6) (N := some 31) (v := ?_) (a' := ?_) #[true, true, true, true, true, true, true, true, true, true, false, false, false, false, false] rfl rfl (take_ofW HT_.out HW_.out (by kernel_rfl)) (fun _ _ _ h => h) (Or.inl ⟨by rfl, ?_⟩) hHeld ?_ ?_
      rotate_left
      ·rintro w' ⟨s0, s1, s2, s3⟩
       go_simp
       with_reducible rfl
      rotate_left
      ·simp only [Act.put, List.setIfInBounds_toArray, List.set_cons_zero, List.set_cons_succ, i64_w, i32_w]
       rfl
      refine take_ (i := 10) (N := some 35) (v := ?_) (a' := ?_) #[true, true, true, true, true, true, true, true, true, true, true, false, false, false, false] rfl rfl (take_ofW HT_.out HW_.out (by kernel_rfl)) (fun _ _ _ h => h) (Or.inl ⟨by rfl, ?_⟩) hHeld ?_ ?_
      rotate_left
      ·rintro w' ⟨s0, s1, s2, s3⟩
       go_simp
       with_reducible rfl
      rotate_left
      ·simp only [Act.put, List.setIfInBounds_toArray, List.set_cons_zero, List.set_cons_succ, i64_w, i32_w]
       rfl
      refine zP 11 36 ?_
      refine one_ (i := 12) (N := some 37) #[true, true, true, true, true, true, true, true, true, true, true, true, true, false, false] rfl rfl (one_of HT_.out (by kernel_rfl)) (by decide) (fun K hK => ?_)
      refine goes_ Try.func54 (by kernel_rfl) rfl #[.agg #[.int .i64 a0_0, .slice A0_1 l0_1.length c0_1], .slice A1 l1.length c1, .int .i64 (wrap64 (Int.tdiv x7_2 ((rd_T107 t102 x21_1).f0)))] (by rfl) rfl rfl (by (try simp only [List.map_toArray, List.map_cons, List.map_nil]); first | done | rfl | (simp only [List.length_drop, List.length_take]; rfl)) ?_
      with_reducible refine (gFPow.calls k2 a0_0 _ _ l0_1 (fun k_ => k_ < w.heap.size) _ _ l1 (wrap64 (Int.tdiv x7_2 ((rd_T107 t102 x21_1).f0))) t108 _ ?side1 ?side2 ?side3 A16.out).mono ?_
      (case side1 => exact zC (Kd.C_below HR0_1.out HB.out))
      (case side2 => exact HC0_1.out)
      (case side3 => exact Kd.V_mk HC1.out (Kd.F_below (Kd.C_F (Kd.heap_int .i64) HR1.out) (zT)))
      rintro e w25 ⟨v109, rfl, ho0, hb⟩
      refine ⟨_, rfl, ?_⟩
      have HO110 := zm (Kd.V_lower (Kd.V_mono (ok' := fun k_ => some k_ ≠ (.slice (some ad106) t102.length co7 : Value).ownBlock ∧ k_ ≠ gb101 ∧ k_ ≠ gb107) ho0 (fun k_ hk_ => ⟨Or.elim hk_ (fun hs_ => fun e_ => Nat.not_le.2 hs_ (Kd.R_base HO_19.out k_ e_.symm)) (fun hn_ => (Kd.fresh' (Kd.R_lt (zR HO_19.out)) k_ hn_)), Or.elim hk_ (fun hs_ => fun e_ => Nat.not_le.2 hs_ (by rw [e_]; exact GW101.out)) (fun hn_ => (Kd.freshB (zK BK101.out) k_ hn_)), Or.elim hk_ (fun hs_ => fun e_ => Nat.not_le.2 hs_ (by rw [e_]; exact GW107.out)) (fun hn_ => (Kd.freshB (zK BK107.out) k_ hn_))⟩)) (zS HB))
      replace HO_19 := zRb HO_19 hb
      replace BK101 := zKb BK101 hb
      replace BK107 := zKb BK107 hb
      replace HB := zBb HB hb
      (try clear hb)
      (try clear hb2)
      (try clear hk)
      (try clear hi)
      (try clear ho0)
      obtain ⟨Ao26, co26, eo26⟩ := Kd.V_slice HO110.out
      (first | subst eo26 | (injection eo26 with f1_ f2_ f3_; have f4_ := f1_.symm; have f5_ := f3_.symm; clear f1_ f2_ f3_; subst f4_; subst f5_))
      refine hK.out _ _ ⟨(blk_cell BK107.out 0).trans rfl, (blk_cell BK107.out 1).trans rfl, (blk_cell BK101.out 0).trans rfl, (blk_cell BK101.out 1).trans rfl⟩ (fun hHeld => ?_)
      clear hK K
      refine norm_ (a' := ?_) ?_ ?_
      rotate_left
      ·show Act.put _ (some 37) _ = _
       simp only [Act.put, List.setIfInBounds_toArray, List.set_cons_zero, List.set_cons_succ, i64_w, i32_w]
       rfl
      refine one_ (i := 13) (N := some 38) #[true, true, true, true, true, true, true, true, true, true, true, true, true, true, false] rfl rfl (one_of HT_.out (by kernel_rfl)) (by decide) (fun K hK => ?_)
      refine goes_ Try.func55 (by kernel_rfl) rfl #[.slice Ao26 t108.length co26] (by rfl) rfl rfl (by (try simp only [List.map_toArray, List.map_cons, List.map_nil]); first | done | rfl | (simp only [List.length_drop, List.length_take]; rfl)) ?_
      with_reducible refine (gf_IsOne.calls _ _ t108 false _ ?side1 ?side2 A17.out).mono ?_
      (case side1 => exact zC ((Kd.V_reads' HO110.out).2.2))
      (case side2 => exact (Kd.V_reads' HO110.out).2.1)
      rintro e w' ⟨rfl, ⟨nd, rfl⟩⟩
      refine ⟨_, rfl, ?_⟩
      refine hK.out _ _ ⟨(blk_cell BK107.out 0).trans rfl, (blk_cell BK107.out 1).trans rfl, (blk_cell BK101.out 0).trans rfl, (blk_cell BK101.out 1).trans rfl⟩ (fun hHeld => ?_)
      clear hK K
      refine norm_ (a' := ?_) ?_ ?_
      rotate_left
      ·show Act.put _ (some 38) _ = _
       simp only [Act.put, List.setIfInBounds_toArray, List.set_cons_zero, List.set_cons_succ, i64_w, i32_w]
       rfl
      refine zP 14 39 ?_
      refine done_ (done_of HT_.out (by kernel_rfl)) ?_
      try go_wp2
      go_roundg k2
      case measure => have := HK1.out; have := HK2.out; omega
      case rel => exact ⟨(x7_2), (wrap64 (x21_1 + 1)), zX, zX, H', ⟨by have := HK1.out; have := HK2.out; omega⟩, ⟨zR (Kd.R_mono HO_19.out (fun _ hk => trivial))⟩, ⟨zK BK101.out⟩, ⟨zT⟩⟩
     subst c18
     rw [if_pos rfl] at H
     have H' := zm H
     clear H
     try go_wp2
     replace HO_19 := zm (Kd.R_drew HO_19.out)
     replace BK101 := zm (blk_drew BK101.out)
     replace BK107 := zm (blk_drew BK107.out)
     replace HB := zm (below_drew1 HB.out)
     refine start_ (n := 15) (S := fun w' => w'.cell? ⟨gb107, 0, none⟩ = some (.int .i64 ((rd_T107 t102 x21_1).f0)) ∧ w'.cell? ⟨gb107, 1, none⟩ = some (.int .i64 ((rd_T107 t102 x21_1).f1)) ∧ w'.cell? ⟨gb101, 0, none⟩ = some (.int .i64 a0_0) ∧ w'.cell? ⟨gb101, 1, none⟩ = some (.slice A0_1 l0_1.length c0_1)) (ds := []) #[false, false, false, false, false, false, false, false, false, false, false, false, false, false, false] (by kernel_rfl) rfl rfl ⟨(blk_cell BK107.out 0).trans rfl, (blk_cell BK107.out 1).trans rfl, (blk_cell BK101.out 0).trans rfl, (blk_cell BK101.out 1).trans rfl⟩ (fun hHeld => ?_); refine with_tabW gFOrder.tab6 gFOrder.bits6 (fun HT_ HW_ => ?_)
     generalize wr.drew = w19 at HO_19 BK101 BK107 HB hHeld ⊢
     refine zP 0 25 ?_; refine zP 1 26 ?_
     refine take_ (i := 2) (N := some 27) (v := ?_) (a' := ?_) #[true, true, true, false, false, false, false, false, false, false, false, false, false, false, false] rfl rfl (take_ofW HT_.out HW_.out (by kernel_rfl)) (fun _ _ _ h => h) (Or.inl ⟨by rfl, ?_⟩) hHeld ?_ ?_
     rotate_left
     ·rintro w' ⟨s0, s1, s2, s3⟩
      go_simp
      with_reducible rfl
     rotate_left
     ·simp only [Act.put, List.setIfInBounds_toArray, List.set_cons_zero, List.set_cons_succ, i64_w, i32_w]
      rfl
     refine zP 3 28 ?_; refine zP 4 29 ?_; refine zP 5 30 ?_; refine zP 7 32 ?_; refine zP 8 33 ?_; refine zP 9 34 ?_
     refine take_ (i := 6) (N := some 31) (v := ?_) (a' := ?_) #[true, true, true, true, true, true, true, true, true, true, false, false, false, false, false] rfl rfl (take_ofW HT_.out HW_.out (by kernel_rfl)) (fun _ _ _ h => h) (Or.inl ⟨by rfl, ?_⟩) hHeld ?_ ?_
     rotate_left
     ·rintro w' ⟨s0, s1, s2, s3⟩
      go_simp
      with_reducible rfl
     rotate_left
     ·simp only [Act.put, List.setIfInBounds_toArray, List.set_cons_zero, List.set_cons_succ, i64_w, i32_w]
      rfl
     refine take_ (i := 10) (N := some 35) (v := ?_) (a' := ?_) #[true, true, true, true, true, true, true, true, true, true, true, false, false, false, false] rfl rfl (take_ofW HT_.out HW_.out (by kernel_rfl)) (fun _ _ _ h => h) (Or.inl ⟨by rfl, ?_⟩) hHeld ?_ ?_
     rotate_left
     ·rintro w' ⟨s0, s1, s2, s3⟩
      go_simp
      with_reducible rfl
     rotate_left
     ·simp only [Act.put, List.setIfInBounds_toArray, List.set_cons_zero, List.set_cons_succ, i64_w, i32_w]
      rfl
     refine zP 11 36 ?_
     refine one_ (i := 12) (N := some 37) #[true, true, true, true, true, true, true, true, true, true, true, true, true, false, false] rfl rfl (one_of HT_.out (by kernel_rfl)) (by decide) (fun K hK => ?_)
     refine goes_ Try.func54 (by kernel_rfl) rfl #[.agg #[.int .i64 a0_0, .slice A0_1 l0_1.length c0_1], .slice A1 l1.length c1, .int .i64 (wrap64 (Int.tdiv x7_2 ((rd_T107 t102 x21_1).f0)))] (by rfl) rfl rfl (by (try simp only [List.map_toArray, List.map_cons, List.map_nil]); first | done | rfl | (simp only [List.length_drop, List.length_take]; rfl)) ?_
     with_reducible refine (gFPow.calls k2 a0_0 _ _ l0_1 (fun k_ => k_ < w.heap.size) _ _ l1 (wrap64 (Int.tdiv x7_2 ((rd_T107 t102 x21_1).f0))) t108 _ ?side1 ?side2 ?side3 A16.out).mono ?_
     (case side1 => exact zC (Kd.C_below HR0_1.out HB.out))
     (case side2 => exact HC0_1.out)
     (case side3 => exact Kd.V_mk HC1.out (Kd.F_below (Kd.C_F (Kd.heap_int .i64) HR1.out) (zT)))
     rintro e w20 ⟨v109, rfl, ho0, hb⟩
     refine ⟨_, rfl, ?_⟩
     have HO110 := zm (Kd.V_lower (Kd.V_mono (ok' := fun k_ => some k_ ≠ (.slice (some ad106) t102.length co7 : Value).ownBlock ∧ k_ ≠ gb101 ∧ k_ ≠ gb107) ho0 (fun k_ hk_ => ⟨Or.elim hk_ (fun hs_ => fun e_ => Nat.not_le.2 hs_ (Kd.R_base HO_19.out k_ e_.symm)) (fun hn_ => (Kd.fresh' (Kd.R_lt (zR HO_19.out)) k_ hn_)), Or.elim hk_ (fun hs_ => fun e_ => Nat.not_le.2 hs_ (by rw [e_]; exact GW101.out)) (fun hn_ => (Kd.freshB (zK BK101.out) k_ hn_)), Or.elim hk_ (fun hs_ => fun e_ => Nat.not_le.2 hs_ (by rw [e_]; exact GW107.out)) (fun hn_ => (Kd.freshB (zK BK107.out) k_ hn_))⟩)) (zS HB))
     replace HO_19 := zRb HO_19 hb
     replace BK101 := zKb BK101 hb
     replace BK107 := zKb BK107 hb
     replace HB := zBb HB hb
     (try clear hb)
     (try clear hb2)
     (try clear hk)
     (try clear hi)
     (try clear ho0)
     obtain ⟨Ao21, co21, eo21⟩ := Kd.V_slice HO110.out
     (first | subst eo21 | (injection eo21 with f1_ f2_ f3_; have f4_ := f1_.symm; have f5_ := f3_.symm; clear f1_ f2_ f3_; subst f4_; subst f5_))
     refine hK.out _ _ ⟨(blk_cell BK107.out 0).trans rfl, (blk_cell BK107.out 1).trans rfl, (blk_cell BK101.out 0).trans rfl, (blk_cell BK101.out 1).trans rfl⟩ (fun hHeld => ?_)
     clear hK K
     refine norm_ (a' := ?_) ?_ ?_
     rotate_left
     ·show Act.put _ (some 37) _ = _
      simp only [Act.put, List.setIfInBounds_toArray, List.set_cons_zero, List.set_cons_succ, i64_w, i32_w]
      rfl
     refine one_ (i := 13) (N := some 38) #[true, true, true, true, true, true, true, true, true, true, true, true, true, true, false] rfl rfl (one_of HT_.out (by kernel_rfl)) (by decide) (fun K hK => ?_)
     refine goes_ Try.func55 (by kernel_rfl) rfl #[.slice Ao21 t108.length co21] (by rfl) rfl rfl (by (try simp only [List.map_toArray, List.map_cons, List.map_nil]); first | done | rfl | (simp only [List.length_drop, List.length_take]; rfl)) ?_
     with_reducible refine (gf_IsOne.calls _ _ t108 true _ ?side1 ?side2 A17.out).mono ?_
     (case side1 => exact zC ((Kd.V_reads' HO110.out).2.2))
     (case side2 => exact (Kd.V_reads' HO110.out).2.1)
     rintro e w' ⟨rfl, ⟨nd, rfl⟩⟩
     refine ⟨_, rfl, ?_⟩
     refine hK.out _ _ ⟨(blk_cell BK107.out 0).trans rfl, (blk_cell BK107.out 1).trans rfl, (blk_cell BK101.out 0).trans rfl, (blk_cell BK101.out 1).trans rfl⟩ (fun hHeld => ?_)
     clear hK K
     refine norm_ (a' := ?_) ?_ ?_
     rotate_left
     ·show Act.put _ (some 38) _ = _
      simp only [Act.put, List.setIfInBounds_toArray, List.set_cons_zero, List.set_cons_succ, i64_w, i32_w]
      rfl
     refine zP 14 39 ?_
     refine done_ (done_of HT_.out (by kernel_rfl)) ?_
     have hnb22 := NB107_101.out
     have hnc22 := NB101_107.out
     obtain ⟨hcz23_0, hcz23_1, hfz23_0, hfz23_1⟩ := zf2 BK107
     try go_wp2
     go_roundg k2
     case measure => have := HK1.out; have := HK2.out; omega
     case rel => exact ⟨(wrap64 (Int.tdiv x7_2 ((rd_T107 t102 x21_1).f0))), zX, H', ⟨by have := HK1.out; have := HK2.out; omega⟩, ⟨zR HO_19.out⟩, ⟨zK BK101.out⟩, ⟨zK BK107.out⟩, ⟨zT⟩⟩
def fi_Order.f (k : Nat) (a0_0 : Int) (l0_1 : List Int) (l1 : List Int) : Option (Int × Int) := (fi_check.f k a0_0 l0_1 (([l1] : List (List Int)))).bind fun t105 => (if t105 = 0 then ((fi_size.f k a0_0 l0_1 2147483647).bind fun bt106 => (if bt106.2 = 0 then (if (l1.length : Int) = 0 then (none) else ((gFOrder.f k a0_0 l0_1 l1 bt106.1).bind fun t108 => (some (t108, 0)))) else (none))) else (none))
theorem fi_Order.mono : ∀ a0 a1 a2 k, LeO (fi_Order.f k a0 a1 a2) (fi_Order.f (k + 1) a0 a1 a2) := by
 intro a0 a1 a2 k
 unfold fi_Order.f
 with_reducible repeat' first | exact fi_check.mono _ _ _ _ | exact fi_size.mono _ _ _ _ | exact gFOrder.mono _ _ _ _ _ | exact LeO.refl _ | exact LeO.none _ | refine LeO.ite ?_ ?_ | refine LeO.bind ?_ (fun _ => ?_)
theorem fi_Order.calls (k : Nat) (a0_0 : Int) (A0_1 : Option Addr) (c0_1 : Nat) (l0_1 : List Int) (P1_ : Nat → Prop) (A1 : Option Addr) (c1 : Nat) (l1 : List Int) (r1 : Int) (r2 : Int) (w : World) (hr0_1 : Kd.C (Kd.int .i64) w A0_1 l0_1.length l0_1) (hc0_1 : l0_1.length ≤ c0_1) (hs1 : Kd.V (Kd.int .i64) 3 w w.heap.size (fun k_ => P1_ k_) (.slice A1 l1.length c1) l1) (h : fi_Order.f k a0_0 l0_1 l1 = some (r1, r2)) :
  Calls Try.prog 37 #[.agg #[.int .i64 a0_0, .slice A0_1 l0_1.length c0_1], .slice A1 l1.length c1] w fun e w' => e = .returned (.tuple #[.int .i64 r1, .int .i64 r2]) ∧ Below w.heap.size w w' := by
 have hu33 := Try.underlying33
 have hu68 := Try.underlying68
 have HR0_1 := zm hr0_1
 have HC0_1 := zm hc0_1
 clear hr0_1 hc0_1
 have HO1 := zm (show Kd.V (Kd.int .i64) 3 w w.heap.size (fun k_ => (P1_ k_ ∨ w.heap.size ≤ k_)) (.slice A1 l1.length c1) l1 from Kd.V_mono hs1 (fun k_ hk => .inl hk))
 have HB := zm (Below.refl w.heap.size w)
 have H := h; clear h; unfold fi_Order.f at H
 obtain ⟨y102, Ny102⟩ := zA ((([l1] : List (List Int))) : List (List Int)); rw [← Ny102.out] at H
 obtain ⟨t105, A3, H⟩ := zO H
 by_cases c4 : t105 = 0
 rotate_left
 ·rw [if_neg c4] at H
  exact absurd H (by simp)
 rw [if_pos c4] at H
 obtain ⟨c4b0, c4b1⟩ := zE c4; clear c4
 obtain ⟨⟨t106, t107⟩, A5, H⟩ := zO H; try dsimp only at H
 by_cases c6 : t107 = 0
 rotate_left
 ·rw [if_neg c6] at H
  exact absurd H (by simp)
 rw [if_pos c6] at H
 obtain ⟨c6b0, c6b1⟩ := zE c6; clear c6
 by_cases c7 : (l1.length : Int) = 0
 ·rw [if_pos c7] at H
  exact absurd H (by simp)
 rw [if_neg c7] at H
 obtain ⟨c7b0, c7b1⟩ := zU c7
 have c7b2 : ¬ (l1 = []) := fun h_ => c7 (by rw [h_]; rfl)
 obtain ⟨t108, A8, H⟩ := zO H
 simp only [Option.some.injEq, Prod.mk.injEq] at H
 obtain ⟨rfl, rfl⟩ := H
 go_enter Try.func37, Try.ntmps37
 go_wp2_with (first | ((with_reducible refine gate_dst (N := 2) rfl ?_); refine zb 2 #[.int .i64 a0_0, .slice A0_1 l0_1.length c0_1] 33 ?_; intro gb101 hg w9 hbox hb; replace HO1 := zm (Kd.V_below (Kd.V_elderB (zV HO1.out) gb101 (Nat.le_of_eq hg.symm)) hb); have BK101 := zm (hbox); have GW101 := zg HB hg; have GE101 := GW101; replace HB := zBb HB hb; clear hb hbox hg; obtain ⟨hcz10_0, hcz10_1, hfz10_0, hfz10_1⟩ := zf2 BK101) | ((with_reducible refine gate_dst (N := 11) rfl ?_); refine Kd.N_lit (Kd.slice 3 (Kd.int .i64)) _ 25 ?hg (N' := 11) ?hd (xs := ([l1] : List (List Int))) (inner := [.slice A1 l1.length c1]) (ok := (fun k_ => (P1_ k_ ∨ w.heap.size ≤ k_) ∧ k_ ≠ gb101)) (okp := (fun k_ => (P1_ k_ ∨ w.heap.size ≤ k_) ∧ k_ ≠ gb101)) ?hr ?hp (fun _ hk => hk) ((show ∀ k_, w9.heap.size ≤ k_ → (fun k_ => (P1_ k_ ∨ w.heap.size ≤ k_) ∧ k_ ≠ gb101) k_ from fun k_ hk => ⟨(.inr (Nat.le_trans (zS HB) hk)), Kd.freshB (zK BK101.out) k_ hk⟩) _ (Nat.le_refl _)) (Below.refl _ _) (Nat.le_refl _) (by simp) ?_; (case hd => rfl); (case hg => rfl); (case hr => go_simp <;> rfl); (case hp => exact (Reps.one (show Kd.FK (Kd.slice 3 (Kd.int .i64)) _ _ l1 [.slice A1 l1.length c1] from (zFK HO1.out (fun k_ hk => ⟨hk.1, hk.2⟩))) (Reps.none _ _))); intro v103 w11 ho12 hb hg_ hnew_; clear hg_ hnew_; (first | rw [← Ny102.out] at ho12 | (simp only [Int.reduceToNat] at ho12; rw [← Ny102.out] at ho12)); replace HO1 := zm (Kd.V_elder' (zV HO1.out) (Kd.N_base ho12) hb); have HO104 := zm (Kd.N_lower ho12 (zS HB)); replace BK101 := zKb BK101 hb; replace HB := zBb HB hb; clear hb ho12; obtain ⟨Ao13, co13, eo13⟩ := Kd.N_slice HO104.out; subst eo13) | ((with_reducible refine gate_callee (f := 53) rfl ?_); refine zG (some 12) Try.func53 #[.agg #[.int .i64 a0_0, .slice A0_1 l0_1.length c0_1], .slice Ao13 y102.length co13] ?_; (with_reducible refine (fi_check.calls k a0_0 _ _ l0_1 _ _ y102 t105 _ (zC (Kd.C_below HR0_1.out HB.out)) HC0_1.out (zC ((Kd.N_reads' HO104.out).2.2)) ((Kd.N_reads' HO104.out).2.1) A3.out).mono ?_); rintro e w14 ⟨rfl, hb⟩; refine ⟨_, rfl, ?_⟩; replace HO1 := zVb HO1 hb; replace HO104 := zNb HO104 hb; replace BK101 := zKb BK101 hb; replace HB := zBb HB hb; obtain ⟨hcz15_0, hcz15_1, hfz15_0, hfz15_1⟩ := zf2 BK101) | ((with_reducible refine gate_callee (f := 51) rfl ?_); refine zG (some 18) Try.func51 #[.agg #[.int .i64 a0_0, .slice A0_1 l0_1.length c0_1], .int .i64 2147483647] ?_; (with_reducible refine (fi_size.calls k a0_0 _ _ l0_1 2147483647 t106 t107 _ (zC (Kd.C_below HR0_1.out HB.out)) HC0_1.out A5.out).mono ?_); rintro e w16 ⟨rfl, hb⟩; refine ⟨_, rfl, ?_⟩; replace HO1 := zVb HO1 hb; replace HO104 := zNb HO104 hb; replace BK101 := zKb BK101 hb; replace HB := zBb HB hb; obtain ⟨hcz17_0, hcz17_1, hfz17_0, hfz17_1⟩ := zf2 BK101) | ((with_reducible refine gate_callee (f := 73) rfl ?_); refine zG (some 31) Try.func73 #[.agg #[.int .i64 a0_0, .slice A0_1 l0_1.length c0_1], .slice A1 l1.length c1, .int .i64 t106] ?_; (with_reducible refine (gFOrder.calls k a0_0 _ _ l0_1 _ _ l1 t106 t108 _ (zC (Kd.C_below HR0_1.out HB.out)) HC0_1.out (zC ((Kd.V_reads' HO1.out).2.2)) ((Kd.V_reads' HO1.out).2.1) A8.out).mono ?_); rintro e w18 ⟨rfl, hb⟩; refine ⟨_, rfl, ?_⟩; replace HO1 := zVb HO1 hb; replace HO104 := zNb HO104 hb; replace BK101 := zKb BK101 hb; replace HB := zBb HB hb))
 go_ret2
 exact ⟨zQ, zT⟩
def l15four.f  : Option (Int × List Int) := some (2, (([1, 1, 1] : List Int)))
theorem l15four.calls  (r1 : Int) (r2 : List Int) (w : World) (h : l15four.f  = some (r1, r2)) :
  Calls Try.prog 42 #[] w fun e w' => ∃ v1_ : Value, e = .returned (.agg #[.int .i64 r1, v1_]) ∧ Kd.R (Kd.int .i64) 3 w' w.heap.size (fun _ => True) v1_ r2 ∧ Below w.heap.size w w' := by
 have hu33 := Try.underlying33
 have HB := zm (Below.refl w.heap.size w)
 have H := h; clear h; unfold l15four.f at H
 obtain ⟨y102, Ny102⟩ := zA ((([1, 1, 1] : List Int)) : List Int); rw [← Ny102.out] at H
 simp only [Option.some.injEq, Prod.mk.injEq] at H
 obtain ⟨rfl, rfl⟩ := H
 go_enter Try.func42, Try.ntmps42
 go_wp2_with (first | ((with_reducible refine gate_dst (N := 0) rfl ?_); refine zb 0 #[.int .i64 0, .slice none 0 0] 33 ?_; intro gb101 hg w1 hbox hb; have BK101 := zm (hbox); have GW101 := zg HB hg; have GE101 := GW101; replace HB := zBb HB hb; clear hb hbox hg) | ((with_reducible refine gate_dst (N := 1) rfl ?_); refine Kd.R_lit (Kd.int .i64) _ 3 ?hg (N := 1) ?hd (xs := ([1, 1, 1] : List Int)) (inner := [.int .i64 1, .int .i64 1, .int .i64 1]) (ok := fun _ => True) (okp := fun _ => True) ?hr ?hp (fun _ hk => hk) trivial (Below.refl _ _) (Nat.le_refl _) (by simp) ?_; (case hd => rfl); (case hg => rfl); (case hr => go_simp <;> rfl); (case hp => exact (Reps.one (show Kd.M (Kd.int .i64) _ _ _ 1 [.int .i64 1] from rfl) (Reps.one (show Kd.M (Kd.int .i64) _ _ _ 1 [.int .i64 1] from rfl) (Reps.one (show Kd.M (Kd.int .i64) _ _ _ 1 [.int .i64 1] from rfl) (Reps.none _ _))))); intro v103 w2 ho3 hb hg_ hnew_; clear hg_ hnew_; (first | rw [← Ny102.out] at ho3 | (simp only [Int.reduceToNat] at ho3; rw [← Ny102.out] at ho3)); have HO104 := zm (Kd.R_lower ho3 (zS HB)); replace BK101 := zKb BK101 hb; replace HB := zBb HB hb; clear hb ho3; obtain ⟨Ao4, co4, eo4⟩ := Kd.R_slice HO104.out; subst eo4; obtain ⟨hcz5_0, hcz5_1, hfz5_0, hfz5_1⟩ := zf2 BK101))
 refine bodyPost_ret (results_cell_row rfl _ _ gb101 33 #[.int .i64 2, .slice Ao4 y102.length co4] (0, 0) _ rfl (by (with_reducible repeat (first | refine blk_drewN ?_ _ | refine blk_drew ?_ | refine blk_alloc ?_ _)); refine blk_put (cs := #[.int .i64 2, .slice none 0 0]) ?_ 1 _ rfl; (with_reducible repeat (first | refine blk_drewN ?_ _ | refine blk_drew ?_ | refine blk_alloc ?_ _)); refine blk_put (cs := #[.int .i64 0, .slice none 0 0]) ?_ 0 _ rfl; (with_reducible repeat (first | refine blk_drewN ?_ _ | refine blk_drew ?_ | refine blk_alloc ?_ _)); exact BK101.out) Try.underlying33 rfl (by kernel_rfl)) rfl ?_
 exact ⟨_, zQ, zR (Kd.R_mono (Kd.R_far (p := ⟨gb101, 1, none⟩) (Kd.R_far (p := ⟨gb101, 0, none⟩) (Kd.R_types HO104.out BK101.out (by decide)) (fun _ hk => hk.2) (.int .i64 2)) (fun _ hk => hk.2) (.slice Ao4 y102.length co4)) (fun _ hk => trivial)), zT⟩
def l15nine.f  : Option (Int × List Int) := some (3, (([1, 0, 1] : List Int)))
theorem l15nine.calls  (r1 : Int) (r2 : List Int) (w : World) (h : l15nine.f  = some (r1, r2)) :
  Calls Try.prog 43 #[] w fun e w' => ∃ v1_ : Value, e = .returned (.agg #[.int .i64 r1, v1_]) ∧ Kd.R (Kd.int .i64) 3 w' w.heap.size (fun _ => True) v1_ r2 ∧ Below w.heap.size w w' := by
 have hu33 := Try.underlying33
 have HB := zm (Below.refl w.heap.size w)
 have H := h; clear h; unfold l15nine.f at H
 obtain ⟨y102, Ny102⟩ := zA ((([1, 0, 1] : List Int)) : List Int); rw [← Ny102.out] at H
 simp only [Option.some.injEq, Prod.mk.injEq] at H
 obtain ⟨rfl, rfl⟩ := H
 go_enter Try.func43, Try.ntmps43
 go_wp2_with (first | ((with_reducible refine gate_dst (N := 0) rfl ?_); refine zb 0 #[.int .i64 0, .slice none 0 0] 33 ?_; intro gb101 hg w1 hbox hb; have BK101 := zm (hbox); have GW101 := zg HB hg; have GE101 := GW101; replace HB := zBb HB hb; clear hb hbox hg) | ((with_reducible refine gate_dst (N := 1) rfl ?_); refine Kd.R_lit (Kd.int .i64) _ 3 ?hg (N := 1) ?hd (xs := ([1, 0, 1] : List Int)) (inner := [.int .i64 1, .int .i64 0, .int .i64 1]) (ok := fun _ => True) (okp := fun _ => True) ?hr ?hp (fun _ hk => hk) trivial (Below.refl _ _) (Nat.le_refl _) (by simp) ?_; (case hd => rfl); (case hg => rfl); (case hr => go_simp <;> rfl); (case hp => exact (Reps.one (show Kd.M (Kd.int .i64) _ _ _ 1 [.int .i64 1] from rfl) (Reps.one (show Kd.M (Kd.int .i64) _ _ _ 0 [.int .i64 0] from rfl) (Reps.one (show Kd.M (Kd.int .i64) _ _ _ 1 [.int .i64 1] from rfl) (Reps.none _ _))))); intro v103 w2 ho3 hb hg_ hnew_; clear hg_ hnew_; (first | rw [← Ny102.out] at ho3 | (simp only [Int.reduceToNat] at ho3; rw [← Ny102.out] at ho3)); have HO104 := zm (Kd.R_lower ho3 (zS HB)); replace BK101 := zKb BK101 hb; replace HB := zBb HB hb; clear hb ho3; obtain ⟨Ao4, co4, eo4⟩ := Kd.R_slice HO104.out; subst eo4; obtain ⟨hcz5_0, hcz5_1, hfz5_0, hfz5_1⟩ := zf2 BK101))
 refine bodyPost_ret (results_cell_row rfl _ _ gb101 33 #[.int .i64 3, .slice Ao4 y102.length co4] (0, 0) _ rfl (by (with_reducible repeat (first | refine blk_drewN ?_ _ | refine blk_drew ?_ | refine blk_alloc ?_ _)); refine blk_put (cs := #[.int .i64 3, .slice none 0 0]) ?_ 1 _ rfl; (with_reducible repeat (first | refine blk_drewN ?_ _ | refine blk_drew ?_ | refine blk_alloc ?_ _)); refine blk_put (cs := #[.int .i64 0, .slice none 0 0]) ?_ 0 _ rfl; (with_reducible repeat (first | refine blk_drewN ?_ _ | refine blk_drew ?_ | refine blk_alloc ?_ _)); exact BK101.out) Try.underlying33 rfl (by kernel_rfl)) rfl ?_
 exact ⟨_, zQ, zR (Kd.R_mono (Kd.R_far (p := ⟨gb101, 1, none⟩) (Kd.R_far (p := ⟨gb101, 0, none⟩) (Kd.R_types HO104.out BK101.out (by decide)) (fun _ hk => hk.2) (.int .i64 3)) (fun _ hk => hk.2) (.slice Ao4 y102.length co4)) (fun _ hk => trivial)), zT⟩
def r4Mod.f (a0 : Int) (a1 : Int) : Option (Int) := if a1 = 0 then (none) else (some (Int.tmod (wrap64 ((Int.tmod a0 a1) + a1)) a1))
theorem r4Mod.calls (a0 : Int) (a1 : Int) (r : Int) (w : World) (h : r4Mod.f a0 a1 = some r) :
  Calls Try.prog 113 #[.int .i64 a0, .int .i64 a1] w fun e w' => e = .returned (.int .i64 r) ∧ Drawn0 w w' := by
 have H := h; clear h; unfold r4Mod.f at H
 by_cases c3 : a1 = 0
 ·rw [if_pos c3] at H
  exact absurd H (by simp)
 rw [if_neg c3] at H
 obtain ⟨c3b0, c3b1⟩ := zU c3
 obtain rfl := Option.some.inj H
 go_enter Try.func113, Try.ntmps113
 go_wp2
 go_ret
 exact ⟨by first | rfl | (simp; done) | (simp [*]; done), by repeat (first | exact Drawn0.refl _ | apply Drawn0.step)⟩
def r9Trim.l0 : Nat → List Int → Option (List Int)
 | 0, _ => none
 | k + 1, x0 => if (x0.length : Int) > 0 then (if 0 ≤ (wrap64 ((x0.length : Int) - 1)) then (if (wrap64 ((x0.length : Int) - 1)) < (x0.length : Int) then (if (rd x0 (wrap64 ((x0.length : Int) - 1))) = 0 then (if (wrap64 ((x0.length : Int) - 1)) ≤ (x0.length : Int) then (r9Trim.l0 k (x0.take ((wrap64 ((x0.length : Int) - 1)) : Int).toNat)) else (none)) else (some x0)) else (none)) else (none)) else (some x0)
def r9Trim.f (k : Nat) (l0 : List Int) : Option (List Int) := r9Trim.l0 k l0
theorem r9Trim.mono_l : ∀ k, (∀ y0, LeO (r9Trim.l0 k y0) (r9Trim.l0 (k + 1) y0))
 | 0 => fun _ r h => by simp [r9Trim.l0] at h
 | k + 1 => by
  have ih0 := r9Trim.mono_l k
  intro y0
  unfold r9Trim.l0
  with_reducible repeat' first | exact ih0 _ | exact LeO.refl _ | exact LeO.none _ | refine LeO.ite ?_ ?_ | refine LeO.bind ?_ (fun _ => ?_)
theorem r9Trim.mono : ∀ a0 k, LeO (r9Trim.f k a0) (r9Trim.f (k + 1) a0) := by
 intro a0 k
 have ih0 := r9Trim.mono_l k
 unfold r9Trim.f
 with_reducible repeat' first | exact ih0 _ | exact LeO.refl _ | exact LeO.none _ | refine LeO.ite ?_ ?_ | refine LeO.bind ?_ (fun _ => ?_)
theorem r9Trim.calls (k : Nat) (P0_ : Nat → Prop) (A0 : Option Addr) (c0 : Nat) (l0 : List Int) (r : List Int) (w : World) (hs0 : Kd.V (Kd.int .i64) 3 w w.heap.size (fun k_ => P0_ k_) (.slice A0 l0.length c0) l0) (h : r9Trim.f k l0 = some r) :
  Calls Try.prog 41 #[.slice A0 l0.length c0] w fun e w' => ∃ v0_ : Value, e = .returned (v0_) ∧ Kd.V (Kd.int .i64) 3 w' w.heap.size (fun k_ => (P0_ k_ ∨ w.heap.size ≤ k_)) v0_ r ∧ Below w.heap.size w w' := by
 have HO0 := zm (show Kd.V (Kd.int .i64) 3 w w.heap.size (fun k_ => (P0_ k_ ∨ w.heap.size ≤ k_)) (.slice A0 l0.length c0) l0 from Kd.V_mono hs0 (fun k_ hk => .inl hk))
 have HB := zm (Below.refl w.heap.size w)
 have H := h; clear h; unfold r9Trim.f at H
 have H' := zm H
 clear H
 go_enter Try.func41, Try.ntmps41
 go_wp2
 go_loopg [0] k (fun kq v0 w' => ∃ (x0_1 : List Int), Aside0 (r9Trim.l0 kq x0_1 = some r) ∧ Aside0 (kq ≤ k) ∧ Aside0 (Kd.V (Kd.int .i64) 3 w' w.heap.size (fun k_ => (P0_ k_ ∨ w.heap.size ≤ k_)) v0 x0_1) ∧ Aside0 (Below w.heap.size w w'))
 case atStart => exact ⟨(l0), H', ⟨Nat.le_refl _⟩, ⟨zV HO0.out⟩, ⟨zT⟩⟩
 case round =>
  clear H'
  obtain ⟨x0_1, HA, HK1, HO_0, HB⟩ := hrel
  cases gk with
  | zero => exact absurd HA.out (by simp [r9Trim.l0])
  | succ k1 =>
   have H := HA.out
   clear HA
   simp only [r9Trim.l0] at H
   by_cases c2 : (x0_1.length : Int) > 0
   rotate_left
   ·rw [if_neg c2] at H
    have c2b0 : decide (0 < (x0_1.length : Int)) = false := decide_eq_false c2
    have c2b1 : decide (0 < x0_1.length) = false := decide_eq_false (by omega)
    clear c2
    obtain rfl := Option.some.inj H
    obtain ⟨Ao12, co12, eo12⟩ := Kd.V_slice HO_0.out
    subst eo12
    go_wp2
    go_ret
    exact ⟨_, zQ, zV HO_0.out, zT⟩
   rw [if_pos c2] at H
   have c2b0 : decide (0 < (x0_1.length : Int)) = true := decide_eq_true c2
   have c2b1 : decide (0 < x0_1.length) = true := decide_eq_true (by omega)
   clear c2
   obtain ⟨ji3, hji3⟩ : ∃ j_ : Int, (wrap64 ((x0_1.length : Int) - 1)) = j_ := ⟨_, rfl⟩
   first | rw [hji3] at H | simp only [hji3] at H
   have hji3w : (IntKind.i64.wrap ((x0_1.length : Int) - 1)) = ji3 := (i64_w _).trans hji3
   by_cases c4 : 0 ≤ (ji3)
   rotate_left
   ·rw [if_neg c4] at H
    exact absurd H (by simp)
   rw [if_pos c4] at H
   have c4b0 := decide_eq_true c4; clear c4
   by_cases c5 : (ji3) < (x0_1.length : Int)
   rotate_left
   ·rw [if_neg c5] at H
    exact absurd H (by simp)
   rw [if_pos c5] at H
   have c5b0 := decide_eq_true c5; clear c5
   by_cases c6 : (rd x0_1 (ji3)) = 0
   rotate_left
   ·rw [if_neg c6] at H
    obtain ⟨c6b0, c6b1⟩ := zU c6
    obtain rfl := Option.some.inj H
    obtain ⟨Ao11, co11, eo11⟩ := Kd.V_slice HO_0.out
    subst eo11
    obtain ⟨p101, q101, ad101, e101, hx101_0⟩ := zI ((Kd.V_reads' HO_0.out).2.2) ((ji3)) zD zD
    cases e101
    go_wp2
    go_ret
    exact ⟨_, by first | rfl | (simp [errW_none, errW_some] <;> rfl) | (simp only [← hji3]; first | rfl | (simp [errW_none, errW_some] <;> rfl)) | (simp [*, errW_none, errW_some] <;> rfl), zV HO_0.out, zT⟩
   rw [if_pos c6] at H
   obtain ⟨c6b0, c6b1⟩ := zE c6; clear c6
   have c7b0 := eq_true (zD : 0 ≤ (ji3))
   by_cases c8 : (ji3) ≤ (x0_1.length : Int)
   rotate_left
   ·rw [if_neg c8] at H
    exact absurd H (by simp)
   rw [if_pos c8] at H
   have c8b0 := eq_true c8; have c8b1 := decide_eq_true c8; clear c8
   obtain ⟨y102, Ny102⟩ := zA ((x0_1.take ((ji3) : Int).toNat) : List Int); rw [← Ny102.out] at H
   have H' := zm H
   clear H
   obtain ⟨Ao9, co9, eo9⟩ := Kd.V_slice HO_0.out
   subst eo9
   obtain ⟨p101, q101, ad101, e101, hx101_0⟩ := zI ((Kd.V_reads' HO_0.out).2.2) ((ji3)) zD zD
   cases e101
   have q10 : ((ji3) : Int) ≤ ((x0_1.length : Int) : Int) := zD
   obtain ⟨i010, hi010, _, hsz10, _⟩ := info_parts info3
   have hroom10 : x0_1.length ≤ co9 := (Kd.V_reads' HO_0.out).2.1
   have hC10 : Kd.F (Kd.int .i64) _ _ (some ad101) x0_1.length x0_1 := (Kd.V_at (base := w.heap.size) HO_0.out).2.2
   have hcut10 := cut_to (P := Try.prog) 25 3 .i64 Try.underlying25 hi010 (some ad101) x0_1.length co9 (ji3) zD q10 hroom10
   have hr10 := Kd.F_take (m := ((ji3) : Int).toNat) hC10 (by omega)
   have hy10 : y102.length = ((ji3) : Int).toNat := (by rw [Ny102.out, List.length_take]; omega)
   rw [← Ny102.out] at hr10
   rw [← hy10] at hcut10
   have HO106 := zm (show Kd.V (Kd.int .i64) 3 _ w.heap.size _ (.slice (some ad101) y102.length co9) y102 from Kd.V_mk (by omega) hr10)
   have HC106 := zm (show y102.length ≤ co9 from by omega)
   clear hr10 hC10 hroom10 hi010 hsz10
   have KY10 := zm hy10
   clear hy10
   replace q10 := eq_true q10
   go_wp2
   go_roundg k1
   case measure => have := HK1.out; omega
   case rel => exact ⟨(y102), H', ⟨by have := HK1.out; omega⟩, ⟨zV HO106.out⟩, ⟨zT⟩⟩
def r9Copy.f (l0 : List Int) : Option (List Int) := (some (([] : List Int) : List Int)).bind fun y101 => (if y101.length + l0.length < 17592186044416 then (some (y101 ++ l0)) else (none))
theorem r9Copy.calls (A0 : Option Addr) (c0 : Nat) (l0 : List Int) (r : List Int) (w : World) (hr0 : Kd.C (Kd.int .i64) w A0 l0.length l0) (hc0 : l0.length ≤ c0) (h : r9Copy.f l0 = some r) :
  Calls Try.prog 47 #[.slice A0 l0.length c0] w fun e w' => ∃ v0_ : Value, e = .returned (v0_) ∧ Kd.R (Kd.int .i64) 3 w' w.heap.size (fun _ => True) v0_ r ∧ Below w.heap.size w w' := by
 have HR0 := zm hr0
 have HC0 := zm hc0
 clear hr0 hc0
 have HB := zm (Below.refl w.heap.size w)
 have H := h; clear h; unfold r9Copy.f at H
 obtain ⟨y101, Ny101, H⟩ := zY H
 by_cases c2 : y101.length + l0.length < 17592186044416
 rotate_left
 ·rw [if_neg c2] at H
  exact absurd H (by simp)
 rw [if_pos c2] at H
 have LMc2 := zm c2
 clear c2
 obtain ⟨y104, Ny104⟩ := zA ((y101 ++ l0) : List Int); rw [← Ny104.out] at H
 obtain rfl := Option.some.inj H
 go_enter Try.func47, Try.ntmps47
 go_wp2_with (first | ((with_reducible refine gate_dst (N := 3) rfl ?_); refine Kd.R_lit (Kd.int .i64) _ 3 ?hg (N := 3) ?hd (xs := ([] : List Int)) (inner := []) (ok := fun _ => True) (okp := fun _ => True) ?hr ?hp (fun _ hk => hk) trivial (Below.refl _ _) (Nat.le_refl _) (by simp) ?_; (case hd => rfl); (case hg => rfl); (case hr => go_simp <;> rfl); (case hp => exact (Reps.none _ _)); intro v102 w3 ho4 hb hg_ hnew_; clear hg_ hnew_; (first | rw [← Ny101.out] at ho4 | (simp only [Int.reduceToNat] at ho4; rw [← Ny101.out] at ho4)); have HO103 := zm (Kd.R_lower ho4 (zS HB)); replace HB := zBb HB hb; clear hb ho4) | ((with_reducible refine gate_builtin (b := .append) (xs := #[.tmp 3, .tmp 4]) rfl ?_); at_builtin; refine Kd.R_append_rows (Kd.int .i64) (w0 := w) w.heap.size rfl (.tmp 3) (.tmp 4) 25 3 (.int .i64 0) 8 rfl Try.underlying25 info3 rfl (by decide) (by omega) v102 y101 l0 _ _ _ (fun _ => True) (fun _ => False) rfl rfl ?aO ?aR (fun _ _ h => h) (fun _ h => h.elim) ?aF ?aB ?aS ?aL ?_; (case aR => exact zC (Kd.C_below HR0.out HB.out)); (case aB => exact (zT)); (case aF => exact (fun _ _ => trivial)); (case aO => exact (zR HO103.out)); (case aS => exact (zS HB)); (case aL => have := LMc2.out; omega); intro v105 w5 ho hb hg hat; rw [← Ny104.out] at ho; replace HB := zm (hb); have HO106 := zm (ho); clear HO103; clear ho hb hg hat))
 go_ret
 exact ⟨_, zQ, zR HO106.out, zT⟩
def fp_Add.l0 : Nat → Int → List Int → List Int → List Int → Int → Int → Option (List Int)
 | 0, _, _, _, _, _, _ => none
 | k + 1, x0, x1, x2, x7, x16, x17 => if x17 < x16 then ((fp_at.f x1 x17).bind fun t104 => ((fp_at.f x2 x17).bind fun t105 => (if x0 = 0 then (none) else (if 0 ≤ x17 then (if x17 < (x7.length : Int) then (fp_Add.l0 k x0 x1 x2 (x7.set (x17 : Int).toNat (Int.tmod (wrap64 (t104 + t105)) x0)) x16 (wrap64 (x17 + 1))) else (none)) else (none))))) else ((fp_Trim.f k x7).bind fun t107 => (some t107))
def fp_Add.f (k : Nat) (a0 : Int) (l1 : List Int) (l2 : List Int) : Option (List Int) := if 0 ≤ (mx (l1.length : Int) (l2.length : Int)) then (if (mx (l1.length : Int) (l2.length : Int) : Int).toNat ≤ 35184372088832 then ((some (List.replicate (mx (l1.length : Int) (l2.length : Int) : Int).toNat 0 : List Int)).bind fun y101 => (fp_Add.l0 k a0 l1 l2 y101 (y101.length : Int) 0)) else (none)) else (none)
theorem fp_Add.mono_l : ∀ k, (∀ y0 y1 y2 y3 y4 y5, LeO (fp_Add.l0 k y0 y1 y2 y3 y4 y5) (fp_Add.l0 (k + 1) y0 y1 y2 y3 y4 y5))
 | 0 => fun _ _ _ _ _ _ r h => by simp [fp_Add.l0] at h
 | k + 1 => by
  have ih0 := fp_Add.mono_l k
  intro y0 y1 y2 y3 y4 y5
  unfold fp_Add.l0
  with_reducible repeat' first | exact ih0 _ _ _ _ _ _ | exact fp_Trim.mono _ _ | exact LeO.refl _ | exact LeO.none _ | refine LeO.ite ?_ ?_ | refine LeO.bind ?_ (fun _ => ?_)
theorem fp_Add.mono : ∀ a0 a1 a2 k, LeO (fp_Add.f k a0 a1 a2) (fp_Add.f (k + 1) a0 a1 a2) := by
 intro a0 a1 a2 k
 have ih0 := fp_Add.mono_l k
 unfold fp_Add.f
 with_reducible repeat' first | exact ih0 _ _ _ _ _ _ | exact fp_Trim.mono _ _ | exact LeO.refl _ | exact LeO.none _ | refine LeO.ite ?_ ?_ | refine LeO.bind ?_ (fun _ => ?_)
theorem fp_Add.calls (k : Nat) (a0 : Int) (A1 : Option Addr) (c1 : Nat) (l1 : List Int) (A2 : Option Addr) (c2 : Nat) (l2 : List Int) (r : List Int) (w : World) (hr1 : Kd.C (Kd.int .i64) w A1 l1.length l1) (hc1 : l1.length ≤ c1) (hr2 : Kd.C (Kd.int .i64) w A2 l2.length l2) (hc2 : l2.length ≤ c2) (h : fp_Add.f k a0 l1 l2 = some r) :
  Calls Try.prog 60 #[.int .i64 a0, .slice A1 l1.length c1, .slice A2 l2.length c2] w fun e w' => ∃ v0_ : Value, e = .returned (v0_) ∧ Kd.V (Kd.int .i64) 3 w' w.heap.size (fun k_ => (w.heap.size ≤ k_)) v0_ r ∧ Below w.heap.size w w' := by
 have HR1 := zm hr1
 have HC1 := zm hc1
 clear hr1 hc1
 have HR2 := zm hr2
 have HC2 := zm hc2
 clear hr2 hc2
 have HB := zm (Below.refl w.heap.size w)
 have H := h; clear h; unfold fp_Add.f at H
 obtain ⟨ji4, hji4⟩ : ∃ j_ : Int, (mx (l1.length : Int) (l2.length : Int)) = j_ := ⟨_, rfl⟩
 first | rw [hji4] at H | simp only [hji4] at H
 (try (have hji4l : 0 ≤ ji4 := by (rw [← hji4]; unfold mx; (repeat' split) <;> omega)))
 (try (have hji4m : 0 ≤ ji4 := by omega))
 have hji4_ : (if (l1.length : Int) < (l2.length : Int) then (l2.length : Int) else (l1.length : Int)) = ji4 := hji4
 (try (have hji4_n := hji4_; simp only [Int.ofNat_lt] at hji4_n))
 by_cases c5 : 0 ≤ (ji4)
 rotate_left
 ·rw [if_neg c5] at H
  exact absurd H (by simp)
 rw [if_pos c5] at H
 have c5b0 := eq_true c5; have c5b1 := decide_eq_true c5; clear c5
 by_cases c6 : (ji4 : Int).toNat ≤ 35184372088832
 rotate_left
 ·rw [if_neg c6] at H
  exact absurd H (by simp)
 rw [if_pos c6] at H
 have c6b0 := eq_true c6; have c6b1 := decide_eq_true c6; clear c6
 obtain ⟨y101, Ny101, H⟩ := zY H
 have H' := zm H
 clear H
 go_enter Try.func60, Try.ntmps60
 go_wp2_with (first | ((with_reducible refine gate_dst (N := 14) rfl ?_); refine Kd.R_make (Kd.int .i64) _ 3 rfl (N := 14) rfl 25 _ _ rfl ji4 rfl rfl Try.underlying25 (.int .i64 0) 8 info3 rfl (by decide) (by omega) 0 (ok := fun _ => True) (okp := fun _ => True) rfl (fun _ hk => hk) trivial zD (Nat.le_trans (Nat.mul_le_mul_right _ (zD : ji4.toNat ≤ 35184372088832)) (by omega)) (Below.refl _ _) (Nat.le_refl _) ?_; intro v102 w7 ho8 hb hg_ hnew_; clear hg_ hnew_; (first | rw [← Ny101.out] at ho8 | (simp only [Int.reduceToNat] at ho8; rw [← Ny101.out] at ho8)); have HO103 := zm (Kd.R_lower (Kd.R_newM (M := fun k_ => (w.heap.size ≤ k_)) ho8 (zS HB) (fun k_ h_ => h_)) (zS HB)); replace HB := zBb HB hb; clear hb ho8; obtain ⟨Ao9, co9, eo9⟩ := Kd.R_slice HO103.out; subst eo9))
 go_loopg [17] k (fun kq v17 w' => ∃ (x7_1 : List Int) (x17_1 : Int), v17 = .int .i64 x17_1 ∧ Aside0 (fp_Add.l0 kq a0 l1 l2 x7_1 (y101.length : Int) x17_1 = some r) ∧ Aside0 (kq ≤ k) ∧ Aside0 (Kd.R (Kd.int .i64) 3 w' w.heap.size (fun k_ => (w.heap.size ≤ k_)) (.slice Ao9 y101.length co9) x7_1) ∧ Aside0 (Below w.heap.size w w'))
 case atStart => exact ⟨(y101), (0), zX, H', ⟨Nat.le_refl _⟩, ⟨zR (Kd.R_mono HO103.out (fun _ hk => hk.1))⟩, ⟨zT⟩⟩
 case round =>
  clear H'
  obtain ⟨x7_1, x17_1, rfl, HA, HK1, HO_7, HB⟩ := hrel
  have hl7_1 := (Kd.R_reads' HO_7.out).1
  rw [hl7_1] at HO_7
  (try simp only [hl7_1])
  cases gk with
  | zero => exact absurd HA.out (by simp [fp_Add.l0])
  | succ k1 =>
   have H := HA.out
   clear HA
   simp only [fp_Add.l0] at H
   by_cases c10 : x17_1 < (y101.length : Int)
   rotate_left
   ·rw [if_neg c10] at H
    have c10b0 : decide (x17_1 < (y101.length : Int)) = false := decide_eq_false c10
    (try (have c10b0_hl7_1 := c10b0; simp only [hl7_1] at c10b0_hl7_1))
    clear c10
    obtain ⟨t107, A19, H⟩ := zO H
    obtain rfl := Option.some.inj H
    go_wp2_with (first | ((with_reducible refine gate_callee (f := 92) rfl ?_); refine zG (some 34) Try.func92 #[.slice Ao9 x7_1.length co9] ?_; (with_reducible refine (fp_Trim.calls k1 (fun k_ => some k_ = (.slice Ao9 x7_1.length co9 : Value).ownBlock) _ _ x7_1 t107 _ (Kd.R_V (Kd.R_tight rfl (HO_7.out))) A19.out).mono ?_); rintro e w20 ⟨v108, rfl, ho0, hb⟩; refine ⟨_, rfl, ?_⟩; have HO109 := zWV (fun k_ => (w.heap.size ≤ k_)) ho0 HB (fun k_ hk_ => Or.elim hk_ (fun hs_ => ((HO_7.out).1 k_ hs_.symm)) (fun hn_ => (Nat.le_trans (zS HB) hn_))); replace HO_7 := zRb HO_7 hb; replace HB := zBb HB hb))
    go_ret
    exact ⟨_, by first | rfl | (simp [errW_none, errW_some] <;> rfl) | (simp only [← hji4]; first | rfl | (simp [errW_none, errW_some] <;> rfl)) | (simp [*, errW_none, errW_some] <;> rfl), zV HO109.out, zT⟩
   rw [if_pos c10] at H
   have c10b0 : decide (x17_1 < (y101.length : Int)) = true := decide_eq_true c10
   (try (have c10b0_hl7_1 := c10b0; simp only [hl7_1] at c10b0_hl7_1))
   clear c10
   obtain ⟨t104, A11, H⟩ := zO H
   obtain ⟨t105, A12, H⟩ := zO H
   by_cases c13 : a0 = 0
   ·rw [if_pos c13] at H
    exact absurd H (by simp)
   rw [if_neg c13] at H
   obtain ⟨c13b0, c13b1⟩ := zU c13
   by_cases c14 : 0 ≤ x17_1
   rotate_left
   ·rw [if_neg c14] at H
    exact absurd H (by simp)
   rw [if_pos c14] at H
   have c14b0 := decide_eq_true c14; clear c14
   by_cases c15 : x17_1 < (x7_1.length : Int)
   rotate_left
   ·rw [if_neg c15] at H
    exact absurd H (by simp)
   rw [if_pos c15] at H
   have c15b0 : decide (x17_1 < (x7_1.length : Int)) = true := decide_eq_true c15
   (try (have c15b0_hl7_1 := c15b0; simp only [hl7_1] at c15b0_hl7_1))
   clear c15
   obtain ⟨y106, Ny106⟩ := zA ((x7_1.set (x17_1 : Int).toNat (Int.tmod (wrap64 (t104 + t105)) a0)) : List Int); rw [← Ny106.out] at H
   have H' := zm H
   clear H
   go_wp2_with (first | ((with_reducible refine gate_callee (f := 95) rfl ?_); refine zG (some 24) Try.func95 #[.slice A1 l1.length c1, .int .i64 x17_1] ?_; (with_reducible refine (fp_at.calls _ _ l1 x17_1 t104 _ (zC (Kd.C_below HR1.out HB.out)) HC1.out A11.out).mono ?_); rintro e w' ⟨rfl, ⟨nd, rfl⟩⟩; refine ⟨_, rfl, ?_⟩; (try (rw [drewN_self wr]; generalize hq_ : World.drewN wr _ = wr; have n0_ : Aside0 (Kd.R (Kd.int .i64) 3 wr w.heap.size (fun k_ => (w.heap.size ≤ k_)) (.slice Ao9 x7_1.length co9) x7_1) := ⟨by rw [← hq_]; exact (zR HO_7.out)⟩; have n1_ : Aside0 (Below w.heap.size w wr) := ⟨by rw [← hq_]; exact (zT)⟩; clear HO_7 HB hq_; have HO_7 := n0_; have HB := n1_; clear n0_ n1_))) | ((with_reducible refine gate_callee (f := 95) rfl ?_); refine zG (some 27) Try.func95 #[.slice A2 l2.length c2, .int .i64 x17_1] ?_; (with_reducible refine (fp_at.calls _ _ l2 x17_1 t105 _ (zC (Kd.C_below HR2.out HB.out)) HC2.out A12.out).mono ?_); rintro e w' ⟨rfl, ⟨nd, rfl⟩⟩; refine ⟨_, rfl, ?_⟩; (try (rw [drewN_self wr]; generalize hq_ : World.drewN wr _ = wr; have n0_ : Aside0 (Kd.R (Kd.int .i64) 3 wr w.heap.size (fun k_ => (w.heap.size ≤ k_)) (.slice Ao9 x7_1.length co9) x7_1) := ⟨by rw [← hq_]; exact (zR HO_7.out)⟩; have n1_ : Aside0 (Below w.heap.size w wr) := ⟨by rw [← hq_]; exact (zT)⟩; clear HO_7 HB hq_; have HO_7 := n0_; have HB := n1_; clear n0_ n1_)); have p16 : 0 ≤ (x17_1 : Int) := zD; have q16 : (x17_1 : Int) < ((x7_1.length : Int) : Int) := zD; obtain ⟨go16, co16, eo16, gb16, gl16, cl16, HG16⟩ := Kd.R_form HO_7.out (by omega); (first | cases eo16 | (injection eo16 with ea_ en_ ec_; (first | subst ea_ | (injection ea_ with ea_; subst ea_)); subst ec_; clear en_)); have GB16 := zm gb16; have GG16 := zm HG16; clear gb16 gl16 HG16; obtain ⟨hx16_0, hf16_0⟩ := Kd.R_celln 0 HO_7.out (x17_1 : Int) p16 q16; replace p16 := eq_true p16; replace q16 := eq_true q16; obtain ⟨hy17_, hz17_⟩ := Kd.R_celln 0 HO_7.out (x17_1 : Int) zD zD; have HP17 := Kd.R_putg HO_7.out (x17_1 : Int) (Int.tmod (wrap64 (t104 + t105)) a0)) | ((with_reducible refine gate_store (t := 3) (p := 31) rfl ?_); refine store_event (t := 3) (p := 31) (v := ?vo_w18) (w1 := (wr.setCell ⟨go16, (x17_1 : Int).toNat, none⟩ (.int .i64 (Int.tmod (wrap64 (t104 + t105)) a0)))) ?hg ?ho ?hn ?hr ?_; (case ho => rfl); (case hg => rfl); (case hn => rfl); (case hr => go_simp <;> rfl); intro w18 hw; have hg : wr.grownBy w18 (some go16) := (by rw [hw]; exact HP17.2); have hp_ : Kd.R (Kd.int .i64) 3 w18 w.heap.size (fun k_ => (w.heap.size ≤ k_)) (.slice (some ⟨go16, 0, none⟩) x7_1.length co9) y106 := (by rw [hw, Ny106.out]; exact HP17.1); clear HP17; replace HO_7 := zm (hp_); replace HB := zm ((by rw [hw]; exact below_set (HB.out) GB16.out : Below w.heap.size w w18)); clear hg hw hp_))
   (try simp only [← hl7_1])
   (first | go_roundg k1 | (simp only [show ∀ g_ : Nat, ({ block := g_, off := (ji4).toNat } : Addr) = ({ block := g_, off := 0 } : Addr).add (ji4).toNat from fun g_ => by simp [Addr.add]]; go_roundg k1))
   case measure => have := HK1.out; omega
   case rel => exact ⟨(y106), (wrap64 (x17_1 + 1)), zX, H', ⟨by have := HK1.out; omega⟩, ⟨by (try simp only [hl7_1]); (with_reducible repeat (first | apply Kd.R_alloc | apply Kd.R_drewN | apply Kd.R_drew)); exact HO_7.out⟩, ⟨zT⟩⟩
end Go.Proofs.Ytalnaafmonmlmaa.Q
end
